/-
  bynameref03.Prime and trim.
-/
import Derived.Test.YtdobfmpngfgafaaRh
import Derived.Test.YtdobfmpngfgafaaDd
import Derived.Test.YtdobfmpngfgafaaFa
namespace Go.Proofs.Ytdobfmpngfgafaa
open Go.RowKit

def textP : ByteArray := { data := #[70, 70, 70, 70, 70, 70, 70, 70, 70, 70, 70, 70, 70, 70, 70, 70, 70, 70, 70, 70, 70, 70, 70, 70, 70, 70, 70, 70, 70, 70, 70, 70, 70, 70, 70, 70, 70, 70, 70, 70, 70, 70, 70, 70, 70, 70, 70, 70, 70, 70, 70, 70, 70, 70, 70, 69, 70, 70, 70, 70, 70, 67, 50, 70] }
def textN : ByteArray := { data := #[70, 70, 70, 70, 70, 70, 70, 70, 70, 70, 70, 70, 70, 70, 70, 70, 70, 70, 70, 70, 70, 70, 70, 70, 70, 70, 70, 70, 70, 70, 70, 69, 66, 65, 65, 69, 68, 67, 69, 54, 65, 70, 52, 56, 65, 48, 51, 66, 66, 70, 68, 50, 53, 69, 56, 67, 68, 48, 51, 54, 52, 49, 52, 49] }
instance (x : Nat) : Decidable (hexok x) := by unfold hexok; exact inferInstance
theorem textP_ok : ∀ i, i < 64 → hexok (byt textP i) := by decide +kernel
theorem textN_ok : ∀ i, i < 64 → hexok (byt textN i) := by decide +kernel
theorem textP_val : val ((List.range 16).map (hex4 textP)) = PRM true := by decide +kernel
theorem textN_val : val ((List.range 16).map (hex4 textN)) = PRM false := by decide +kernel
theorem text_digs (s : ByteArray) (h : ∀ i, i < 64 → hexok (byt s i)) : Digs ((List.range 16).map (hex4 s)) := fun d hd => by
  obtain ⟨k, hk, rfl⟩ := List.mem_map.1 hd
  have hk := List.mem_range.1 hk
  have := hx_lt (fun j => byt s (60 - 4 * k + j)) (fun j hj => h _ (by omega)) 4 (by decide)
  exact this

/-- What a call says that answers digits in a slice of its own, with room told. -/
def RetT (w : World) (Q : List Nat → Prop) (e : Ending) (w' : World) : Prop := ∃ g c ds o, Hid (Q ds) ∧ e = .returned (sv g 0 ds.length c) ∧ Hid (ds.length ≤ c) ∧ Hid (DRow ds o) ∧ Hid (w'.heap[g]? = some o) ∧ Below w.heap.size w w'
theorem RetD.t {w : World} {Q : List Nat → Prop} {e : Ending} {w' : World} (h : RetD w Q e w') : RetT w Q e w' := by
  obtain ⟨g, c, ds, hQ, he, ho, hb⟩ := h
  obtain ⟨o, hr, hg⟩ := ho.row
  exact ⟨g, c, ds, o, hQ, he, ho.cap, hr, hg, hb⟩

set_option maxRecDepth 100000 in
set_option maxHeartbeats 1000000 in
theorem prime_c (p : Bool) (w : World) : Calls Try.prog 29 #[.bool p] w (RetT w fun ds => val ds = PRM p ∧ Digs ds ∧ ds.length = 16) := by
  have CP : Hid (∀ W, Calls Try.prog 48 #[.string textP] W (RetT W fun ds => val ds = PRM true ∧ Digs ds ∧ ds.length = 16)) := fun W => (hex_d textP rfl textP_ok W).mono fun e w' h => by
    obtain ⟨g, c, ds, o, hQ, rest⟩ := h.t
    have hQ := hQ.out
    subst hQ
    exact ⟨g, c, _, o, ⟨textP_val, text_digs _ textP_ok, by simp⟩, rest⟩
  have CN : Hid (∀ W, Calls Try.prog 48 #[.string textN] W (RetT W fun ds => val ds = PRM false ∧ Digs ds ∧ ds.length = 16)) := fun W => (hex_d textN rfl textN_ok W).mono fun e w' h => by
    obtain ⟨g, c, ds, o, hQ, rest⟩ := h.t
    have hQ := hQ.out
    subst hQ
    exact ⟨g, c, _, o, ⟨textN_val, text_digs _ textN_ok, by simp⟩, rest⟩
  unfold textP at CP
  unfold textN at CN
  cases p with
  | true =>
    go_enter Try.func29, Try.ntmps29
    go_wp2_with fail
    refine (CP.out _).mono ?_
    rintro e W1 ⟨g, c, ds, o, hQ, rfl, hc, hr, hg, hb⟩
    have HB := Lib.hid hb
    clear hb
    go_wp2_with fail
    go_ret
    exact ⟨g, c, ds, o, hQ, rfl, hc, hr, hg, HB.out⟩
  | false =>
    go_enter Try.func29, Try.ntmps29
    go_wp2_with fail
    refine (CN.out _).mono ?_
    rintro e W1 ⟨g, c, ds, o, hQ, rfl, hc, hr, hg, hb⟩
    have HB := Lib.hid hb
    clear hb
    go_wp2_with fail
    go_ret
    exact ⟨g, c, ds, o, hQ, rfl, hc, hr, hg, HB.out⟩

/-- Digits whose last one is not 0. -/
def Trimmed (ds : List Nat) : Prop := ∀ n, ds.length = n + 1 → dg ds n ≠ 0

/-- What trim says: fewer digits of the same row. -/
def RetTrim (w : World) (b c : Nat) (ds : List Nat) (e : Ending) (w' : World) : Prop := (∃ z, Hid (val z = val ds ∧ Trimmed z ∧ z.length ≤ ds.length ∧ ∃ m, z = ds.take m) ∧ e = .returned (sv b 0 z.length c)) ∧ w = w'

set_option maxRecDepth 100000 in
set_option maxHeartbeats 1000000 in
theorem trim_d (b c : Nat) (ds : List Nat) (w : World) (h : Dg w b 0 ds) (hl : ds.length ≤ 1000) (hc : ds.length ≤ c) :
    Calls Try.prog 39 #[sv b 0 ds.length c] w (RetTrim w b c ds) := by
  have H := Lib.hid h
  have hlc : (ds.length : Int) ≤ c := by omega
  have hli : (ds.length : Int) ≤ 1000 := by omega
  clear h
  go_enter Try.func39, Try.ntmps39
  go_wp2
  go_loop [0] (fun v => ∃ n : Nat, v = sv b 0 n c ∧ n ≤ ds.length ∧ Hid (val (ds.take n) = val ds)) (fun v => match v with | .slice _ n _ => n | _ => 0)
  case atStart => exact ⟨ds.length, rfl, Nat.le_refl _, by rw [List.take_length]; rfl⟩
  case round =>
    obtain ⟨n, rfl, hn, V⟩ := hrel
    have hnc : (n : Int) ≤ c := by omega
    have hn1 : (n : Int) ≤ 1000 := by omega
    have hlen : Hid ((ds.take n).length = n) := by rw [List.length_take]; exact Nat.min_eq_left hn
    by_cases h0 : n = 0
    · subst h0
      have HR : Hid (RetTrim w b c ds (.returned (sv b 0 0 c)) w) := ⟨⟨ds.take 0, ⟨V.out, fun n hn => by simp at hn, by simp, 0, rfl⟩, by rw [hlen.out]⟩, rfl⟩
      clear V hlen
      go_wp2
      go_ret
      exact HR.out
    · obtain ⟨m, rfl⟩ : ∃ m, n = m + 1 := ⟨n - 1, by omega⟩
      have rc := H.out.cell m (by omega)
      rw [Nat.zero_add] at rc
      by_cases hz : dg ds m = 0
      · have hzi : ((dg ds m : Nat) : Int) = 0 := by omega
        have HV : Hid (val (ds.take m) = val ds) := by
          have e := val_take_last (ds.take (m + 1)) m hlen.out (by rw [dg_take _ _ _ (by omega)]; exact hz)
          rw [List.take_take, Nat.min_eq_left (by omega)] at e
          exact e.trans V.out
        clear hz V hlen h0
        go_wp2
        go_round
        case rel => exact ⟨m, rfl, by omega, HV⟩
        case measure => simp
      · have hzi : (((dg ds m : Nat) : Int) == 0) = false := by simp; omega
        have hzj : ¬ ((dg ds m : Nat) : Int) = 0 := by omega
        have HR : Hid (RetTrim w b c ds (.returned (sv b 0 (m + 1) c)) w) := ⟨⟨ds.take (m + 1), ⟨V.out, fun n hn' => by
          rw [hlen.out] at hn'
          obtain rfl : n = m := by omega
          rw [dg_take _ _ _ (by omega)]; exact hz, by rw [hlen.out]; exact hn, m + 1, rfl⟩, by rw [hlen.out]⟩, rfl⟩
        clear hz V hlen h0
        go_wp2
        go_ret
        exact HR.out
end Go.Proofs.Ytdobfmpngfgafaa
