/-
  bynameref02.Add: the digits of a sum.
-/
import Derived.Test.YtdobfmpngfgafaaDo
namespace Go.Proofs.Ytdobfmpngfgafaa
open Go.RowKit

theorem quot1 (t : Nat) : ∃ d q : Nat, (d = t % 65536 ∧ q = t / 65536) ∧ (t : Int) % 65536 = d ∧ (t : Int) / 65536 = q := ⟨_, _, ⟨rfl, rfl⟩, rfl, rfl⟩

theorem Digs.snoc {ds : List Nat} (h : Digs ds) (d : Nat) (hd : d < 65536) : Digs (ds ++ [d]) := by
  intro x hx
  rcases List.mem_append.1 hx with hx | hx
  · exact h x hx
  · simp at hx; subst hx; exact hd

/-- What Add's loop holds before round k. -/
structure AddInv (w : World) (da db : List Nat) (n k cy g c : Nat) (ds : List Nat) (wr : World) : Prop where
  own : OwnD wr w.heap.size g k c ds
  below : Below w.heap.size w wr
  carry : cy ≤ 1
  kn : k ≤ n + 1
  top : k = n + 1 → cy = 0
  sum : val ds + 65536 ^ k * cy = valN da k + valN db k
  digs : Digs ds

theorem AddInv.start (w : World) (da db : List Nat) (n : Nat) : AddInv w da db n 0 0 w.heap.size 0 [] (w.alloc (.cells #[] 22)) :=
  ⟨OwnD.start' w _ (Nat.le_refl _) _ rfl, (Below.refl _ _).alloc (Nat.le_refl _) _, by omega, by omega, fun _ => rfl, by simp [val, valN], fun d hd => by cases hd⟩

theorem AddInv.step {w : World} {da db : List Nat} {n k cy g c : Nat} {ds : List Nat} {wr : World} (h : AddInv w da db n k cy g c ds wr) (ha : Digs da) (hb : Digs db) (hla : da.length ≤ n) (hlb : db.length ≤ n)
    (hgo : k ≤ n) {g' c' d q : Nat} {w' : World} (hd : d = (cy + dg da k + dg db k) % 65536) (hq : q = (cy + dg da k + dg db k) / 65536)
    (ho : OwnD w' w.heap.size g' (k + 1) c' (ds ++ [d])) (hbl : Below w.heap.size wr w') : AddInv w da db n (k + 1) q g' c' (ds ++ [d]) w' := by
  have h1 := digs_at da ha k; have h2 := digs_at db hb k; have h3 := h.carry
  refine ⟨ho, h.below.trans hbl, by omega, by omega, fun e => ?_, ?_, h.digs.snoc d (by omega)⟩
  · have := dg_end da k (by omega); have := dg_end db k (by omega); omega
  · have hs := h.sum
    rw [val_snoc, h.own.len, valN, valN, Nat.pow_succ]
    have e : cy + dg da k + dg db k = d + 65536 * q := by omega
    have e2 : 65536 ^ k * (cy + dg da k + dg db k) = 65536 ^ k * (d + 65536 * q) := by rw [e]
    rw [Nat.mul_add, Nat.mul_add, Nat.mul_add, ← Nat.mul_assoc] at e2
    rw [Nat.mul_comm (dg da k), Nat.mul_comm (dg db k)]
    omega

theorem AddInv.done {w : World} {da db : List Nat} {n k g c : Nat} {ds : List Nat} {wr : World} (h : AddInv w da db n k 0 g c ds wr) (hla : da.length ≤ k) (hlb : db.length ≤ k) :
    RetD w (fun ds => val ds = val da + val db ∧ Digs ds ∧ ds.length ≤ n + 1) (.returned (sv g 0 k c)) wr := by
  have hs := h.sum
  rw [valN_eq da k hla, valN_eq db k hlb] at hs
  have := h.kn
  obtain rfl := h.own.len
  exact ⟨g, c, ds, ⟨by omega, h.digs, by omega⟩, rfl, h.own, h.below⟩

set_option maxRecDepth 100000 in
set_option maxHeartbeats 4000000 in
theorem add_d (b1 o1 c1 b2 o2 c2 n : Nat) (da db : List Nat) (w : World) (h1 : Dg w b1 o1 da) (h2 : Dg w b2 o2 db) (l1 : da.length ≤ n) (l2 : db.length ≤ n) (hn : n ≤ 1000) (g1 : Digs da) (g2 : Digs db) :
    Calls Try.prog 42 #[sv b1 o1 da.length c1, sv b2 o2 db.length c2] w (RetD w fun ds => val ds = val da + val db ∧ Digs ds ∧ ds.length ≤ n + 1) := by
  have H1 := Lib.hid h1; have H2 := Lib.hid h2; have G1 := Lib.hid g1; have G2 := Lib.hid g2
  have hll : (da.length : Int) ≤ 1000 := by omega
  have hll2 : (db.length : Int) ≤ 1000 := by omega
  clear h1 h2 g1 g2
  go_enter Try.func42, Try.ntmps42
  go_wp2
  go_loopw [5, 6, 7] (fun v cv iv wr => ∃ k cy g c : Nat, ∃ ds : List Nat, v = sv g 0 k c ∧ cv = .int .u64 cy ∧ iv = .int .i64 k ∧ Hid (AddInv w da db n k cy g c ds wr)) (fun _ _ iv _ => n + 1 - (intOf iv).toNat)
  case atStart => exact ⟨0, 0, w.heap.size, 0, [], rfl, rfl, rfl, AddInv.start w da db n⟩
  case round =>
    obtain ⟨k, cy, g, c, ds, rfl, rfl, rfl, I⟩ := hrel
    have hcy : (cy : Int) ≤ 1 := by have := I.out.carry; omega
    have hkn : (k : Int) ≤ 1001 := by have := I.out.kn; omega
    have A1 := Lib.hid (H1.out.keep I.out.below); have A2 := Lib.hid (H2.out.keep I.out.below)
    have hx : (dg da k : Int) < 65536 := by have := digs_at da G1.out k; omega
    have hy : (dg db k : Int) < 65536 := by have := digs_at db G2.out k; omega
    by_cases h1 : k < da.length
    · have r1 := A1.out.cell k h1
      have h1i : (k : Int) < da.length := by omega
      by_cases h2 : k < db.length
      · have r2 := A2.out.cell k h2
        have h2i : (k : Int) < db.length := by omega
        obtain ⟨d, q, ⟨hd, hq⟩, f1, f2⟩ := quot1 (cy + dg da k + dg db k)
        have HS : Hid (∀ g' c' w', OwnD w' w.heap.size g' (k + 1) c' (ds ++ [d]) → Below w.heap.size wr w' → AddInv w da db n (k + 1) q g' c' (ds ++ [d]) w') := by
          exact fun g' c' w' ho hb => I.out.step G1.out G2.out l1 l2 (by omega) (by omega) (by omega) ho hb
        clear hd hq
        simp only [Int.natCast_add] at f1 f2
        have hq0 : (0 : Int) ≤ q := by omega
        go_wp2_with (at_builtin; go_loud (refine wpList_push (by rfl) (.tmp 45) (.tmp 48) (by rfl) w.heap.size g k c d wr.heap.size ds (by rfl) (by rfl) (I.out.own.keep (Below.alloc (Below.refl _ _) (Nat.le_refl _) _)) (by omega) (by go_simp) ?_; intro g' c' w' ho hb; have HI := Lib.hid (HS.out g' c' w' ho ((Below.alloc (Below.refl w.heap.size wr) I.out.below.size _).trans hb)); clear ho hb))
        go_roundw
        case rel => exact ⟨k + 1, q, g', c', ds ++ [d], rfl, by first | rfl | rw [f2], by go_num, HI.out⟩
        case measure => simp [intOf]; omega
      · have h2i : ¬ (k : Int) < db.length := by omega
        obtain ⟨d, q, ⟨hd, hq⟩, f1, f2⟩ := quot1 (cy + dg da k)
        have HS : Hid (∀ g' c' w', OwnD w' w.heap.size g' (k + 1) c' (ds ++ [d]) → Below w.heap.size wr w' → AddInv w da db n (k + 1) q g' c' (ds ++ [d]) w') := by
          have := dg_end db k (by omega); exact fun g' c' w' ho hb => I.out.step G1.out G2.out l1 l2 (by omega) (by omega) (by omega) ho hb
        clear hd hq
        simp only [Int.natCast_add] at f1 f2
        have hq0 : (0 : Int) ≤ q := by omega
        go_wp2_with (at_builtin; go_loud (refine wpList_push (by rfl) (.tmp 45) (.tmp 48) (by rfl) w.heap.size g k c d wr.heap.size ds (by rfl) (by rfl) (I.out.own.keep (Below.alloc (Below.refl _ _) (Nat.le_refl _) _)) (by omega) (by go_simp) ?_; intro g' c' w' ho hb; have HI := Lib.hid (HS.out g' c' w' ho ((Below.alloc (Below.refl w.heap.size wr) I.out.below.size _).trans hb)); clear ho hb))
        go_roundw
        case rel => exact ⟨k + 1, q, g', c', ds ++ [d], rfl, by first | rfl | rw [f2], by go_num, HI.out⟩
        case measure => simp [intOf]; omega
    · have h1i : ¬ (k : Int) < da.length := by omega
      by_cases h2 : k < db.length
      · have r2 := A2.out.cell k h2
        have h2i : (k : Int) < db.length := by omega
        obtain ⟨d, q, ⟨hd, hq⟩, f1, f2⟩ := quot1 (cy + dg db k)
        have HS : Hid (∀ g' c' w', OwnD w' w.heap.size g' (k + 1) c' (ds ++ [d]) → Below w.heap.size wr w' → AddInv w da db n (k + 1) q g' c' (ds ++ [d]) w') := by
          have := dg_end da k (by omega); exact fun g' c' w' ho hb => I.out.step G1.out G2.out l1 l2 (by omega) (by omega) (by omega) ho hb
        clear hd hq
        simp only [Int.natCast_add] at f1 f2
        have hq0 : (0 : Int) ≤ q := by omega
        go_wp2_with (at_builtin; go_loud (refine wpList_push (by rfl) (.tmp 45) (.tmp 48) (by rfl) w.heap.size g k c d wr.heap.size ds (by rfl) (by rfl) (I.out.own.keep (Below.alloc (Below.refl _ _) (Nat.le_refl _) _)) (by omega) (by go_simp) ?_; intro g' c' w' ho hb; have HI := Lib.hid (HS.out g' c' w' ho ((Below.alloc (Below.refl w.heap.size wr) I.out.below.size _).trans hb)); clear ho hb))
        go_roundw
        case rel => exact ⟨k + 1, q, g', c', ds ++ [d], rfl, by first | rfl | rw [f2], by go_num, HI.out⟩
        case measure => simp [intOf]; omega
      · have h2i : ¬ (k : Int) < db.length := by omega
        by_cases h3 : cy = 0
        · subst h3
          have hfin := Lib.hid (I.out.done (by omega) (by omega))
          go_wp2
          go_ret
          exact hfin.out
        · have hgo : k ≤ n := by have := I.out.kn; have := I.out.top; omega
          obtain rfl : cy = 1 := by have := I.out.carry; omega
          have HS : Hid (∀ g' c' w', OwnD w' w.heap.size g' (k + 1) c' (ds ++ [1]) → Below w.heap.size wr w' → AddInv w da db n (k + 1) 0 g' c' (ds ++ [1]) w') := by
            have := dg_end da k (by omega); have := dg_end db k (by omega)
            exact fun g' c' w' ho hb => I.out.step G1.out G2.out l1 l2 hgo (by omega) (by omega) ho hb
          clear h3
          go_wp2_with (at_builtin; go_loud (refine wpList_push (by rfl) (.tmp 45) (.tmp 48) (by rfl) w.heap.size g k c 1 wr.heap.size ds (by rfl) (by rfl) (I.out.own.keep (Below.alloc (Below.refl _ _) (Nat.le_refl _) _)) (by omega) (by go_simp) ?_; intro g' c' w' ho hb; have HI := Lib.hid (HS.out g' c' w' ho ((Below.alloc (Below.refl w.heap.size wr) I.out.below.size _).trans hb)); clear ho hb))
          go_roundw
          case rel => exact ⟨k + 1, 0, g', c', ds ++ [1], rfl, rfl, by go_num, HI.out⟩
          case measure => simp [intOf]; omega
end Go.Proofs.Ytdobfmpngfgafaa
