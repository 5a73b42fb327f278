/-
  bynameref02.Sub: the digits of a difference.
-/
import Derived.Test.YtdobfmpngfgafaaDa
namespace Go.Proofs.Ytdobfmpngfgafaa
open Go.RowKit

theorem dg_drop (ds : List Nat) (n i : Nat) : dg (ds.drop n) i = dg ds (n + i) := by
  unfold dg; rw [List.getD_eq_getElem?_getD, List.getElem?_drop, List.getD_eq_getElem?_getD]
theorem valN_drop (ds : List Nat) : ∀ n, val ds = valN ds n + 65536 ^ n * val (ds.drop n)
  | 0 => by simp [valN]
  | n + 1 => by
    rw [valN_drop ds n, valN, Nat.pow_succ]
    by_cases h : n < ds.length
    · rw [List.drop_eq_getElem_cons h]
      have e : dg ds n = ds[n] := by simp [dg, List.getD_eq_getElem?_getD, h]
      rw [e, val, Nat.mul_add, Nat.mul_assoc, Nat.mul_comm ds[n]]; omega
    · rw [List.drop_of_length_le (by omega), List.drop_of_length_le (by omega), dg_end ds n (by omega)]; simp [val]
/-- Digits of a number that is small are just those. -/
theorem valN_small (ds : List Nat) (n : Nat) (h : val ds < 65536 ^ n) : valN ds n = val ds := by
  have e := valN_drop ds n
  rcases Nat.eq_zero_or_pos (val (ds.drop n)) with h0 | h0
  · rw [h0] at e; omega
  · have : 65536 ^ n * 1 ≤ 65536 ^ n * val (ds.drop n) := Nat.mul_le_mul_left _ h0
    omega

/-- What Sub's loop holds before round k. -/
structure SubInv (w : World) (da db : List Nat) (k bo g c : Nat) (ds : List Nat) (wr : World) : Prop where
  own : OwnD wr w.heap.size g k c ds
  below : Below w.heap.size w wr
  borrow : bo ≤ 1
  kn : k ≤ da.length
  sum : val ds + valN db k = valN da k + 65536 ^ k * bo
  digs : Digs ds

theorem SubInv.start (w : World) (da db : List Nat) : SubInv w da db 0 0 w.heap.size 0 [] (w.alloc (.cells #[] 22)) :=
  ⟨OwnD.start' w _ (Nat.le_refl _) _ rfl, (Below.refl _ _).alloc (Nat.le_refl _) _, by omega, by omega, by simp [val, valN], fun d hd => by cases hd⟩

theorem SubInv.step {w : World} {da db : List Nat} {k bo g c : Nat} {ds : List Nat} {wr : World} (h : SubInv w da db k bo g c ds wr) 
    (hgo : k < da.length) {g' c' d q : Nat} {w' : World} (hq : q ≤ 1) (hd : d + dg db k + bo = dg da k + 65536 * q) (hd2 : d < 65536)
    (ho : OwnD w' w.heap.size g' (k + 1) c' (ds ++ [d])) (hbl : Below w.heap.size wr w') : SubInv w da db (k + 1) q g' c' (ds ++ [d]) w' := by
  refine ⟨ho, h.below.trans hbl, hq, by omega, ?_, h.digs.snoc d hd2⟩
  have hs := h.sum
  rw [val_snoc, h.own.len, valN, valN, Nat.pow_succ]
  have e2 : 65536 ^ k * (d + dg db k + bo) = 65536 ^ k * (dg da k + 65536 * q) := by rw [hd]
  rw [Nat.mul_add, Nat.mul_add, Nat.mul_add, ← Nat.mul_assoc] at e2
  rw [Nat.mul_comm (dg da k), Nat.mul_comm (dg db k)]
  omega

theorem SubInv.done {w : World} {da db : List Nat} {bo g c : Nat} {ds : List Nat} {wr : World} (h : SubInv w da db da.length bo g c ds wr) (ha : Digs da) (hle : val db ≤ val da) :
    RetD w (fun ds => val ds = val da - val db ∧ Digs ds ∧ ds.length = da.length) (.returned (sv g 0 da.length c)) wr := by
  have hs := h.sum
  have hl := val_lt da ha
  rw [valN_eq da _ (Nat.le_refl _), valN_small db _ (by omega)] at hs
  have hlt := val_lt ds h.digs
  have e := h.own.len
  rw [e] at hlt
  have hb0 : bo = 0 := by
    rcases Nat.eq_zero_or_pos bo with h0 | h0
    · exact h0
    · have := h.borrow
      obtain rfl : bo = 1 := by omega
      omega
  subst hb0
  exact ⟨g, c, ds, ⟨by omega, h.digs, e⟩, by rw [e], by rw [e]; exact h.own, h.below⟩

set_option maxRecDepth 100000 in
set_option maxHeartbeats 4000000 in
theorem sub_d (b1 o1 c1 b2 o2 c2 : Nat) (da db : List Nat) (w : World) (h1 : Dg w b1 o1 da) (h2 : Dg w b2 o2 db) (l1 : da.length ≤ 1000) (l2 : db.length ≤ 1000) (g1 : Digs da) (g2 : Digs db) (hle : val db ≤ val da) :
    Calls Try.prog 40 #[sv b1 o1 da.length c1, sv b2 o2 db.length c2] w (RetD w fun ds => val ds = val da - val db ∧ Digs ds ∧ ds.length = da.length) := by
  have H1 := Lib.hid h1; have H2 := Lib.hid h2; have G1 := Lib.hid g1; have G2 := Lib.hid g2; have HL := Lib.hid hle
  have hll : (da.length : Int) ≤ 1000 := by omega
  have hll2 : (db.length : Int) ≤ 1000 := by omega
  clear h1 h2 g1 g2 hle
  go_enter Try.func40, Try.ntmps40
  go_wp2
  go_loopw [5, 6, 13] (fun v bv iv wr => ∃ k bo g c : Nat, ∃ ds : List Nat, v = sv g 0 k c ∧ bv = .int .u64 bo ∧ iv = .int .i64 k ∧ Hid (SubInv w da db k bo g c ds wr)) (fun _ _ iv _ => da.length - (intOf iv).toNat)
  case atStart => exact ⟨0, 0, w.heap.size, 0, [], rfl, rfl, rfl, SubInv.start w da db⟩
  case round =>
    obtain ⟨k, bo, g, c, ds, rfl, rfl, rfl, I⟩ := hrel
    have hbo : (bo : Int) ≤ 1 := by have := I.out.borrow; omega
    have A1 := Lib.hid (H1.out.keep I.out.below); have A2 := Lib.hid (H2.out.keep I.out.below)
    have hx : (dg da k : Int) < 65536 := by have := digs_at da G1.out k; omega
    have hy : (dg db k : Int) < 65536 := by have := digs_at db G2.out k; omega
    by_cases h1 : k < da.length
    · have r1 := A1.out.cell k h1
      have h1i : (k : Int) < da.length := by omega
      have C2 := Lib.hid (show Calls Try.prog 47 #[sv b2 o2 db.length c2, .int .i64 (k : Int)] wr fun e w' => e = .returned (.int .u64 ((dg db k : Nat) : Int)) ∧ wr = w' from at_c b2 o2 c2 db (k : Int) wr A2.out (by omega) (by omega))
      by_cases hlt : dg da k < dg db k + bo
      · have hlti : (dg da k : Int) < dg db k + bo := by omega
        obtain ⟨d, hd, f1⟩ : ∃ d : Nat, d = dg da k + 65536 - (dg db k + bo) ∧ (dg da k : Int) + 65536 - (dg db k + bo) = d := ⟨_, rfl, by omega⟩
        have HS : Hid (∀ g' c' w', OwnD w' w.heap.size g' (k + 1) c' (ds ++ [d]) → Below w.heap.size wr w' → SubInv w da db (k + 1) 1 g' c' (ds ++ [d]) w') := by
          exact fun g' c' w' ho hb => I.out.step h1 (by omega) (by omega) (by omega) ho hb
        clear hd hlt
        go_wp2_with (first | (at_builtin; go_loud (refine wpList_push (by rfl) (.tmp 30) (.tmp 34) (by rfl) w.heap.size g k c d wr.heap.size ds (by rfl) (by rfl) (I.out.own.keep (Below.alloc (Below.refl _ _) (Nat.le_refl _) _)) (by omega) (by go_simp) ?_; intro g' c' w' ho hb; have HI := Lib.hid (HS.out g' c' w' ho ((Below.alloc (Below.refl w.heap.size wr) I.out.below.size _).trans hb)); clear ho hb)) | (go_at_call 47; (with_reducible refine C2.out.mono ?_); rintro e w' ⟨rfl, rfl⟩))
        go_roundw
        case rel => exact ⟨k + 1, 1, g', c', ds ++ [d], rfl, rfl, by go_num, HI.out⟩
        case measure => simp [intOf]; omega
      · have hlti : (dg db k : Int) + bo ≤ dg da k := by omega
        have hltd : decide ((dg da k : Int) < dg db k + bo) = false := by simp; omega
        obtain ⟨d, hd, f1⟩ : ∃ d : Nat, d = dg da k - (dg db k + bo) ∧ (dg da k : Int) - (dg db k + bo) = d := ⟨_, rfl, by omega⟩
        have HS : Hid (∀ g' c' w', OwnD w' w.heap.size g' (k + 1) c' (ds ++ [d]) → Below w.heap.size wr w' → SubInv w da db (k + 1) 0 g' c' (ds ++ [d]) w') := by
          exact fun g' c' w' ho hb => I.out.step h1 (by omega) (by omega) (by omega) ho hb
        clear hd hlt
        go_wp2_with (first | (at_builtin; go_loud (refine wpList_push (by rfl) (.tmp 30) (.tmp 34) (by rfl) w.heap.size g k c d wr.heap.size ds (by rfl) (by rfl) (I.out.own.keep (Below.alloc (Below.refl _ _) (Nat.le_refl _) _)) (by omega) (by go_simp) ?_; intro g' c' w' ho hb; have HI := Lib.hid (HS.out g' c' w' ho ((Below.alloc (Below.refl w.heap.size wr) I.out.below.size _).trans hb)); clear ho hb)) | (go_at_call 47; (with_reducible refine C2.out.mono ?_); rintro e w' ⟨rfl, rfl⟩))
        go_roundw
        case rel => exact ⟨k + 1, 0, g', c', ds ++ [d], rfl, rfl, by go_num, HI.out⟩
        case measure => simp [intOf]; omega
    · have h1i : ¬ (k : Int) < da.length := by omega
      obtain rfl : k = da.length := by have := I.out.kn; omega
      have hfin := Lib.hid (I.out.done G1.out HL.out)
      go_wp2
      go_ret
      exact hfin.out
end Go.Proofs.Ytdobfmpngfgafaa
