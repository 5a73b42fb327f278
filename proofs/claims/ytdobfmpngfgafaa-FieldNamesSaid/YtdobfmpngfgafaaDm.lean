/-
  bynameref02.Mul: the digits of a product.
-/
import Derived.Test.YtdobfmpngfgafaaDe
namespace Go.Proofs.Ytdobfmpngfgafaa
open Go.RowKit

/-- What Mul's loops hold: the row of the result, and what it amounts to. In round i of the outer loop, before round j of the inner one (j = 0 and carry 0 outside). -/
structure MulInv (w : World) (da db : List Nat) (i j cy g : Nat) (ds : List Nat) (wr : World) : Prop where
  own : OwnD wr w.heap.size g (da.length + db.length) (da.length + db.length) ds
  below : Below w.heap.size w wr
  digs : Digs ds
  carry : cy < 65536
  sum : val ds + 65536 ^ (i + j) * cy = valN da i * val db + 65536 ^ i * (dg da i * valN db j)
  high : ∀ k, i + db.length ≤ k → dg ds k = 0

theorem MulInv.start {w W : World} {da db : List Nat} {g : Nat} (h : OwnD W w.heap.size g (da.length + db.length) (da.length + db.length) (List.replicate (da.length + db.length) 0)) (hb : Below w.heap.size w W) :
    MulInv w da db 0 0 0 g (List.replicate (da.length + db.length) 0) W :=
  ⟨h, hb, digs_noughts _, by decide, by simp [valN, val_noughts], fun k _ => by
    unfold dg; rw [List.getD_eq_getElem?_getD]
    cases hk : (List.replicate (da.length + db.length) 0)[k]? with
    | none => rfl
    | some v => rw [List.getElem?_replicate] at hk; split at hk <;> simp_all⟩

theorem dg_set_same (ds : List Nat) (i d : Nat) (hi : i < ds.length) : dg (ds.set i d) i = d := by
  unfold dg; rw [List.getD_eq_getElem?_getD, List.getElem?_set]; simp [hi]
theorem dg_set_other (ds : List Nat) (i d j : Nat) (hi : i ≠ j) : dg (ds.set i d) j = dg ds j := by
  unfold dg; rw [List.getD_eq_getElem?_getD, List.getElem?_set, List.getD_eq_getElem?_getD]; simp [hi]

/-- A round of the inner loop. -/
theorem MulInv.step {w : World} {da db : List Nat} {i j cy g : Nat} {ds : List Nat} {wr : World} (h : MulInv w da db i j cy g ds wr) (hi : i < da.length) (hj : j < db.length)
    {d q : Nat} (hd : d = (cy + (dg ds (i + j) + dg da i * dg db j)) % 65536) (hq : q = (cy + (dg ds (i + j) + dg da i * dg db j)) / 65536) (ha : Digs da) (hb : Digs db) :
    MulInv w da db i (j + 1) q g (ds.set (i + j) d) (wr.setCell ⟨g, i + j, none⟩ (.int .u64 ((d : Nat) : Int))) := by
  have hx := digs_at da ha i; have hy := digs_at db hb j; have hz := digs_at ds h.digs (i + j); have hc := h.carry
  have hxy : dg da i * dg db j ≤ 65535 * 65535 := Nat.mul_le_mul (by omega) (by omega)
  have hdl : d < 65536 := by omega
  refine ⟨h.own.store _ _, h.below.setCell (h.own.base.1) _, digs_set _ h.digs _ _ hdl, by omega, ?_, fun k hk => ?_⟩
  · have e := val_set ds (i + j) d (by rw [h.own.len]; omega)
    have hs := h.sum
    have ed : cy + (dg ds (i + j) + dg da i * dg db j) = d + 65536 * q := by omega
    have e2 : 65536 ^ (i + j) * (cy + (dg ds (i + j) + dg da i * dg db j)) = 65536 ^ (i + j) * (d + 65536 * q) := by rw [ed]
    rw [Nat.mul_add, Nat.mul_add, Nat.mul_add] at e2
    have e3 : 65536 ^ i * (dg da i * valN db (j + 1)) = 65536 ^ i * (dg da i * valN db j) + 65536 ^ (i + j) * (dg da i * dg db j) := by
      rw [valN, Nat.mul_add, Nat.mul_add, Nat.pow_add]
      congr 1
      rw [← Nat.mul_assoc (dg da i), Nat.mul_comm (dg da i * dg db j), Nat.mul_assoc]
    have e4 : 65536 ^ (i + (j + 1)) * q = 65536 ^ (i + j) * (65536 * q) := by rw [← Nat.add_assoc, Nat.pow_succ, Nat.mul_assoc]
    rw [e3, e4]
    omega
  · rw [dg_set_other _ _ _ _ (by omega)]; exact h.high k hk

/-- Behind the inner loop. -/
theorem MulInv.next {w : World} {da db : List Nat} {i cy g : Nat} {ds : List Nat} {wr : World} (h : MulInv w da db i db.length cy g ds wr) (hi : i < da.length) :
    MulInv w da db (i + 1) 0 0 g (ds.set (i + db.length) cy) (wr.setCell ⟨g, i + db.length, none⟩ (.int .u64 ((cy : Nat) : Int))) := by
  refine ⟨h.own.store _ _, h.below.setCell (h.own.base.1) _, digs_set _ h.digs _ _ h.carry, by decide, ?_, fun k hk => ?_⟩
  · have e := val_set ds (i + db.length) cy (by rw [h.own.len]; omega)
    rw [h.high _ (Nat.le_refl _)] at e
    have hs := h.sum
    rw [valN_eq db _ (Nat.le_refl _)] at hs
    have e3 : valN da (i + 1) * val db = valN da i * val db + 65536 ^ i * (dg da i * val db) := by
      rw [valN, Nat.add_mul, Nat.mul_comm (dg da i) (65536 ^ i), Nat.mul_assoc]
    rw [e3]
    simp only [valN, Nat.mul_zero, Nat.add_zero] at *
    omega
  · rw [dg_set_other _ _ _ _ (by omega)]; exact h.high k (by omega)

theorem MulInv.done {w : World} {da db : List Nat} {g : Nat} {ds : List Nat} {wr : World} (h : MulInv w da db da.length 0 0 g ds wr) :
    RetD w (fun ds => val ds = val da * val db ∧ Digs ds ∧ ds.length = da.length + db.length) (.returned (sv g 0 (da.length + db.length) (da.length + db.length))) wr := by
  have hs := h.sum
  rw [valN_eq da _ (Nat.le_refl _)] at hs
  simp only [valN, Nat.mul_zero, Nat.add_zero] at hs
  exact RetD.mk ⟨hs, h.digs, h.own.len⟩ h.own h.below
set_option maxRecDepth 100000 in
set_option maxHeartbeats 4000000 in
theorem mul_d (b1 o1 c1 b2 o2 c2 : Nat) (da db : List Nat) (w : World) (h1 : Dg w b1 o1 da) (h2 : Dg w b2 o2 db) (l1 : da.length ≤ 1000) (l2 : db.length ≤ 1000) (g1 : Digs da) (g2 : Digs db) :
    Calls Try.prog 43 #[sv b1 o1 da.length c1, sv b2 o2 db.length c2] w (RetD w fun ds => val ds = val da * val db ∧ Digs ds ∧ ds.length = da.length + db.length) := by
  have H1 := Lib.hid h1; have H2 := Lib.hid h2; have G1 := Lib.hid g1; have G2 := Lib.hid g2
  have hll : (da.length : Int) ≤ 1000 := by omega
  have hll2 : (db.length : Int) ≤ 1000 := by omega
  clear h1 h2 g1 g2
  go_enter Try.func43, Try.ntmps43
  go_wp2_with (at_make; go_loud (refine wpList_noughts (by rfl) _ _ (by rfl) w.heap.size (da.length + db.length) _ _ (by rfl) (by rfl) (by simp) (by simp) (by omega) (Nat.le_refl _) ?_; intro W1 ho hb; have I0 := Lib.hid (MulInv.start ho hb); clear ho hb))
  go_loopw [8, 19] (fun cv iv wr => ∃ i : Nat, ∃ ds : List Nat, iv = .int .i64 i ∧ i ≤ da.length ∧ Hid (MulInv w da db i 0 0 w.heap.size ds wr)) (fun _ iv _ => da.length - (intOf iv).toNat)
  case atStart => exact ⟨0, _, rfl, Nat.zero_le _, I0⟩
  case round =>
    obtain ⟨i, ds0, rfl, hi, J⟩ := hrel
    by_cases h1 : i < da.length
    · have h1i : (i : Int) < da.length := by omega
      have r1 := (H1.out.keep J.out.below).cell i h1
      have hx : (dg da i : Int) < 65536 := by have := digs_at da G1.out i; omega
      go_wp2
      obtain ⟨wo, hwo⟩ : ∃ wo : World, wo = wr := ⟨_, rfl⟩
      go_loopw [8, 26] (fun cv jv wr => ∃ j cy : Nat, ∃ ds : List Nat, jv = .int .i64 j ∧ cv = .int .u64 cy ∧ j ≤ db.length ∧ Hid (MulInv w da db i j cy w.heap.size ds wr)) (fun _ jv _ => db.length - (intOf jv).toNat)
      case atStart => exact ⟨0, 0, ds0, rfl, rfl, Nat.zero_le _, J⟩
      case round =>
        obtain ⟨j, cy, ds, rfl, rfl, hj, I⟩ := hrel
        by_cases h2 : j < db.length
        · have h2i : (j : Int) < db.length := by omega
          have r2 := (H2.out.keep I.out.below).cell j h2
          have r3 := I.out.own.at_ (i + j) (by omega)
          have fr := I.out.own.frozen (i + j)
          have hy : (dg db j : Int) < 65536 := by have := digs_at db G2.out j; omega
          have hz : (dg ds (i + j) : Int) < 65536 := by have := digs_at ds I.out.digs (i + j); omega
          have hcy : (cy : Int) < 65536 := by have := I.out.carry; omega
          have hxy : dg da i * dg db j ≤ 65535 * 65535 := Nat.mul_le_mul (by omega) (by omega)
          have hm : ((dg da i : Int) * (dg db j : Int)) ≤ 4294836225 := by rw [← Int.natCast_mul]; omega
          have hm0 : 0 ≤ ((dg da i : Int) * (dg db j : Int)) := by rw [← Int.natCast_mul]; omega
          obtain ⟨d, q, ⟨hd, hq⟩, f1, f2⟩ := quot1 (cy + (dg ds (i + j) + dg da i * dg db j))
          have HI := Lib.hid (I.out.step h1 h2 hd hq G1.out G2.out)
          clear hd hq hxy
          simp only [Int.natCast_add, Int.natCast_mul] at f1 f2
          have hq0 : (0 : Int) ≤ q := by omega
          go_wp2
          go_roundw
          case rel => exact ⟨j + 1, q, _, by go_num, by first | rfl | rw [f2], by omega, HI.out⟩
          case measure => simp [intOf]; omega
        · have h2i : ¬ (j : Int) < db.length := by omega
          obtain rfl : j = db.length := by omega
          have r3 := I.out.own.at_ (i + db.length) (by omega)
          have fr := I.out.own.frozen (i + db.length)
          have HI := Lib.hid (I.out.next h1)
          go_wp2
          go_roundw
          case rel => exact ⟨i + 1, _, by go_num, by omega, HI.out⟩
          case measure => simp [intOf]; omega
    · have h1i : ¬ (i : Int) < da.length := by omega
      obtain rfl : i = da.length := by omega
      have HF := Lib.hid J.out.done
      go_wp2
      go_ret
      exact HF.out
end Go.Proofs.Ytdobfmpngfgafaa
