/-
  An argument that is two numbers of 256 bits.
-/
import Derived.Test.YtdobfmpngfgafaaCl
import Derived.Test.YtdobfmpngfgafaaGr
namespace Go.Proofs.Ytdobfmpngfgafaa
open Go.ChangeShapes Go.WideShapes Go.ChangeAt Go.RowKit

theorem array8 {α : Type} {cs : Array α} (h : cs.size = 8) : ∃ c0 c1 c2 c3 c4 c5 c6 c7, cs = #[c0, c1, c2, c3, c4, c5, c6, c7] := by
  obtain ⟨l⟩ := cs
  match l, h with
  | [c0, c1, c2, c3, c4, c5, c6, c7], _ => exact ⟨c0, c1, c2, c3, c4, c5, c6, c7, rfl⟩

/-- Four cells that are trodden as a number. -/
theorem open_cells {H : Type} {enc : TypeId × Value → H} {W : World} {sp : Nat → Bool} {held : Bool} {b0 fuel : Nat} {c0 c1 c2 c3 : Value} {x : DataW H × List MemPlace} (hf : DataW.trod enc Try.prog W b0 sp held fuel 24 [c0, c1, c2, c3] = some x) :
    ∃ n, n < W256 ∧ c0 = .int .u64 (limb n 0 : Nat) ∧ c1 = .int .u64 (limb n 1 : Nat) ∧ c2 = .int .u64 (limb n 2 : Nat) ∧ c3 = .int .u64 (limb n 3 : Nat) := by
  obtain ⟨y0, y1, y2, y3, n, -, h0, h1, h2, h3⟩ := trod_array4 Try.underlying24 (by kernel_rfl) hf
  obtain ⟨a0, e0, -, w0⟩ := DataW.trod_int Try.underlying22 h0
  obtain ⟨a1, e1, -, w1⟩ := DataW.trod_int Try.underlying22 h1
  obtain ⟨a2, e2, -, w2⟩ := DataW.trod_int Try.underlying22 h2
  obtain ⟨a3, e3, -, w3⟩ := DataW.trod_int Try.underlying22 h3
  simp at e0 e1 e2 e3
  subst e0 e1 e2 e3
  have b0 := wd_of_wf w0; have b1 := wd_of_wf w1; have b2 := wd_of_wf w2; have b3 := wd_of_wf w3
  obtain ⟨n0, rfl⟩ := Int.eq_ofNat_of_zero_le b0.1
  obtain ⟨n1, rfl⟩ := Int.eq_ofNat_of_zero_le b1.1
  obtain ⟨n2, rfl⟩ := Int.eq_ofNat_of_zero_le b2.1
  obtain ⟨n3, rfl⟩ := Int.eq_ofNat_of_zero_le b3.1
  obtain ⟨l0, l1, l2, l3, hw⟩ := limbs_of n0 n1 n2 n3 (by omega) (by omega) (by omega) (by omega)
  exact ⟨_, hw, by rw [l0], by rw [l1], by rw [l2], by rw [l3]⟩

theorem open_wide2 {H : Type} {enc : TypeId × Value → H} {W : World} {r : Reach} {base : Nat} {sp : Nat → Bool} {held : Bool} {b0 : Nat} {v : Value} {d : DataW H} {p : List MemPlace} (hv : Value.okWide Try.prog W r base 43 v) (h : DataW.Trod enc Try.prog W b0 sp held 43 v d p) :
    ∃ m n, (m < W256 ∧ n < W256) ∧ v = .agg (limbs8 m n) := by
  unfold Value.okWide at hv
  rw [Try.underlying43] at hv
  obtain ⟨cs, rfl, hsz, -⟩ := hv
  have hc : Try.prog.cellsOf 43 = 8 := by kernel_rfl
  have hc1 : Try.prog.cellsOf 24 = 4 := by kernel_rfl
  obtain ⟨c0, c1, c2, c3, c4, c5, c6, c7, rfl⟩ := array8 (hsz.trans hc)
  obtain ⟨fuel, hf⟩ := h
  obtain ⟨xs, m, -, -, -, hlen, hat⟩ := DataW.trod_array Try.underlying43 hf
  have h0 := hat 0 (by decide)
  have h1 := hat 1 (by decide)
  rw [hc1, List.getElem?_eq_getElem (by omega)] at h0 h1
  obtain ⟨m, hm, e0, e1, e2, e3⟩ := open_cells (show DataW.trod _ _ _ _ _ _ _ _ [c0, c1, c2, c3] = _ from h0)
  obtain ⟨n, hn, e4, e5, e6, e7⟩ := open_cells (show DataW.trod _ _ _ _ _ _ _ _ [c4, c5, c6, c7] = _ from h1)
  exact ⟨m, n, ⟨hm, hn⟩, by rw [e0, e1, e2, e3, e4, e5, e6, e7]⟩
end Go.Proofs.Ytdobfmpngfgafaa
