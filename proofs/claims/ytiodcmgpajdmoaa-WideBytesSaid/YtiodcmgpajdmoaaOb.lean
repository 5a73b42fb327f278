/-
  An argument of thirty-two bytes, opened.
-/
import Derived.Test.YtiodcmgpajdmoaaCl
import Derived.Test.YtiodcmgpajdmoaaFr
namespace Go.Proofs.Ytiodcmgpajdmoaa
open Go.ChangeShapes Go.WideShapes Go.ChangeAt Go.RowKit

/-- The number in a cell. -/
def numOf : Option Value → Int
  | some (.int _ a) => a
  | _ => 0

theorem u8_of_wf {x : Int} (h : (Lit.int .u8 x).wf = true) : 0 ≤ x ∧ x < 256 := by
  simp [Lit.wf, IntKind.min, IntKind.max, IntKind.signed, IntKind.bits] at h
  exact ⟨by omega, by omega⟩

set_option maxRecDepth 100000 in
theorem open_b32 {H : Type} {enc : TypeId × Value → H} {W : World} {r : Reach} {base : Nat} {sp : Nat → Bool} {held : Bool} {b0 : Nat} {v : Value} {d : DataW H} {p : List MemPlace} (hv : Value.okWide Try.prog W r base 36 v) (h : DataW.Trod enc Try.prog W b0 sp held 36 v d p) :
    ∃ f, Bytes8 f ∧ v = bv f := by
  unfold Value.okWide at hv
  rw [Try.underlying36] at hv
  obtain ⟨cs, rfl, hsz, -⟩ := hv
  have hc : Try.prog.cellsOf 36 = 32 := by kernel_rfl
  have hc1 : Try.prog.cellsOf 5 = 1 := by kernel_rfl
  rw [hc] at hsz
  obtain ⟨fuel, hf⟩ := h
  obtain ⟨xs, m, -, -, -, hlen, hat⟩ := DataW.trod_array Try.underlying36 hf
  have key : ∀ i, i < 32 → ∃ a : Int, cs[i]? = some (.int .u8 a) ∧ 0 ≤ a ∧ a < 256 := by
    intro i hi
    have h1 := hat i hi
    rw [hc1, Nat.mul_one] at h1
    have hs : (cs.toList.drop i).take 1 = [cs[i]'(by omega)] := by
      rw [List.drop_eq_getElem_cons (by simpa using (by omega : i < cs.size))]
      simp
    have hcells : (Value.agg cs).cells.toList = cs.toList := rfl
    rw [hcells, hs, List.getElem?_eq_getElem (by omega)] at h1
    obtain ⟨a, e, -, hw⟩ := DataW.trod_int Try.underlying5 h1
    have hb := u8_of_wf hw
    refine ⟨a, ?_, hb.1, hb.2⟩
    rw [Array.getElem?_eq_getElem (by omega)]
    simpa using e
  refine ⟨fun i => if i < 32 then numOf cs[i]? else 0, fun i => ?_, ?_⟩
  · by_cases hi : i < 32
    · obtain ⟨a, e, h1, h2⟩ := key i hi
      simp only [hi, if_true, e, numOf]; exact ⟨h1, h2⟩
    · simp [hi]
  · show Value.agg cs = Value.agg (row32 _)
    congr 1
    apply Array.ext_getElem?
    intro i
    by_cases hi : i < 32
    · obtain ⟨a, e, -, -⟩ := key i hi
      rw [row32_get _ _ hi, e]; simp only [hi, if_true, numOf]
    · rw [Array.getElem?_eq_none (by omega), Array.getElem?_eq_none (by unfold row32; simp; omega)]
end Go.Proofs.Ytiodcmgpajdmoaa
