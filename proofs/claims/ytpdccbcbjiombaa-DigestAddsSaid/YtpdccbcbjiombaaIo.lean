/-
  An argument that is a slice of bytes, opened.
-/
import Derived.Test.YtpdccbcbjiombaaCl
import Derived.Test.YtpdccbcbjiombaaHu
import Derived.Deep.Matrix
namespace Go.Proofs.Ytpdccbcbjiombaa
open Go.ChangeShapes Go.WideShapes Go.ChangeAt Go.RowKit

theorem byte_of_wf {x : Int} (h : (Lit.int .u8 x).wf = true) : 0 ≤ x ∧ x < 256 := by
  simp [Lit.wf, IntKind.min, IntKind.max, IntKind.signed, IntKind.bits] at h
  exact ⟨by omega, by omega⟩
theorem lt_of_cell {W : World} {b o : Nat} {v : Value} (h : W.cell? ⟨b, o, none⟩ = some v) : b < W.heap.size := by
  unfold World.cell? at h
  rcases Nat.lt_or_ge b W.heap.size with h' | h'
  · exact h'
  · simp [Array.getElem?_eq_none h'] at h
/-- A slice of bytes as numbers, out of the reading. -/
theorem ints_piece {W : World} {a : Addr} {len cap : Nat} {zs : List Int} (hle : len ≤ zs.length) (hcell : ∀ i, i < zs.length → W.cell? (a.add i) = some (.int .u8 (zs.getD i 0))) (hwf : ∀ n ∈ zs, (Lit.int .u8 n).wf = true) :
    ∃ bs : List Nat, bs.length = len ∧ (∀ y, y ∈ bs → y < 256) ∧ PieceV W W.heap.size (.slice (some a) len cap) bs := by
  refine ⟨(zs.take len).map Int.toNat, by simp; omega, fun y hy => ?_, ?_⟩
  · simp only [List.mem_map] at hy
    obtain ⟨z, hz, rfl⟩ := hy
    have := byte_of_wf (hwf z (List.mem_of_mem_take hz)); omega
  · by_cases h0 : len = 0
    · exact Or.inl ⟨⟨_, _, by rw [h0]⟩, by simp [h0]⟩
    · obtain ⟨b, off, rfl, hc⟩ := ints_at hcell (by omega)
      have hl : ((zs.take len).map Int.toNat).length = len := by simp; omega
      refine Or.inr ⟨b, off, cap, lt_of_cell (hc 0 (by omega)), by rw [hl], fun i hi => ?_⟩
      rw [hl] at hi
      rw [hc i (by omega)]
      have hi2 : i < zs.length := by omega
      have hw := byte_of_wf (hwf _ (List.getElem_mem hi2))
      have e : nth ((zs.take len).map Int.toNat) i = (zs[i]'hi2).toNat := by
        unfold nth
        rw [List.getD_eq_getElem?_getD, List.getElem?_map, List.getElem?_take, if_pos hi, List.getElem?_eq_getElem hi2]; rfl
      rw [e, List.getD_eq_getElem?_getD, List.getElem?_eq_getElem hi2]
      simp only [Option.getD_some]
      rw [Int.toNat_of_nonneg hw.1]
theorem open_bytes {H : Type} {enc : TypeId × Value → H} {W : World} {r : Reach} {base : Nat} {sp : Nat → Bool} {held : Bool} {b0 : Nat} {v : Value} {d : DataW H} {p : List MemPlace} (hv : Value.okWide Try.prog W r base 26 v) (h : DataW.Trod enc Try.prog W b0 sp held 26 v d p) :
    ∃ bs : List Nat, ((∀ y, y ∈ bs → y < 256) ∧ bs.length ≤ 9223372036854775807) ∧ PieceV W W.heap.size v bs := by
  obtain ⟨a0, len, cap, rfl⟩ := okWide_slice Try.underlying26 hv
  obtain ⟨fuel, hf⟩ := h
  have hc1 : Try.prog.cellsOf 5 = 1 := by kernel_rfl
  rcases open_ints Try.underlying26 Try.underlying5 hc1 hf with ⟨hcs, -⟩ | ⟨a, len', cap', zs, hcs, -, hl, hm, hz, -, hcell, hwf⟩
  · have e : (Value.slice a0 len cap) = .slice none 0 0 := by simpa [Value.cells] using hcs
    injection e with e1 e2 e3
    subst e1 e2 e3
    exact ⟨[], ⟨by simp, by simp⟩, Or.inl ⟨⟨_, _, rfl⟩, rfl⟩⟩
  · have e : (Value.slice a0 len cap) = .slice (some a) len' cap' := by simpa [Value.cells] using hcs
    injection e with e1 e2 e3
    subst e1 e2 e3
    have hle : len ≤ zs.length := by rw [hz]; split <;> omega
    obtain ⟨bs, h1, h2, h3⟩ := ints_piece (cap := cap) hle hcell hwf
    simp only [maxLen] at hm
    exact ⟨bs, ⟨h2, by omega⟩, h3⟩

theorem open_bytesc {H : Type} {enc : TypeId × Value → H} {W : World} {r : Reach} {base : Nat} {sp : Nat → Bool} {held : Bool} {b0 : Nat} {v : Value} {d : DataW H} {p : List MemPlace} (hv : Value.okWide Try.prog W r base 26 v) (h : DataW.Trod enc Try.prog W b0 sp held 26 v d p) :
    ∃ bs : List Nat, ((∀ y, y ∈ bs → y < 256) ∧ bs.length ≤ 9223372036854775807) ∧ PieceV W W.heap.size v bs ∧ ∀ a n c, v = .slice a n c → n ≤ c := by
  obtain ⟨a0, len, cap, rfl⟩ := okWide_slice Try.underlying26 hv
  obtain ⟨fuel, hf⟩ := h
  have hc1 : Try.prog.cellsOf 5 = 1 := by kernel_rfl
  rcases open_ints Try.underlying26 Try.underlying5 hc1 hf with ⟨hcs, -⟩ | ⟨a, len', cap', zs, hcs, -, hl, hm, hz, -, hcell, hwf⟩
  · have e : (Value.slice a0 len cap) = .slice none 0 0 := by simpa [Value.cells] using hcs
    injection e with e1 e2 e3
    subst e1 e2 e3
    exact ⟨[], ⟨by simp, by simp⟩, Or.inl ⟨⟨_, _, rfl⟩, rfl⟩, fun a n c h => by injection h with h1 h2 h3; omega⟩
  · have e : (Value.slice a0 len cap) = .slice (some a) len' cap' := by simpa [Value.cells] using hcs
    injection e with e1 e2 e3
    subst e1 e2 e3
    have hle : len ≤ zs.length := by rw [hz]; split <;> omega
    obtain ⟨bs, h1, h2, h3⟩ := ints_piece (cap := cap) hle hcell hwf
    simp only [maxLen] at hm
    exact ⟨bs, ⟨h2, by omega⟩, h3, fun a n c h => by injection h with h1 h2 h3; omega⟩

/-- A list of bytes out of the reading. -/
theorem ints_list {W : World} {a : Addr} {len cap : Nat} {zs : List Int} (hle : len ≤ zs.length) (hcell : ∀ i, i < zs.length → W.cell? (a.add i) = some (.int .u8 (zs.getD i 0))) (hwf : ∀ n ∈ zs, (Lit.int .u8 n).wf = true) :
    ((zs.take len).map Int.toNat).length = len ∧ (∀ y, y ∈ (zs.take len).map Int.toNat → y < 256) ∧ PieceV W W.heap.size (.slice (some a) len cap) ((zs.take len).map Int.toNat) := by
  refine ⟨by simp; omega, fun y hy => ?_, ?_⟩
  · simp only [List.mem_map] at hy
    obtain ⟨z, hz, rfl⟩ := hy
    have := byte_of_wf (hwf z (List.mem_of_mem_take hz)); omega
  · by_cases h0 : len = 0
    · exact Or.inl ⟨⟨_, _, by rw [h0]⟩, by simp [h0]⟩
    · obtain ⟨b, off, rfl, hc⟩ := ints_at hcell (by omega)
      have hl : ((zs.take len).map Int.toNat).length = len := by simp; omega
      refine Or.inr ⟨b, off, cap, lt_of_cell (hc 0 (by omega)), by rw [hl], fun i hi => ?_⟩
      rw [hl] at hi
      rw [hc i (by omega)]
      have hi2 : i < zs.length := by omega
      have hw := byte_of_wf (hwf _ (List.getElem_mem hi2))
      have e : nth ((zs.take len).map Int.toNat) i = (zs[i]'hi2).toNat := by
        unfold nth
        rw [List.getD_eq_getElem?_getD, List.getElem?_map, List.getElem?_take, if_pos hi, List.getElem?_eq_getElem hi2]; rfl
      rw [e, List.getD_eq_getElem?_getD, List.getElem?_eq_getElem hi2]
      simp only [Option.getD_some]
      rw [Int.toNat_of_nonneg hw.1]
/-- A slice of slices of bytes. -/
theorem open_pieces {H : Type} {enc : TypeId × Value → H} {W : World} {r : Reach} {base : Nat} {held : Bool} {b0 : Nat} {v : Value} {d : DataW H} {p : List MemPlace} (hv : Value.okWide Try.prog W r base 22 v) (h : DataW.Trod enc Try.prog W b0 (fun _ => true) held 22 v d p) :
    ∃ pss : List (List Nat), ((∀ ys, ys ∈ pss → ∀ y, y ∈ ys → y < 256) ∧ pss.length ≤ 9223372036854775807) ∧ Pcs W W.heap.size v pss ∧ ∀ ys, ys ∈ pss → ys.length ≤ 9223372036854775807 := by
  obtain ⟨a0, len, cap, rfl⟩ := okWide_slice Try.underlying22 hv
  obtain ⟨fuel, hf⟩ := h
  have hc1 : Try.prog.cellsOf 5 = 1 := by kernel_rfl
  have hc2 : Try.prog.cellsOf 26 = 1 := by kernel_rfl
  rcases Go.Deep.open_int_rows Try.underlying22 Try.underlying26 Try.underlying5 hc2 hc1 hf with ⟨hcs, -⟩ | ⟨a, len', cap', A, L, C, Z, hcs, -, hl, hm, -, hrow⟩
  · have e : (Value.slice a0 len cap) = .slice none 0 0 := by simpa [Value.cells] using hcs
    injection e with e1 e2 e3
    subst e1 e2 e3
    exact ⟨[], ⟨by simp, by simp⟩, ⟨fun _ h => h, Or.inl ⟨⟨_, _, rfl⟩, rfl⟩⟩, by simp⟩
  · have e : (Value.slice a0 len cap) = .slice (some a) len' cap' := by simpa [Value.cells] using hcs
    injection e with e1 e2 e3
    subst e1 e2 e3
    simp only [maxLen] at hm
    have one : ∀ i, i < len → ((((Z i).take (L i)).map Int.toNat).length ≤ 9223372036854775807 ∧ (∀ y, y ∈ ((Z i).take (L i)).map Int.toNat → y < 256)) ∧ PieceV W W.heap.size (.slice (A i) (L i) (C i)) (((Z i).take (L i)).map Int.toNat) := by
      intro i hi
      obtain ⟨-, h1, h2, h3, h4, h5, h6⟩ := hrow i (by omega)
      simp only [maxLen] at h2
      cases hA : A i with
      | none =>
        have hC := h5 hA
        have hL : L i = 0 := by omega
        refine ⟨⟨by simp [hL], by simp [hL]⟩, Or.inl ⟨⟨_, _, by rw [hL]⟩, by simp [hL]⟩⟩
      | some a' =>
        obtain ⟨x1, x2, x3⟩ := ints_list (a := a') (cap := C i) (len := L i) (zs := Z i) (by omega) (fun c hc => (h6 a' hA).2 c (by omega)) h4
        exact ⟨⟨by omega, x2⟩, x3⟩
    refine ⟨(List.range len).map fun i => ((Z i).take (L i)).map Int.toNat, ⟨fun ys hys => ?_, by simp; omega⟩, ⟨fun _ h => h, ?_⟩, fun ys hys => ?_⟩
    · simp only [List.mem_map, List.mem_range] at hys
      obtain ⟨i, hi, rfl⟩ := hys
      exact (one i hi).1.2
    · by_cases h0 : len = 0
      · exact Or.inl ⟨⟨_, _, by rw [h0]⟩, by simp [h0]⟩
      · obtain ⟨b, off, spot⟩ := a
        have hspot : spot = none := by
          have := (hrow 0 (by omega)).1
          simpa [Addr.add] using World.cell?_spot this
        subst hspot
        have hcell : ∀ i, i < len → W.cell? ⟨b, off + i, none⟩ = some (.slice (A i) (L i) (C i)) := fun i hi => by
          have := (hrow i (by omega)).1
          rwa [Go.WideShapes.add_plain] at this
        refine Or.inr ⟨b, off, cap, lt_of_cell (hcell 0 (by omega)), by simp, fun i ys hi => ?_⟩
        have hlt : i < len := by
          have := (List.getElem?_eq_some_iff.1 hi).1
          simpa using this
        rw [List.getElem?_map, List.getElem?_range hlt] at hi
        simp only [Option.map_some, Option.some.injEq] at hi
        subst hi
        exact ⟨_, hcell i hlt, (one i hlt).2⟩
    · simp only [List.mem_map, List.mem_range] at hys
      obtain ⟨i, hi, rfl⟩ := hys
      exact (one i hi).1.1
/-- The number in a cell. -/
def cellNat : Option Value → Nat
  | some (.int _ a) => a.toNat
  | _ => 0
/-- An argument that is a hash. -/
theorem open_hash {H : Type} {enc : TypeId × Value → H} {W : World} {r : Reach} {base : Nat} {sp : Nat → Bool} {held : Bool} {b0 : Nat} {v : Value} {d : DataW H} {p : List MemPlace} (hv : Value.okWide Try.prog W r base 29 v) (h : DataW.Trod enc Try.prog W b0 sp held 29 v d p) :
    ∃ l : List Nat, (l.length = 32 ∧ ∀ y, y ∈ l → y < 256) ∧ v = .agg (wcells .u8 l) := by
  unfold Value.okWide at hv
  rw [Try.underlying29] at hv
  obtain ⟨cs, rfl, hsz, -⟩ := hv
  have hc : Try.prog.cellsOf 29 = 32 := by kernel_rfl
  have hc1 : Try.prog.cellsOf 5 = 1 := by kernel_rfl
  rw [hc] at hsz
  obtain ⟨fuel, hf⟩ := h
  obtain ⟨xs, m, -, -, -, hlen, hat⟩ := DataW.trod_array Try.underlying29 hf
  have key : ∀ i, i < 32 → ∃ a : Nat, cs[i]? = some (.int .u8 (a : Int)) ∧ a < 256 := by
    intro i hi
    have h1 := hat i hi
    rw [hc1, Nat.mul_one] at h1
    have hs : (cs.toList.drop i).take 1 = [cs[i]'(by omega)] := by
      rw [List.drop_eq_getElem_cons (by simpa using (by omega : i < cs.size))]
      simp
    have hcells : (Value.agg cs).cells.toList = cs.toList := rfl
    rw [hcells, hs, List.getElem?_eq_getElem (by omega)] at h1
    obtain ⟨a, e, -, hw⟩ := DataW.trod_int Try.underlying5 h1
    have hb := byte_of_wf hw
    refine ⟨a.toNat, ?_, by omega⟩
    rw [Array.getElem?_eq_getElem (by omega), Int.toNat_of_nonneg hb.1]
    simpa using e
  refine ⟨(List.range 32).map fun i => cellNat cs[i]?, ⟨by simp, fun y hy => ?_⟩, ?_⟩
  · simp only [List.mem_map, List.mem_range] at hy
    obtain ⟨i, hi, rfl⟩ := hy
    obtain ⟨a, e, hl⟩ := key i hi
    rw [e]; simpa [cellNat] using hl
  · congr 1
    apply Array.ext_getElem?
    intro i
    by_cases hi : i < 32
    · obtain ⟨a, e, -⟩ := key i hi
      rw [wcells_get _ _ _ (by simpa using hi), nth_range _ _ _ hi, e]
      simp [cellNat]
    · rw [Array.getElem?_eq_none (by omega), Array.getElem?_eq_none (by rw [wcells_size]; simp; omega)]
end Go.Proofs.Ytpdccbcbjiombaa
