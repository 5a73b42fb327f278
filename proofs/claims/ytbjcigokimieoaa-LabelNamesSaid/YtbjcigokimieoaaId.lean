/-
  Slices of pieces; bytes to strings and back, as steps of a region.
-/
import Derived.Test.YtbjcigokimieoaaIb
import Derived.Test.YtbjcigokimieoaaRr
import Derived.Lib.ConvBytes
import Derived.Lib.BufferRead
import Derived.Laws.BytesArg
namespace Go.Proofs.Ytbjcigokimieoaa
open Go.RowKit

theorem bytes_elem : Try.prog.elem 22 = 5 := by kernel_rfl
theorem bytes_slice : Try.prog.underlying 22 = some (.slice (Try.prog.elem 22)) := by rw [bytes_elem]; exact Try.underlying22
theorem byte_size (w : World) : (Go.sizeOf (Try.prog.elem 22)).run Try.prog w = .ok 1 w := by rw [bytes_elem]; exact Try.sizeOf5 w

/-- b[k:]. -/
theorem slice_lo {W : World} {S : Nat → Prop} {a : Option Addr} {c : Nat} {bs : List Nat} (h : PieceS W S (.slice a bs.length c) bs) (k : Nat) (hk : k ≤ bs.length) (hc : bs.length ≤ c) :
    ∃ v, (∀ V : World, (Instr.slice 22 (.slice a bs.length c) (some (.int .i64 (k : Int))) none none).run Try.prog V = .ok v V) ∧ PieceS W S v (bs.drop k) := by
  refine ⟨sliced a k bs.length c 1, fun V => by rw [run_slice_l V 22 a bs.length c bytes_slice .i64 (k : Int) (Int.natCast_nonneg _) (by omega), byte_size]; rfl, ?_⟩
  unfold sliced
  have hl : (bs.drop k).length = bs.length - k := List.length_drop
  by_cases h0 : k = bs.length
  · refine Or.inl ⟨⟨_, _, by rw [show bs.length - k = 0 by omega]⟩, ?_⟩
    rw [h0]; exact List.drop_length
  · rcases h with ⟨-, h1⟩ | ⟨b, o, c', hb, h1, h2⟩
    · exfalso; rw [h1] at h0 hk; simp at h0 hk; omega
    · injection h1 with e1 e2 e3
      subst e1
      rw [if_neg (by omega)]
      refine Or.inr ⟨b, o + k, c - k, hb, ?_, fun i hi => ?_⟩
      · rw [hl]
        have : (⟨b, o, none⟩ : Addr).add (k * 1) = ⟨b, o + k, none⟩ := by unfold Addr.add; split <;> simp_all
        simp only [Option.map_some, this]
      · rw [hl] at hi
        rw [nth_drop, Nat.add_assoc]; exact h2 (k + i) (by omega)
/-- b[:k]. -/
theorem slice_hi {W : World} {S : Nat → Prop} {a : Option Addr} {c : Nat} {bs : List Nat} (h : PieceS W S (.slice a bs.length c) bs) (k : Nat) (hk : k ≤ bs.length) (hc : bs.length ≤ c) :
    ∃ v, (∀ V : World, (Instr.slice 22 (.slice a bs.length c) none (some (.int .i64 (k : Int))) none).run Try.prog V = .ok v V) ∧ PieceS W S v (bs.take k) := by
  refine ⟨sliced a 0 k c 1, fun V => by rw [run_slice_h V 22 a bs.length c bytes_slice .i64 (k : Int) (Int.natCast_nonneg _) (by omega), byte_size]; rfl, ?_⟩
  unfold sliced
  have hl : (bs.take k).length = k := by rw [List.length_take]; omega
  by_cases h0 : k = 0
  · refine Or.inl ⟨⟨_, _, by rw [h0]⟩, by rw [h0]; rfl⟩
  · rcases h with ⟨-, h1⟩ | ⟨b, o, c', hb, h1, h2⟩
    · exfalso; rw [h1] at hk; simp at hk; omega
    · injection h1 with e1 e2 e3
      subst e1
      rw [if_neg (by omega)]
      refine Or.inr ⟨b, o, c, hb, ?_, fun i hi => ?_⟩
      · rw [hl]
        have : (⟨b, o, none⟩ : Addr).add (0 * 1) = ⟨b, o, none⟩ := by unfold Addr.add; split <;> simp_all
        simp only [Option.map_some, this]
        simp
      · rw [hl] at hi
        rw [nth_take _ _ _ hi]; exact h2 i (by omega)

/-- A string of bytes. -/
def nst (l : List Nat) : ByteArray := ⟨(l.map UInt8.ofNat).toArray⟩
theorem nst_app (a b : List Nat) : nst a ++ nst b = nst (a ++ b) := by
  apply ByteArray.ext
  simp [nst, ByteArray.data_append]
theorem nst_size (l : List Nat) : (nst l).size = l.length := by simp [nst, ByteArray.size]
theorem bln_nst (l : List Nat) (h : ∀ y, y ∈ l → y < 256) : (nst l).data.toList.map UInt8.toNat = l := by
  unfold nst
  simp only [List.map_map]
  rw [show (List.map (UInt8.toNat ∘ UInt8.ofNat) l) = List.map id l from List.map_congr_left (fun x hx => by
    have := h x hx
    simp; omega), List.map_id]

theorem stable_piece (bs : List Nat) : Stable (fun v W => PieceV W W.heap.size v bs) := fun _ _ _ hb h => PieceV.later h hb
theorem Pcs.later {w W : World} {v : Value} {pss : List (List Nat)} (h : Pcs w w.heap.size v pss) (hb : Below w.heap.size w W) : Pcs W W.heap.size v pss :=
  (Pcs.keep h (Keeps.of_below (F := fun _ => False) hb) (fun _ _ h => h)).mono hb.size (Nat.le_refl _)
theorem stable_pcs (pss : List (List Nat)) : Stable (fun v W => Pcs W W.heap.size v pss) := fun _ _ _ hb h => Pcs.later h hb

theorem run_str {W : World} {S : Nat → Prop} {v : Value} {bs : List Nat} (h : PieceS W S v bs) : (convert 22 9 v).run Try.prog W = .ok (.string (nst bs)) W := by
  rcases h with ⟨⟨a, c, rfl⟩, rfl⟩ | ⟨b, o, c, -, rfl, h⟩
  · cases a with
    | none => exact Lib.run_convert_nil_bytes W _ _ 5 c Try.underlying22 Try.underlying5 Try.underlying9
    | some a =>
      rw [run_convert_bytes_string W 22 9 5 (some a) 0 c Try.underlying22 Try.underlying5 Try.underlying9]
      simp [Conv.bytesToString, loadCells, nst]
      rfl
  · rw [run_convert_bytes_arg W 22 5 Try.underlying22 Try.underlying5 b o bs.length c (bs.map Int.ofNat) (by simp) (fun i hi => by
      rw [h i hi, List.getD_eq_getElem?_getD, List.getElem?_map, nth_get bs i hi]; rfl) 9 Try.underlying9]
    congr 2
    apply ByteArray.ext
    apply Array.toList_inj.1
    rw [strOfNums_data]
    simp [nst]

/-- []byte(s), as a step. -/
theorem wp_conv {o : Oper} {a : Act} {W : World} {K : Act → World → Prop} {Q : Exit → Act → World → Prop} (x : Operand) (ho : o.op = .convert 9 22 x) (s : ByteArray) (l : List Nat) (hx : a.eval x = .string s) (hl : s.data.toList.map UInt8.toNat = l)
    (h : ∀ v W', PieceV W' W'.heap.size v l → Below W.heap.size W W' → K (a.put o.dst v) W') : o.wp Try.prog a W K Q := by
  have hsz : s.size = l.length := by rw [← hl]; simp
  have hb : Below W.heap.size W (Lib.bytesWorld W 5 s) := ⟨rfl, rfl, rfl, by rw [Lib.bytesWorld_size]; omega, fun b hb => Lib.bytesWorld_at_old W _ s b hb⟩
  have hp : PieceV (Lib.bytesWorld W 5 s) (Lib.bytesWorld W 5 s).heap.size (.slice (some ⟨W.heap.size, 0, none⟩) s.size (grownCap W s.size 0 5)) l :=
    Or.inr ⟨W.heap.size, 0, grownCap W s.size 0 5, by rw [Lib.bytesWorld_size]; omega, by rw [hsz], fun i hi => by
      rw [Nat.zero_add, Lib.bytesWorld_cell W _ s i (by omega)]
      have e : nth l i = (s.data.toList.getD i 0).toNat := by
        rw [← hl]
        have hi2 : i < s.data.toList.length := by rw [← hsz] at hi; simpa using hi
        unfold nth
        rw [List.getD_eq_getElem?_getD, List.getElem?_map, List.getD_eq_getElem?_getD, List.getElem?_eq_getElem hi2]; rfl
      rw [e]⟩
  have hr := Lib.run_convert_string_bytes (P := Try.prog) W 9 22 5 s Try.underlying9 Try.underlying22 Try.underlying5
  unfold Oper.wp execOp
  simp only [ho, hx, Sem.run_bind, hr, Result.andThen_ok, Sem.run_pure]
  exact h _ _ hp hb
end Go.Proofs.Ytbjcigokimieoaa
