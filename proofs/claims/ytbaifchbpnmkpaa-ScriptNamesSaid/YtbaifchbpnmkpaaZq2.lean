/-
  Texts Hg, Hi, Hj, Hu, Hp, Ia, Ib, Id, Sp, Ta, Ya, Sy of the claim, merged. (Printed by shake.py.)
-/
import Derived.Test.YtbaifchbpnmkpaaZq1
namespace Go.Proofs.Ytbaifchbpnmkpaa
open Go.RowKit
/-- Eight words as cells, written out. -/
@[reducible] def st8 (st : List Nat) : Array Value := #[.int .u32 ((nth st 0 : Nat) : Int), .int .u32 ((nth st 1 : Nat) : Int), .int .u32 ((nth st 2 : Nat) : Int), .int .u32 ((nth st 3 : Nat) : Int), .int .u32 ((nth st 4 : Nat) : Int), .int .u32 ((nth st 5 : Nat) : Int), .int .u32 ((nth st 6 : Nat) : Int), .int .u32 ((nth st 7 : Nat) : Int)]
theorem agg8 (st : List Nat) (h : st.length = 8) : wcells .u32 st = st8 st := by
  match st, h with
  | [_, _, _, _, _, _, _, _], _ => rfl
/-- A hasher's row. -/
@[reducible] def hhrow (st : List Nat) (v : Value) (m : Nat) : Obj := .cells #[.int .u32 ((nth st 0 : Nat) : Int), .int .u32 ((nth st 1 : Nat) : Int), .int .u32 ((nth st 2 : Nat) : Int), .int .u32 ((nth st 3 : Nat) : Int), .int .u32 ((nth st 4 : Nat) : Int), .int .u32 ((nth st 5 : Nat) : Int), .int .u32 ((nth st 6 : Nat) : Int), .int .u32 ((nth st 7 : Nat) : Int), v, .int .u64 ((m : Nat) : Int)] 88
@[reducible] def hptr (g : Nat) : Value := .pointer (some ⟨g, 0, none⟩)
theorem HL_len : HL.length = 8 := rfl
set_option maxHeartbeats 1000000 in
theorem new_c (w : World) : Calls Try.prog 40 #[] w fun e w' => ∃ hg, e = .returned (hptr hg) ∧ Hid (w'.heap[hg]? = some (hhrow HL (.slice none 0 0) 0)) ∧ Hid (w.heap.size ≤ hg) ∧ Below w.heap.size w w' := by
  have CF : Hid (∀ W, Calls Try.prog 47 #[] W fun e w' => e = .returned (.agg #[.int .u32 1779033703, .int .u32 3144134277, .int .u32 1013904242, .int .u32 2773480762, .int .u32 1359893119, .int .u32 2600822924, .int .u32 528734635, .int .u32 1541459225]) ∧ Below W.heap.size W w') := fun W => by
    have := first_c W; rwa [← first_row] at this
  go_enter Try.func40, Try.ntmps40
  go_wp2_with fail
  refine (CF.out _).mono ?_
  rintro e W1 ⟨rfl, hb⟩
  have hs := hb.size
  have S1 := ((St.nil w).keep hb).alloc (hhrow HL (.slice none 0 0) 0) _ rfl
  clear hb
  go_wp2_with fail
  go_ret
  exact ⟨_, rfl, S1.get (List.Mem.head _), hs, S1.below⟩
/-- A piece: bytes in a block of S. -/
def PieceS (W : World) (S : Nat → Prop) (xv : Value) (ys : List Nat) : Prop :=
  ((∃ a c, xv = .slice a 0 c) ∧ ys = []) ∨ ∃ b o c, S b ∧ xv = .slice (some ⟨b, o, none⟩) ys.length c ∧ ∀ i, i < ys.length → W.cell? ⟨b, o + i, none⟩ = some (.int .u8 ((nth ys i : Nat) : Int))
/-- .. below B. -/
@[reducible] def PieceV (W : World) (B : Nat) (xv : Value) (ys : List Nat) : Prop := PieceS W (fun b => b < B) xv ys
theorem PieceS.src {W : World} {S : Nat → Prop} {xv : Value} {ys : List Nat} (h : PieceS W S xv ys) : SrcB W xv ys := by
  rcases h with ⟨⟨a, c, rfl⟩, rfl⟩ | ⟨b, o, c, -, rfl, h⟩
  · cases a with
    | none => exact srcB_nil W c
    | some a => exact Src.ofSlice (w := W) Try.underlying22 a 0 c _ rfl (fun j u hj => by simp [bcells] at hj) (fun u hu => by simp [bcells] at hu)
  · exact srcB_slice W b o c ys h
theorem PieceS.shape {W : World} {S : Nat → Prop} {xv : Value} {ys : List Nat} (h : PieceS W S xv ys) : ∃ a c, xv = .slice a ys.length c := by
  rcases h with ⟨⟨a, c, rfl⟩, rfl⟩ | ⟨b, o, c, -, rfl, -⟩
  · exact ⟨_, _, rfl⟩
  · exact ⟨_, _, rfl⟩
theorem PieceV.src {W : World} {B : Nat} {xv : Value} {ys : List Nat} (h : PieceV W B xv ys) : SrcB W xv ys := PieceS.src h
theorem PieceV.shape {W : World} {B : Nat} {xv : Value} {ys : List Nat} (h : PieceV W B xv ys) : ∃ a c, xv = .slice a ys.length c := PieceS.shape h
/-- Pieces, in a list of S. -/
structure PcsS (W : World) (S : Nat → Prop) (lv : Value) (pss : List (List Nat)) : Prop where
  le : ∀ b, S b → b < W.heap.size
  shape : ((∃ a c, lv = .slice a 0 c) ∧ pss = []) ∨ ∃ lb lo c, S lb ∧ lv = .slice (some ⟨lb, lo, none⟩) pss.length c ∧ ∀ i ys, pss[i]? = some ys → ∃ xv, W.cell? ⟨lb, lo + i, none⟩ = some xv ∧ PieceS W S xv ys
@[reducible] def Pcs (W : World) (B : Nat) (lv : Value) (pss : List (List Nat)) : Prop := PcsS W (fun b => b < B) lv pss
theorem Keeps.cell {F : Nat → Prop} {W W' : World} (k : Keeps F W W') {b o : Nat} (hb : b < W.heap.size) (hF : ¬ F b) : W'.cell? ⟨b, o, none⟩ = W.cell? ⟨b, o, none⟩ := World.cell?_of_block (a := ⟨b, o, none⟩) (k.block b hb hF)
theorem PieceS.keep {W W' : World} {S : Nat → Prop} {xv : Value} {ys : List Nat} {F : Nat → Prop} (h : PieceS W S xv ys) (hS : ∀ b, S b → b < W.heap.size) (k : Keeps F W W') (hF : ∀ b, S b → ¬ F b) : PieceS W' S xv ys := by
  rcases h with h | ⟨b, o, c, hb, rfl, h⟩
  · exact Or.inl h
  · exact Or.inr ⟨b, o, c, hb, rfl, fun i hi => (k.cell (hS b hb) (hF b hb)).trans (h i hi)⟩
theorem PieceV.keep {W W' : World} {B : Nat} {xv : Value} {ys : List Nat} {F : Nat → Prop} (h : PieceV W B xv ys) (hB : B ≤ W.heap.size) (k : Keeps F W W') (hF : ∀ b, b < B → ¬ F b) : PieceV W' B xv ys := PieceS.keep h (fun _ hb => Nat.lt_of_lt_of_le hb hB) k hF
theorem PcsS.keep {W W' : World} {S : Nat → Prop} {lv : Value} {pss : List (List Nat)} {F : Nat → Prop} (h : PcsS W S lv pss) (k : Keeps F W W') (hF : ∀ b, S b → ¬ F b) : PcsS W' S lv pss := by
  refine ⟨fun b hb => Nat.lt_of_lt_of_le (h.le b hb) k.size, ?_⟩
  have hle := h.le
  rcases h.shape with h1 | ⟨lb, lo, c, hb, rfl, h2⟩
  · exact Or.inl h1
  · refine Or.inr ⟨lb, lo, c, hb, rfl, fun i ys hi => ?_⟩
    obtain ⟨xv, h3, h4⟩ := h2 i ys hi
    exact ⟨xv, (k.cell (hle lb hb) (hF lb hb)).trans h3, h4.keep hle k hF⟩
theorem Pcs.keep {W W' : World} {B : Nat} {lv : Value} {pss : List (List Nat)} {F : Nat → Prop} (h : Pcs W B lv pss) (k : Keeps F W W') (hF : ∀ b, b < B → ¬ F b) : Pcs W' B lv pss := PcsS.keep h k hF
/-- A hasher that has had these bytes. v: its rest. -/
structure HasherV (W : World) (hg : Nat) (v : Value) (bs : List Nat) : Prop where
  row : W.heap[hg]? = some (hhrow (runB HL bs (bs.length / 64)) v bs.length)
  rest : RestV W v (bs.drop (64 * (bs.length / 64)))
/-- In the midst: n pieces are mixed in. -/
structure HMid (W : World) (hg : Nat) (v : Value) (bs : List Nat) (n : Nat) : Prop where
  le : 64 * n ≤ bs.length
  row : W.heap[hg]? = some (hhrow (runB HL bs n) v bs.length)
  rest : RestV W v (bs.drop (64 * n))
theorem HMid.done {W : World} {hg : Nat} {v : Value} {bs : List Nat} {n : Nat} (h : HMid W hg v bs n) (hl : bs.length < 64 * n + 64) : HasherV W hg v bs := by
  have hle := h.le
  have e : bs.length / 64 = n := by omega
  exact ⟨by rw [e]; exact h.row, by rw [e]; exact h.rest⟩
theorem runB_more (bs ys : List Nat) (n : Nat) (h : 64 * n ≤ bs.length) : runB HL (bs ++ ys) n = runB HL bs n := runB_congr HL _ _ n (fun i hi => nth_append_left _ _ _ (by omega))
theorem hrow_at {W : World} {hg : Nat} {st : List Nat} {v : Value} {m : Nat} (h : W.heap[hg]? = some (hhrow st v m)) : (W.cell? ⟨hg, 0, none⟩ = some (.int .u32 ((nth st 0 : Nat) : Int)) ∧ W.cell? ⟨hg, 1, none⟩ = some (.int .u32 ((nth st 1 : Nat) : Int)) ∧ W.cell? ⟨hg, 2, none⟩ = some (.int .u32 ((nth st 2 : Nat) : Int)) ∧ W.cell? ⟨hg, 3, none⟩ = some (.int .u32 ((nth st 3 : Nat) : Int)) ∧
    W.cell? ⟨hg, 4, none⟩ = some (.int .u32 ((nth st 4 : Nat) : Int)) ∧ W.cell? ⟨hg, 5, none⟩ = some (.int .u32 ((nth st 5 : Nat) : Int)) ∧ W.cell? ⟨hg, 6, none⟩ = some (.int .u32 ((nth st 6 : Nat) : Int)) ∧ W.cell? ⟨hg, 7, none⟩ = some (.int .u32 ((nth st 7 : Nat) : Int)) ∧ W.cell? ⟨hg, 8, none⟩ = some v ∧ W.cell? ⟨hg, 9, none⟩ = some (.int .u64 ((m : Nat) : Int))) ∧ ∀ i, W.frozen? ⟨hg, i, none⟩ = false :=
  ⟨⟨(cell_of_row _ _ _ _ _ _ h).trans rfl, (cell_of_row _ _ _ _ _ _ h).trans rfl, (cell_of_row _ _ _ _ _ _ h).trans rfl, (cell_of_row _ _ _ _ _ _ h).trans rfl, (cell_of_row _ _ _ _ _ _ h).trans rfl, (cell_of_row _ _ _ _ _ _ h).trans rfl, (cell_of_row _ _ _ _ _ _ h).trans rfl, (cell_of_row _ _ _ _ _ _ h).trans rfl, (cell_of_row _ _ _ _ _ _ h).trans rfl, (cell_of_row _ _ _ _ _ _ h).trans rfl⟩, fun i => frozen_of_row W hg i _ _ h⟩
theorem hrow_set9 {W : World} {hg : Nat} {st : List Nat} {v : Value} {m : Nat} (h : W.heap[hg]? = some (hhrow st v m)) (m' : Nat) : (W.setCell ⟨hg, 9, none⟩ (.int .u64 ((m' : Nat) : Int))).heap[hg]? = some (hhrow st v m') := heap_setCell_same W hg 9 _ _ (.int .u64 ((m' : Nat) : Int)) h
theorem hrow_set8 {W : World} {hg : Nat} {st : List Nat} {v : Value} {m : Nat} (h : W.heap[hg]? = some (hhrow st v m)) (v' : Value) : (W.setCell ⟨hg, 8, none⟩ v').heap[hg]? = some (hhrow st v' m) := heap_setCell_same W hg 8 _ _ v' h
theorem hrow_set07 {W : World} {hg : Nat} {st : List Nat} {v : Value} {m : Nat} (h : W.heap[hg]? = some (hhrow st v m)) (st' : List Nat) : ((((((((W.setCell ⟨hg, 0, none⟩ (.int .u32 ((nth st' 0 : Nat) : Int))).setCell ⟨hg, 1, none⟩ (.int .u32 ((nth st' 1 : Nat) : Int))).setCell ⟨hg, 2, none⟩ (.int .u32 ((nth st' 2 : Nat) : Int))).setCell ⟨hg, 3, none⟩ (.int .u32 ((nth st' 3 : Nat) : Int))).setCell ⟨hg, 4, none⟩ (.int .u32 ((nth st' 4 : Nat) : Int))).setCell ⟨hg, 5, none⟩ (.int .u32 ((nth st' 5 : Nat) : Int))).setCell ⟨hg, 6, none⟩ (.int .u32 ((nth st' 6 : Nat) : Int))).setCell ⟨hg, 7, none⟩ (.int .u32 ((nth st' 7 : Nat) : Int))).heap[hg]? = some (hhrow st' v m) := by
  have h0 : (W.setCell ⟨hg, 0, none⟩ (.int .u32 ((nth st' 0 : Nat) : Int))).heap[hg]? = some (.cells #[.int .u32 ((nth st' 0 : Nat) : Int), .int .u32 ((nth st 1 : Nat) : Int), .int .u32 ((nth st 2 : Nat) : Int), .int .u32 ((nth st 3 : Nat) : Int), .int .u32 ((nth st 4 : Nat) : Int), .int .u32 ((nth st 5 : Nat) : Int), .int .u32 ((nth st 6 : Nat) : Int), .int .u32 ((nth st 7 : Nat) : Int), v, .int .u64 ((m : Nat) : Int)] 88 (0, 0)) := heap_setCell_same _ hg 0 _ _ (.int .u32 ((nth st' 0 : Nat) : Int)) h
  have h1 : ((W.setCell ⟨hg, 0, none⟩ (.int .u32 ((nth st' 0 : Nat) : Int))).setCell ⟨hg, 1, none⟩ (.int .u32 ((nth st' 1 : Nat) : Int))).heap[hg]? = some (.cells #[.int .u32 ((nth st' 0 : Nat) : Int), .int .u32 ((nth st' 1 : Nat) : Int), .int .u32 ((nth st 2 : Nat) : Int), .int .u32 ((nth st 3 : Nat) : Int), .int .u32 ((nth st 4 : Nat) : Int), .int .u32 ((nth st 5 : Nat) : Int), .int .u32 ((nth st 6 : Nat) : Int), .int .u32 ((nth st 7 : Nat) : Int), v, .int .u64 ((m : Nat) : Int)] 88 (0, 0)) := heap_setCell_same _ hg 1 _ _ (.int .u32 ((nth st' 1 : Nat) : Int)) h0
  have h2 : (((W.setCell ⟨hg, 0, none⟩ (.int .u32 ((nth st' 0 : Nat) : Int))).setCell ⟨hg, 1, none⟩ (.int .u32 ((nth st' 1 : Nat) : Int))).setCell ⟨hg, 2, none⟩ (.int .u32 ((nth st' 2 : Nat) : Int))).heap[hg]? = some (.cells #[.int .u32 ((nth st' 0 : Nat) : Int), .int .u32 ((nth st' 1 : Nat) : Int), .int .u32 ((nth st' 2 : Nat) : Int), .int .u32 ((nth st 3 : Nat) : Int), .int .u32 ((nth st 4 : Nat) : Int), .int .u32 ((nth st 5 : Nat) : Int), .int .u32 ((nth st 6 : Nat) : Int), .int .u32 ((nth st 7 : Nat) : Int), v, .int .u64 ((m : Nat) : Int)] 88 (0, 0)) := heap_setCell_same _ hg 2 _ _ (.int .u32 ((nth st' 2 : Nat) : Int)) h1
  have h3 : ((((W.setCell ⟨hg, 0, none⟩ (.int .u32 ((nth st' 0 : Nat) : Int))).setCell ⟨hg, 1, none⟩ (.int .u32 ((nth st' 1 : Nat) : Int))).setCell ⟨hg, 2, none⟩ (.int .u32 ((nth st' 2 : Nat) : Int))).setCell ⟨hg, 3, none⟩ (.int .u32 ((nth st' 3 : Nat) : Int))).heap[hg]? = some (.cells #[.int .u32 ((nth st' 0 : Nat) : Int), .int .u32 ((nth st' 1 : Nat) : Int), .int .u32 ((nth st' 2 : Nat) : Int), .int .u32 ((nth st' 3 : Nat) : Int), .int .u32 ((nth st 4 : Nat) : Int), .int .u32 ((nth st 5 : Nat) : Int), .int .u32 ((nth st 6 : Nat) : Int), .int .u32 ((nth st 7 : Nat) : Int), v, .int .u64 ((m : Nat) : Int)] 88 (0, 0)) := heap_setCell_same _ hg 3 _ _ (.int .u32 ((nth st' 3 : Nat) : Int)) h2
  have h4 : (((((W.setCell ⟨hg, 0, none⟩ (.int .u32 ((nth st' 0 : Nat) : Int))).setCell ⟨hg, 1, none⟩ (.int .u32 ((nth st' 1 : Nat) : Int))).setCell ⟨hg, 2, none⟩ (.int .u32 ((nth st' 2 : Nat) : Int))).setCell ⟨hg, 3, none⟩ (.int .u32 ((nth st' 3 : Nat) : Int))).setCell ⟨hg, 4, none⟩ (.int .u32 ((nth st' 4 : Nat) : Int))).heap[hg]? = some (.cells #[.int .u32 ((nth st' 0 : Nat) : Int), .int .u32 ((nth st' 1 : Nat) : Int), .int .u32 ((nth st' 2 : Nat) : Int), .int .u32 ((nth st' 3 : Nat) : Int), .int .u32 ((nth st' 4 : Nat) : Int), .int .u32 ((nth st 5 : Nat) : Int), .int .u32 ((nth st 6 : Nat) : Int), .int .u32 ((nth st 7 : Nat) : Int), v, .int .u64 ((m : Nat) : Int)] 88 (0, 0)) := heap_setCell_same _ hg 4 _ _ (.int .u32 ((nth st' 4 : Nat) : Int)) h3
  have h5 : ((((((W.setCell ⟨hg, 0, none⟩ (.int .u32 ((nth st' 0 : Nat) : Int))).setCell ⟨hg, 1, none⟩ (.int .u32 ((nth st' 1 : Nat) : Int))).setCell ⟨hg, 2, none⟩ (.int .u32 ((nth st' 2 : Nat) : Int))).setCell ⟨hg, 3, none⟩ (.int .u32 ((nth st' 3 : Nat) : Int))).setCell ⟨hg, 4, none⟩ (.int .u32 ((nth st' 4 : Nat) : Int))).setCell ⟨hg, 5, none⟩ (.int .u32 ((nth st' 5 : Nat) : Int))).heap[hg]? = some (.cells #[.int .u32 ((nth st' 0 : Nat) : Int), .int .u32 ((nth st' 1 : Nat) : Int), .int .u32 ((nth st' 2 : Nat) : Int), .int .u32 ((nth st' 3 : Nat) : Int), .int .u32 ((nth st' 4 : Nat) : Int), .int .u32 ((nth st' 5 : Nat) : Int), .int .u32 ((nth st 6 : Nat) : Int), .int .u32 ((nth st 7 : Nat) : Int), v, .int .u64 ((m : Nat) : Int)] 88 (0, 0)) := heap_setCell_same _ hg 5 _ _ (.int .u32 ((nth st' 5 : Nat) : Int)) h4
  have h6 : (((((((W.setCell ⟨hg, 0, none⟩ (.int .u32 ((nth st' 0 : Nat) : Int))).setCell ⟨hg, 1, none⟩ (.int .u32 ((nth st' 1 : Nat) : Int))).setCell ⟨hg, 2, none⟩ (.int .u32 ((nth st' 2 : Nat) : Int))).setCell ⟨hg, 3, none⟩ (.int .u32 ((nth st' 3 : Nat) : Int))).setCell ⟨hg, 4, none⟩ (.int .u32 ((nth st' 4 : Nat) : Int))).setCell ⟨hg, 5, none⟩ (.int .u32 ((nth st' 5 : Nat) : Int))).setCell ⟨hg, 6, none⟩ (.int .u32 ((nth st' 6 : Nat) : Int))).heap[hg]? = some (.cells #[.int .u32 ((nth st' 0 : Nat) : Int), .int .u32 ((nth st' 1 : Nat) : Int), .int .u32 ((nth st' 2 : Nat) : Int), .int .u32 ((nth st' 3 : Nat) : Int), .int .u32 ((nth st' 4 : Nat) : Int), .int .u32 ((nth st' 5 : Nat) : Int), .int .u32 ((nth st' 6 : Nat) : Int), .int .u32 ((nth st 7 : Nat) : Int), v, .int .u64 ((m : Nat) : Int)] 88 (0, 0)) := heap_setCell_same _ hg 6 _ _ (.int .u32 ((nth st' 6 : Nat) : Int)) h5
  have h7 : ((((((((W.setCell ⟨hg, 0, none⟩ (.int .u32 ((nth st' 0 : Nat) : Int))).setCell ⟨hg, 1, none⟩ (.int .u32 ((nth st' 1 : Nat) : Int))).setCell ⟨hg, 2, none⟩ (.int .u32 ((nth st' 2 : Nat) : Int))).setCell ⟨hg, 3, none⟩ (.int .u32 ((nth st' 3 : Nat) : Int))).setCell ⟨hg, 4, none⟩ (.int .u32 ((nth st' 4 : Nat) : Int))).setCell ⟨hg, 5, none⟩ (.int .u32 ((nth st' 5 : Nat) : Int))).setCell ⟨hg, 6, none⟩ (.int .u32 ((nth st' 6 : Nat) : Int))).setCell ⟨hg, 7, none⟩ (.int .u32 ((nth st' 7 : Nat) : Int))).heap[hg]? = some (.cells #[.int .u32 ((nth st' 0 : Nat) : Int), .int .u32 ((nth st' 1 : Nat) : Int), .int .u32 ((nth st' 2 : Nat) : Int), .int .u32 ((nth st' 3 : Nat) : Int), .int .u32 ((nth st' 4 : Nat) : Int), .int .u32 ((nth st' 5 : Nat) : Int), .int .u32 ((nth st' 6 : Nat) : Int), .int .u32 ((nth st' 7 : Nat) : Int), v, .int .u64 ((m : Nat) : Int)] 88 (0, 0)) := heap_setCell_same _ hg 7 _ _ (.int .u32 ((nth st' 7 : Nat) : Int)) h6
  exact h7
theorem hrow_cells8 {W : World} {hg : Nat} {st : List Nat} {v : Value} {m : Nat} (h : W.heap[hg]? = some (hhrow st v m)) (st' : List Nat) : (W.setCells hg 0 (st8 st').toList).heap[hg]? = some (hhrow st' v m) := hrow_set07 h st'
theorem hrow_there {W : World} {hg : Nat} {st : List Nat} {v : Value} {m : Nat} (h : W.heap[hg]? = some (hhrow st v m)) (st' : List Nat) : W.there hg 0 (st8 st').size := fun j hj => by
  have hj8 : j < 8 := hj
  refine ⟨?_, frozen_of_row W hg _ _ _ h⟩
  rw [cell_of_row W hg (0 + j) _ _ _ h, Nat.zero_add, Array.getElem?_eq_getElem (show j < _ by simp; omega)]; rfl
theorem Keeps.setCells {F : Nat → Prop} {A : World} {g : Nat} (hF : F g ∨ A.heap.size ≤ g) : ∀ (l : List Value) (o : Nat) (W : World), Keeps F A W → Keeps F A (W.setCells g o l)
  | [], _, _, h => h
  | v :: l, o, _, h => Keeps.setCells hF l (o + 1) _ (h.setCell v hF)
theorem other_setCells {g b : Nat} (hne : b ≠ g) : ∀ (l : List Value) (o : Nat) (W : World), (W.setCells g o l).heap[b]? = W.heap[b]?
  | [], _, _ => rfl
  | v :: l, o, W => (other_setCells hne l (o + 1) _).trans (heap_setCell_other W ⟨g, o, none⟩ _ v hne)
/-- A rest lies in no hasher. -/
theorem RestV.ne {W : World} {hg : Nat} {st : List Nat} {v v' : Value} {m : Nat} {r : List Nat} (h : RestV W v r) (hr : W.heap[hg]? = some (hhrow st v' m)) : v.ownBlock ≠ some hg := by
  rcases h with ⟨rfl, -⟩ | ⟨g, off, cap, cur, rfl, hgg, -⟩
  · simp [Value.ownBlock]
  · intro e
    simp [Value.ownBlock] at e
    subst e
    have := hgg.symm.trans hr
    simp at this
theorem rest_shift {W : World} {g off cap : Nat} {cur : Array Value} {r : List Nat} (hg : W.heap[g]? = some (.cells cur 5 (0, 0))) (h1 : r.length ≤ cap) (h2 : off + cap ≤ cur.size) (h3 : ∀ i, i < r.length → cur[off + i]? = some (.int .u8 ((nth r i : Nat) : Int))) :
    RestV W (.slice (some ⟨g, off + 64, none⟩) (r.length - 64) (cap - 64)) (r.drop 64) ∨ cap < 64 := by
  by_cases hc : cap < 64
  · exact Or.inr hc
  · refine Or.inl (Or.inr ⟨g, off + 64, cap - 64, cur, by rw [List.length_drop], hg, by rw [List.length_drop]; omega, by omega, fun i hi => ?_⟩)
    rw [List.length_drop] at hi
    rw [nth_drop, Nat.add_assoc]; exact h3 (64 + i) (by omega)
theorem rest_empty {W : World} {g off : Nat} {cur : Array Value} {r : List Nat} (hg : W.heap[g]? = some (.cells cur 5 (0, 0))) (h1 : r.length ≤ 64) (h2 : off + 64 ≤ cur.size) : RestV W (.slice (some ⟨g, off, none⟩) (r.length - 64) 0) (r.drop 64) :=
  Or.inr ⟨g, off, 0, cur, by rw [List.length_drop], hg, by rw [List.length_drop]; omega, by omega, fun i hi => by rw [List.length_drop] at hi; omega⟩
/-- Where a hasher writes. -/
def HF (hg : Nat) (v : Value) (b : Nat) : Prop := b = hg ∨ v.ownBlock = some b
/-- What Add's outer loop holds: k pieces are added. -/
structure HAddInv (w : World) (B hg : Nat) (v0 : Value) (bs0 : List Nat) (pss : List (List Nat)) (k : Nat) (wr : World) : Prop where
  keeps : Keeps (HF hg v0) w wr
  now : ∃ v, HasherV wr hg v (bs0 ++ (pss.take k).flatten) ∧ ∀ b, v.ownBlock = some b → v0.ownBlock = some b ∨ w.heap.size ≤ b
/-- What its inner loop holds. -/
structure AddMid (w : World) (B hg : Nat) (v0 : Value) (bs : List Nat) (t : Nat) (wr : World) : Prop where
  keeps : Keeps (HF hg v0) w wr
  now : ∃ v n, HMid wr hg v bs n ∧ bs.length = 64 * n + t ∧ ∀ b, v.ownBlock = some b → v0.ownBlock = some b ∨ w.heap.size ≤ b
set_option maxRecDepth 100000 in
set_option maxHeartbeats 4000000 in
/-- Add. -/
theorem hadd_s (B : Nat) (S : Nat → Prop) (hg : Nat) (v0 lv : Value) (bs0 : List Nat) (pss : List (List Nat)) (w : World) (hh : HasherV w hg v0 bs0) (hp : PcsS w S lv pss) (hbg : ∀ b, S b → b ≠ hg) (hbv : ∀ b, v0.ownBlock = some b → ¬ S b) (hby : ∀ y, y ∈ bs0 ++ pss.flatten → y < 256)
    (hlen : (bs0 ++ pss.flatten).length ≤ 1000000000) (hpl : pss.length ≤ 1000000) :
    Calls Try.prog 41 #[hptr hg, lv] w fun e w' => e = .returned (.tuple #[]) ∧ Hid (HAddInv w B hg v0 bs0 pss pss.length w') := by
  have I0 : Hid (HAddInv w B hg v0 bs0 pss 0 w) := ⟨Keeps.refl _ _, v0, by simpa using hh, fun b hb => Or.inl hb⟩
  have HP := Lib.hid hp; have HBG := Lib.hid hbg; have HBV := Lib.hid hbv; have HBY := Lib.hid hby; have HLEN := Lib.hid hlen
  rcases hp.shape with ⟨⟨la, lc, rfl⟩, rfl⟩ | ⟨lb, lo, c, hlb, rfl, hel⟩
  · clear hh hp hbg hbv hby hlen
    go_enter Try.func41, Try.ntmps41
    go_wp2_with fail
    refine wp_loop_rounds 1 ?_
    rw [rounds_succ]; go_wp2
    exact Go.Great.bodyPost_end0 rfl rfl ⟨rfl, I0⟩
  · have HEL := Lib.hid hel
    have hpl' : (pss.length : Int) ≤ 1000000 := by omega
    clear hh hp hbg hbv hby hlen hel
    go_enter Try.func41, Try.ntmps41
    go_wp2_with fail
    go_loopw [8] (fun s wr => ∃ k : Nat, s = .int .i64 (k : Int) ∧ k ≤ pss.length ∧ Hid (HAddInv w B hg v0 bs0 pss k wr)) (fun s _ => (pss.length - intOf s).toNat)
    case atStart => exact ⟨0, rfl, Nat.zero_le _, I0⟩
    case round =>
      obtain ⟨k, rfl, hk, HI⟩ := hrel
      by_cases hkn : k = pss.length
      · have hge : ¬ (k : Int) < pss.length := by omega
        go_wp2_with fail
        exact Go.Great.bodyPost_end0 rfl rfl ⟨rfl, by rw [← hkn]; exact HI⟩
      · have hlt : (k : Int) < pss.length := by omega
        obtain ⟨ys, hys⟩ : ∃ ys, pss[k]? = some ys := ⟨pss[k]'(by omega), List.getElem?_eq_getElem (by omega)⟩
        obtain ⟨v, hv, hvn⟩ := HI.out.now
        have hnF : ∀ b, S b → ¬ HF hg v0 b := fun b hb hf => by
          rcases hf with hf | hf
          · exact HBG.out b hb hf
          · exact HBV.out b hf hb
        have hP2 := HP.out.keep HI.out.keeps hnF
        obtain ⟨xv, hxc, hxp⟩ : ∃ xv, wr.cell? ⟨lb, lo + k, none⟩ = some xv ∧ PieceS wr S xv ys := by
          rcases hP2.shape with ⟨-, h1⟩ | ⟨lb', lo', c', -, h1, h2⟩
          · exfalso; rw [h1] at hk hkn; simp at hk hkn; omega
          · simp at h1
            obtain ⟨⟨rfl, rfl⟩, rfl⟩ := h1
            exact h2 k ys hys
        obtain ⟨xa, xc, rfl⟩ := hxp.shape
        have htk : (pss.take (k + 1)).flatten = (pss.take k).flatten ++ ys := by
          rw [List.take_add_one, hys]; simp
        have hdr : pss.flatten = (pss.take (k + 1)).flatten ++ (pss.drop (k + 1)).flatten := by rw [← List.flatten_append, List.take_append_drop]
        have hlen1 : (bs0 ++ (pss.take k).flatten).length + ys.length ≤ 1000000000 := by
          have := HLEN.out
          rw [hdr, htk] at this
          simp only [List.length_append] at this ⊢
          omega
        have hby1 : ∀ y, y ∈ (bs0 ++ (pss.take k).flatten) ++ ys → y < 256 := fun y hy => HBY.out y (by
          rw [hdr, htk]
          simp only [List.mem_append] at hy ⊢
          rcases hy with (hy | hy) | hy
          · exact Or.inl hy
          · exact Or.inr (Or.inl (Or.inl hy))
          · exact Or.inr (Or.inl (Or.inr hy)))
        have hnext : bs0 ++ (pss.take (k + 1)).flatten = (bs0 ++ (pss.take k).flatten) ++ ys := by rw [htk, List.append_assoc]
        obtain ⟨bs, hbs⟩ : ∃ bs, bs = bs0 ++ (pss.take k).flatten := ⟨_, rfl⟩
        rw [← hbs] at hlen1 hby1 hnext hv
        have hrow1 := hv.row; have hrest1 := hv.rest
        obtain ⟨n, hn⟩ : ∃ n, n = bs.length / 64 := ⟨_, rfl⟩
        have hn64 : 64 * n ≤ bs.length := by omega
        rw [← hn] at hrow1 hrest1
        have hst := (runB_more bs ys n hn64).symm
        have hdrop : (bs ++ ys).drop (64 * n) = bs.drop (64 * n) ++ ys := List.drop_append_of_le_length hn64
        obtain ⟨r, hr⟩ : ∃ r, r = bs.drop (64 * n) := ⟨_, rfl⟩
        have hrl : r.length ≤ bs.length := by rw [hr, List.length_drop]; omega
        rw [← hr] at hdrop hrest1
        obtain ⟨st, hste⟩ : ∃ st, st = runB HL bs n := ⟨_, rfl⟩
        rw [← hste] at hrow1 hst
        obtain ⟨⟨c0, c1, c2, c3, c4, c5, c6, c7, c8, c9⟩, fz⟩ := hrow_at hrow1
        have f8 := fz 8; have f9 := fz 9
        have hne := hrest1.ne hrow1
        obtain ⟨va, vc, hve⟩ := hrest1.shape
        subst hve
        have hhb := lt_of_block hrow1
        have hlbb : lb < wr.heap.size := World.block_lt_of_cell? _ _ hxc
        have hne2 : lb ≠ hg := HBG.out lb hlb
        have hm9 : (bs.length : Int) ≤ 1000000000 := by omega
        have hy9 : (ys.length : Int) ≤ 1000000000 := by omega
        -- the world behind 'many'
        have hrow2 : (wr.setCell ⟨hg, 9, none⟩ (.int .u64 ((bs.length : Int) + (ys.length : Int)))).heap[hg]? = some (hhrow st (.slice va r.length vc) (bs.length + ys.length)) := by
          have := hrow_set9 hrow1 (bs.length + ys.length)
          rwa [show (((bs.length + ys.length : Nat)) : Int) = (bs.length : Int) + (ys.length : Int) by omega] at this
        have K1 : Keeps (fun b => b = hg) wr (wr.setCell ⟨hg, 9, none⟩ (.int .u64 ((bs.length : Int) + (ys.length : Int)))) := (Keeps.refl _ _).setCell _ (Or.inl rfl)
        have R1 := hrest1.keep K1 (fun g h1 h2 => hne (by rw [h1, h2]))
        have X1 := (hxp.keep hP2.le K1 (fun b hb h => HBG.out b hb h)).src
        have HR1 := Lib.hid R1; have HX1 := Lib.hid X1; have HROW2 := Lib.hid hrow2; have HK1 := Lib.hid K1
        have hk0 : (k : Int) ≤ 1000000 := by omega
        have HFST : Hid (st = runB HL (bs ++ ys) n) := hst
        have HBY1 := Lib.hid hby1; have HNEXT := Lib.hid hnext; have HDROP := Lib.hid hdrop; have HVN := Lib.hid hvn; have HNE := Lib.hid hne; have HN64 := Lib.hid hn64; have HRL : Hid (r.length + ys.length = (bs ++ ys).length - 64 * n) := by
          show r.length + ys.length = _
          rw [hr, List.length_drop, List.length_append]; omega
        clear hkn hys hv hvn hxp htk hdr hby1 hnext hbs hst hdrop hr hste hrow1 hrest1 c0 c1 c2 c3 c4 c5 c6 c7 fz hne R1 X1 hrow2 K1 hP2
        go_wp2_with (at_builtin; go_loud (refine wpList_app (by rfl) (.tmp 26) (.tmp 27) (by rfl) _ _ (by rfl) (by rfl) r ys HR1.out HX1.out (by omega) ?_; intro v2 W2 R2 K2 N2; obtain ⟨va2, vc2, e2⟩ := R2.shape; subst e2; have hrow3 := (K2.block hg (lt_of_block HROW2.out) HNE.out).trans HROW2.out; have hb3 := lt_of_block hrow3; have d8 := (hrow_at hrow3).1.2.2.2.2.2.2.2.2.1; have g8 := (hrow_at hrow3).2 8; have HR2 := Lib.hid R2; have HK2 := Lib.hid K2; have HN2 := Lib.hid N2; have HROW3 := Lib.hid hrow3; clear R2 K2 N2 hrow3))
        have AM : Hid (AddMid w B hg v0 (bs ++ ys) ((bs ++ ys).length - 64 * n) (W2.setCell ⟨hg, 8, none⟩ (.slice va2 (r.length + ys.length) vc2))) := by
          have HR2' : RestV W2 (.slice va2 (r.length + ys.length) vc2) (r ++ ys) := by rw [← List.length_append]; exact HR2.out
          have hsz : w.heap.size ≤ wr.heap.size := HI.out.keeps.size
          have hK : Keeps (HF hg v0) w W2 := by
            refine (HI.out.keeps.trans HK1.out (fun b hb => Or.inl (Or.inl hb))).trans HK2.out (fun b hb => ?_)
            rcases HVN.out b hb with h1 | h1
            · exact Or.inl (Or.inr h1)
            · exact Or.inr h1
          refine ⟨hK.setCell _ (Or.inl (Or.inl rfl)), .slice va2 (r.length + ys.length) vc2, n, ⟨by rw [List.length_append]; have := HN64.out; omega, ?_, ?_⟩, by rw [List.length_append]; have := HN64.out; omega, fun b hb => ?_⟩
          · rw [List.length_append, ← HFST.out]; exact hrow_set8 HROW3.out (.slice va2 (r.length + ys.length) vc2)
          · rw [HDROP.out]
            exact HR2'.keep ((Keeps.refl (fun b => b = hg) W2).setCell _ (Or.inl rfl)) (fun g h1 h2 => (HR2'.ne HROW3.out) (by rw [h1, h2]))
          · rcases HN2.out b (by rw [List.length_append]; exact hb) with h1 | h1
            · exact HVN.out b h1
            · exact Or.inr (by rw [h1]; simpa using hsz)
        clear HR1 HX1 HK1 HR2 HK2 HN2 HROW2 HROW3 HFST HDROP HRL c9 f8 f9 c8 d8 g8 hxc HVN HNE HN64 hn64 hn hrl
        obtain ⟨bz, hbz⟩ : ∃ bz, bz = bs ++ ys := ⟨_, rfl⟩
        have hbzl : bz.length ≤ 1000000000 := by rw [hbz, List.length_append]; exact hlen1
        rw [← hbz] at AM HBY1 HNEXT
        clear hbz hlen1
        go_loopg [] (bz.length - 64 * n) (fun t wr => Hid (AddMid w B hg v0 bz t wr))
        case atStart => exact AM
        case round =>
          have HJ := hrel
          obtain ⟨v, m, hm, hml, hvn⟩ := HJ.out.now
          have hmle := hm.le; have hmrow := hm.row; have hmrest := hm.rest
          obtain ⟨r, hr⟩ : ∃ r, r = bz.drop (64 * m) := ⟨_, rfl⟩
          have hrl : r.length = bz.length - 64 * m := by rw [hr, List.length_drop]
          rw [← hr] at hmrest
          have hrI : (r.length : Int) ≤ 1000000000 := by omega
          by_cases h64 : r.length < 64
          · have hlt64 : ¬ (64 : Int) ≤ r.length := by omega
            have hdone := Lib.hid (hm.done (by omega))
            obtain ⟨va, vc, rfl⟩ := hmrest.shape
            have c8 := (hrow_at hmrow).1.2.2.2.2.2.2.2.2.1
            have AI : Hid (HAddInv w B hg v0 bs0 pss (k + 1) _) := ⟨HJ.out.keeps, _, by rw [HNEXT.out]; exact hdone.out, hvn⟩
            clear hm hml hvn hmle hmrow hmrest hr hrl h64 hdone
            go_wp2_with fail
            go_roundw
            case rel => exact ⟨k + 1, by go_num, by omega, AI⟩
            case measure => simp [intOf]; omega
          · have hge64 : (64 : Int) ≤ r.length := by omega
            rcases hmrest with ⟨-, h0⟩ | ⟨g, off, cap, cur, rfl, hgg, h1, h2, h3⟩
            · exfalso; rw [h0] at h64; simp at h64
            have hcap : (64 : Int) ≤ cap := by omega
            obtain ⟨f, hf⟩ : ∃ f : Nat → Nat, f = fun i => nth bz (64 * m + i) := ⟨_, rfl⟩
            have hf256 : ∀ i, f i < 256 := fun i => by
              rw [hf]
              show nth bz (64 * m + i) < 256
              by_cases hi : 64 * m + i < bz.length
              · exact HBY1.out _ (nth_mem bz _ hi)
              · rw [nth_end bz _ (by omega)]; decide
            obtain ⟨st, hst⟩ : ∃ st, st = runB HL bz m := ⟨_, rfl⟩
            have hst8 : st.length = 8 := by rw [hst]; exact runB_len HL bz HL_len m
            have hstw : W32 st := by rw [hst]; exact runB_w HL bz HL_w m
            have hnx : runB HL bz (m + 1) = mixS st f := by rw [runB, hst, hf]
            rw [← hst] at hmrow
            have hn8 : (mixS st f).length = 8 := mixS_len st f
            obtain ⟨sn, hsn⟩ : ∃ sn, sn = mixS st f := ⟨_, rfl⟩
            have HNX : Hid (runB HL bz (m + 1) = sn) := by rw [hsn]; exact hnx
            have hne := RestV.ne (v := .slice (some ⟨g, off, none⟩) r.length cap) (r := r) (Or.inr ⟨g, off, cap, cur, rfl, hgg, h1, h2, h3⟩) hmrow
            have hghg : g ≠ hg := fun e => hne (by rw [e]; rfl)
            obtain ⟨⟨c0, c1, c2, c3, c4, c5, c6, c7, c8, -⟩, -⟩ := hrow_at hmrow
            have hhb := lt_of_block hmrow
            have HROW := Lib.hid hmrow
            have CMX : Hid (∀ W, W.heap[g]? = some (.cells cur 5 (0, 0)) → Calls Try.prog 48 #[.agg #[.int .u32 ((nth st 0 : Nat) : Int), .int .u32 ((nth st 1 : Nat) : Int), .int .u32 ((nth st 2 : Nat) : Int), .int .u32 ((nth st 3 : Nat) : Int), .int .u32 ((nth st 4 : Nat) : Int), .int .u32 ((nth st 5 : Nat) : Int), .int .u32 ((nth st 6 : Nat) : Int), .int .u32 ((nth st 7 : Nat) : Int)], .slice (some ⟨g, off, none⟩) 64 cap] W fun e w' => e = .returned (.agg #[.int .u32 ((nth sn 0 : Nat) : Int), .int .u32 ((nth sn 1 : Nat) : Int), .int .u32 ((nth sn 2 : Nat) : Int), .int .u32 ((nth sn 3 : Nat) : Int), .int .u32 ((nth sn 4 : Nat) : Int), .int .u32 ((nth sn 5 : Nat) : Int), .int .u32 ((nth sn 6 : Nat) : Int), .int .u32 ((nth sn 7 : Nat) : Int)]) ∧ Below W.heap.size W w') := fun W hk => by
              have hb' : Bt W g off 64 f := ⟨lt_of_block hk, fun i hi => (cell_of_row _ _ _ _ _ _ hk).trans (by rw [h3 i (by omega), hr, nth_drop, hf])⟩
              have := mix_c g off cap st f hf256 hst8 hstw W hb'
              rw [agg8 st hst8, ← hsn, agg8 sn (by rw [hsn]; exact hn8)] at this
              exact this
            have HML := Lib.hid hml; have HR0 := Lib.hid hr; have H3 := Lib.hid h3; have HRLX := Lib.hid hrl; have HVN2 := Lib.hid hvn; have HM2 := Lib.hid hmle
            clear hm hml hrl hvn hmle hmrow hr hf256 hst8 hstw hnx hn8 hne hst hsn hf
            have KS : Keeps (fun b => b = hg) wr wr.drew ∧ wr.drew.heap[g]? = some (.cells cur 5 (0, 0)) := ⟨(Keeps.refl _ _).drew, hgg⟩
            go_wp2_with fail
            obtain ⟨I, hI0⟩ : ∃ I : Array Value → (Nat → Bool) → Act → World → Prop, I = (fun T0 L act W => ∃ vq0 vq1 vq2 vq3 vq4 vq5 vq6 vq7 vq8 vq9 vq10 vq11 vq12, act = ⟨sets T0 [(37, vq0), (38, vq1), (39, vq2), (40, vq3), (41, vq4), (42, vq5), (43, vq6), (44, vq7), (45, vq8), (46, vq9), (47, vq10), (48, vq11), (49, vq12)], []⟩ ∧ (Keeps (fun b => b = hg) wr W ∧ W.heap[g]? = some (.cells cur 5 (0, 0))) ∧ (L 0 = true → vq0 = hptr hg) ∧ (L 1 = true → vq1 = hptr hg) ∧ (L 2 = true → vq2 = hptr hg) ∧ (L 3 = true → vq3 = hptr hg) ∧ (L 4 = true → vq4 = .agg #[.int .u32 ((nth st 0 : Nat) : Int), .int .u32 ((nth st 1 : Nat) : Int), .int .u32 ((nth st 2 : Nat) : Int), .int .u32 ((nth st 3 : Nat) : Int), .int .u32 ((nth st 4 : Nat) : Int), .int .u32 ((nth st 5 : Nat) : Int), .int .u32 ((nth st 6 : Nat) : Int), .int .u32 ((nth st 7 : Nat) : Int)]) ∧ (L 5 = true → vq5 = hptr hg) ∧ (L 6 = true → vq6 = hptr hg) ∧ (L 7 = true → vq7 = .pointer (some ⟨hg, 8, none⟩)) ∧ (L 8 = true → vq8 = .slice (some ⟨g, off, none⟩) r.length cap) ∧ (L 9 = true → vq9 = .slice (some ⟨g, off, none⟩) 64 cap) ∧ (L 10 = true → vq10 = .agg #[.int .u32 ((nth sn 0 : Nat) : Int), .int .u32 ((nth sn 1 : Nat) : Int), .int .u32 ((nth sn 2 : Nat) : Int), .int .u32 ((nth sn 3 : Nat) : Int), .int .u32 ((nth sn 4 : Nat) : Int), .int .u32 ((nth sn 5 : Nat) : Int), .int .u32 ((nth sn 6 : Nat) : Int), .int .u32 ((nth sn 7 : Nat) : Int)]) ∧ (L 11 = true → vq11 = hptr hg) ∧ (L 12 = true → vq12 = hptr hg) ∧ (L 13 = false → W.heap[hg]? = some (hhrow st (.slice (some ⟨g, off, none⟩) r.length cap) bz.length)) ∧ (L 13 = true → W.heap[hg]? = some (hhrow sn (.slice (some ⟨g, off, none⟩) r.length cap) bz.length)) ∧ (L 13 = true → L 4 = true) ∧ (L 13 = true → L 8 = true)) := ⟨_, rfl⟩
            have HI := Lib.hid hI0; clear hI0
            refine wp_region_frame (by kernel_rfl) (by kernel_rfl) I (fun T0 hT0 => ⟨?start, ?step, ?fin⟩)
            case start =>
              rw [HI.out]
              exact ⟨T0.getD 37 undef, T0.getD 38 undef, T0.getD 39 undef, T0.getD 40 undef, T0.getD 41 undef, T0.getD 42 undef, T0.getD 43 undef, T0.getD 44 undef, T0.getD 45 undef, T0.getD 46 undef, T0.getD 47 undef, T0.getD 48 undef, T0.getD 49 undef, by (refine Eq.trans ?_ (congrArg (fun T => Act.mk T []) (sets_self [37, 38, 39, 40, 41, 42, 43, 44, 45, 46, 47, 48, 49] T0).symm)); rw [hT0], KS, nofun, nofun, nofun, nofun, nofun, nofun, nofun, nofun, nofun, nofun, nofun, nofun, nofun, fun _ => HROW.out, nofun, nofun, nofun⟩
            case step =>
              refine ⟨?_, ?_, ?_, ?_, ?_, ?_, ?_, ?_, ?_, ?_, ?_, ?_, ?_, ?_, trivial⟩
              · intro L act W hI hno hdep
                rw [HI.out] at hI
                obtain ⟨vq0, vq1, vq2, vq3, vq4, vq5, vq6, vq7, vq8, vq9, vq10, vq11, vq12, hact, hS, hq0, hq1, hq2, hq3, hq4, hq5, hq6, hq7, hq8, hq9, hq10, hq11, hq12, oq13, nq13, dq13_4, dq13_8⟩ := hI
                subst hact
                rw [hT0]; simp only [sets, List.setIfInBounds_toArray, List.set_cons_zero, List.set_cons_succ]
                go_simp
                rw [HI.out]
                exact ⟨hptr hg, vq1, vq2, vq3, vq4, vq5, vq6, vq7, vq8, vq9, vq10, vq11, vq12, by simp only [sets, List.setIfInBounds_toArray, List.set_cons_zero, List.set_cons_succ], hS, fun _ => rfl, keepI hq1 rfl, keepI hq2 rfl, keepI hq3 rfl, keepI hq4 rfl, keepI hq5 rfl, keepI hq6 rfl, keepI hq7 rfl, keepI hq8 rfl, keepI hq9 rfl, keepI hq10 rfl, keepI hq11 rfl, keepI hq12 rfl, keepF oq13, keepI nq13 rfl, keepD dq13_4 rfl, keepD dq13_8 rfl⟩
              · intro L act W hI hno hdep
                rw [HI.out] at hI
                obtain ⟨vq0, vq1, vq2, vq3, vq4, vq5, vq6, vq7, vq8, vq9, vq10, vq11, vq12, hact, hS, hq0, hq1, hq2, hq3, hq4, hq5, hq6, hq7, hq8, hq9, hq10, hq11, hq12, oq13, nq13, dq13_4, dq13_8⟩ := hI
                subst hact
                rw [hT0]; simp only [sets, List.setIfInBounds_toArray, List.set_cons_zero, List.set_cons_succ]
                go_simp
                rw [HI.out]
                exact ⟨vq0, hptr hg, vq2, vq3, vq4, vq5, vq6, vq7, vq8, vq9, vq10, vq11, vq12, by simp only [sets, List.setIfInBounds_toArray, List.set_cons_zero, List.set_cons_succ], hS, keepI hq0 rfl, fun _ => rfl, keepI hq2 rfl, keepI hq3 rfl, keepI hq4 rfl, keepI hq5 rfl, keepI hq6 rfl, keepI hq7 rfl, keepI hq8 rfl, keepI hq9 rfl, keepI hq10 rfl, keepI hq11 rfl, keepI hq12 rfl, keepF oq13, keepI nq13 rfl, keepD dq13_4 rfl, keepD dq13_8 rfl⟩
              · intro L act W hI hno hdep
                rw [HI.out] at hI
                obtain ⟨vq0, vq1, vq2, vq3, vq4, vq5, vq6, vq7, vq8, vq9, vq10, vq11, vq12, hact, hS, hq0, hq1, hq2, hq3, hq4, hq5, hq6, hq7, hq8, hq9, hq10, hq11, hq12, oq13, nq13, dq13_4, dq13_8⟩ := hI
                subst hact
                obtain rfl := hq1 (hdep ⟨1, .data⟩ (by simp) rfl)
                rw [hT0]; simp only [sets, List.setIfInBounds_toArray, List.set_cons_zero, List.set_cons_succ]
                go_simp
                rw [HI.out]
                exact ⟨vq0, hptr hg, hptr hg, vq3, vq4, vq5, vq6, vq7, vq8, vq9, vq10, vq11, vq12, by simp only [sets, List.setIfInBounds_toArray, List.set_cons_zero, List.set_cons_succ], hS, keepI hq0 rfl, fun _ => rfl, fun _ => rfl, keepI hq3 rfl, keepI hq4 rfl, keepI hq5 rfl, keepI hq6 rfl, keepI hq7 rfl, keepI hq8 rfl, keepI hq9 rfl, keepI hq10 rfl, keepI hq11 rfl, keepI hq12 rfl, keepF oq13, keepI nq13 rfl, keepD dq13_4 rfl, keepD dq13_8 rfl⟩
              · intro L act W hI hno hdep
                rw [HI.out] at hI
                obtain ⟨vq0, vq1, vq2, vq3, vq4, vq5, vq6, vq7, vq8, vq9, vq10, vq11, vq12, hact, hS, hq0, hq1, hq2, hq3, hq4, hq5, hq6, hq7, hq8, hq9, hq10, hq11, hq12, oq13, nq13, dq13_4, dq13_8⟩ := hI
                subst hact
                obtain rfl := hq2 (hdep ⟨2, .data⟩ (by simp) rfl)
                rw [hT0]; simp only [sets, List.setIfInBounds_toArray, List.set_cons_zero, List.set_cons_succ]
                go_simp
                rw [HI.out]
                exact ⟨vq0, vq1, hptr hg, hptr hg, vq4, vq5, vq6, vq7, vq8, vq9, vq10, vq11, vq12, by simp only [sets, List.setIfInBounds_toArray, List.set_cons_zero, List.set_cons_succ], hS, keepI hq0 rfl, keepI hq1 rfl, fun _ => rfl, fun _ => rfl, keepI hq4 rfl, keepI hq5 rfl, keepI hq6 rfl, keepI hq7 rfl, keepI hq8 rfl, keepI hq9 rfl, keepI hq10 rfl, keepI hq11 rfl, keepI hq12 rfl, keepF oq13, keepI nq13 rfl, keepD dq13_4 rfl, keepD dq13_8 rfl⟩
              · intro L act W hI hno hdep
                rw [HI.out] at hI
                obtain ⟨vq0, vq1, vq2, vq3, vq4, vq5, vq6, vq7, vq8, vq9, vq10, vq11, vq12, hact, hS, hq0, hq1, hq2, hq3, hq4, hq5, hq6, hq7, hq8, hq9, hq10, hq11, hq12, oq13, nq13, dq13_4, dq13_8⟩ := hI
                subst hact
                obtain rfl := hq3 (hdep ⟨3, .data⟩ (by simp) rfl)
                rw [hT0]; simp only [sets, List.setIfInBounds_toArray, List.set_cons_zero, List.set_cons_succ]
                have hq := oq13 (noF dq13_4 hno)
                obtain ⟨⟨c0, c1, c2, c3, c4, c5, c6, c7, c8, c9⟩, -⟩ := hrow_at hq
                have hhb := lt_of_block hq
                go_simp
                rw [HI.out]
                exact ⟨vq0, vq1, vq2, hptr hg, .agg #[.int .u32 ((nth st 0 : Nat) : Int), .int .u32 ((nth st 1 : Nat) : Int), .int .u32 ((nth st 2 : Nat) : Int), .int .u32 ((nth st 3 : Nat) : Int), .int .u32 ((nth st 4 : Nat) : Int), .int .u32 ((nth st 5 : Nat) : Int), .int .u32 ((nth st 6 : Nat) : Int), .int .u32 ((nth st 7 : Nat) : Int)], vq5, vq6, vq7, vq8, vq9, vq10, vq11, vq12, by simp only [sets, List.setIfInBounds_toArray, List.set_cons_zero, List.set_cons_succ], hS, keepI hq0 rfl, keepI hq1 rfl, keepI hq2 rfl, fun _ => rfl, fun _ => rfl, keepI hq5 rfl, keepI hq6 rfl, keepI hq7 rfl, keepI hq8 rfl, keepI hq9 rfl, keepI hq10 rfl, keepI hq11 rfl, keepI hq12 rfl, keepF oq13, keepI nq13 rfl, keepD dq13_4 rfl, keepD dq13_8 rfl⟩
              · intro L act W hI hno hdep
                rw [HI.out] at hI
                obtain ⟨vq0, vq1, vq2, vq3, vq4, vq5, vq6, vq7, vq8, vq9, vq10, vq11, vq12, hact, hS, hq0, hq1, hq2, hq3, hq4, hq5, hq6, hq7, hq8, hq9, hq10, hq11, hq12, oq13, nq13, dq13_4, dq13_8⟩ := hI
                subst hact
                rw [hT0]; simp only [sets, List.setIfInBounds_toArray, List.set_cons_zero, List.set_cons_succ]
                go_simp
                rw [HI.out]
                exact ⟨vq0, vq1, vq2, vq3, vq4, hptr hg, vq6, vq7, vq8, vq9, vq10, vq11, vq12, by simp only [sets, List.setIfInBounds_toArray, List.set_cons_zero, List.set_cons_succ], hS, keepI hq0 rfl, keepI hq1 rfl, keepI hq2 rfl, keepI hq3 rfl, keepI hq4 rfl, fun _ => rfl, keepI hq6 rfl, keepI hq7 rfl, keepI hq8 rfl, keepI hq9 rfl, keepI hq10 rfl, keepI hq11 rfl, keepI hq12 rfl, keepF oq13, keepI nq13 rfl, keepD dq13_4 rfl, keepD dq13_8 rfl⟩
              · intro L act W hI hno hdep
                rw [HI.out] at hI
                obtain ⟨vq0, vq1, vq2, vq3, vq4, vq5, vq6, vq7, vq8, vq9, vq10, vq11, vq12, hact, hS, hq0, hq1, hq2, hq3, hq4, hq5, hq6, hq7, hq8, hq9, hq10, hq11, hq12, oq13, nq13, dq13_4, dq13_8⟩ := hI
                subst hact
                obtain rfl := hq5 (hdep ⟨5, .data⟩ (by simp) rfl)
                rw [hT0]; simp only [sets, List.setIfInBounds_toArray, List.set_cons_zero, List.set_cons_succ]
                go_simp
                rw [HI.out]
                exact ⟨vq0, vq1, vq2, vq3, vq4, hptr hg, hptr hg, vq7, vq8, vq9, vq10, vq11, vq12, by simp only [sets, List.setIfInBounds_toArray, List.set_cons_zero, List.set_cons_succ], hS, keepI hq0 rfl, keepI hq1 rfl, keepI hq2 rfl, keepI hq3 rfl, keepI hq4 rfl, fun _ => rfl, fun _ => rfl, keepI hq7 rfl, keepI hq8 rfl, keepI hq9 rfl, keepI hq10 rfl, keepI hq11 rfl, keepI hq12 rfl, keepF oq13, keepI nq13 rfl, keepD dq13_4 rfl, keepD dq13_8 rfl⟩
              · intro L act W hI hno hdep
                rw [HI.out] at hI
                obtain ⟨vq0, vq1, vq2, vq3, vq4, vq5, vq6, vq7, vq8, vq9, vq10, vq11, vq12, hact, hS, hq0, hq1, hq2, hq3, hq4, hq5, hq6, hq7, hq8, hq9, hq10, hq11, hq12, oq13, nq13, dq13_4, dq13_8⟩ := hI
                subst hact
                obtain rfl := hq6 (hdep ⟨6, .data⟩ (by simp) rfl)
                rw [hT0]; simp only [sets, List.setIfInBounds_toArray, List.set_cons_zero, List.set_cons_succ]
                go_simp
                rw [HI.out]
                exact ⟨vq0, vq1, vq2, vq3, vq4, vq5, hptr hg, .pointer (some ⟨hg, 8, none⟩), vq8, vq9, vq10, vq11, vq12, by simp only [sets, List.setIfInBounds_toArray, List.set_cons_zero, List.set_cons_succ], hS, keepI hq0 rfl, keepI hq1 rfl, keepI hq2 rfl, keepI hq3 rfl, keepI hq4 rfl, keepI hq5 rfl, fun _ => rfl, fun _ => rfl, keepI hq8 rfl, keepI hq9 rfl, keepI hq10 rfl, keepI hq11 rfl, keepI hq12 rfl, keepF oq13, keepI nq13 rfl, keepD dq13_4 rfl, keepD dq13_8 rfl⟩
              · intro L act W hI hno hdep
                rw [HI.out] at hI
                obtain ⟨vq0, vq1, vq2, vq3, vq4, vq5, vq6, vq7, vq8, vq9, vq10, vq11, vq12, hact, hS, hq0, hq1, hq2, hq3, hq4, hq5, hq6, hq7, hq8, hq9, hq10, hq11, hq12, oq13, nq13, dq13_4, dq13_8⟩ := hI
                subst hact
                obtain rfl := hq7 (hdep ⟨7, .data⟩ (by simp) rfl)
                rw [hT0]; simp only [sets, List.setIfInBounds_toArray, List.set_cons_zero, List.set_cons_succ]
                have hq := oq13 (noF dq13_8 hno)
                obtain ⟨⟨c0, c1, c2, c3, c4, c5, c6, c7, c8, c9⟩, -⟩ := hrow_at hq
                have hhb := lt_of_block hq
                go_simp
                rw [HI.out]
                exact ⟨vq0, vq1, vq2, vq3, vq4, vq5, vq6, .pointer (some ⟨hg, 8, none⟩), .slice (some ⟨g, off, none⟩) r.length cap, vq9, vq10, vq11, vq12, by simp only [sets, List.setIfInBounds_toArray, List.set_cons_zero, List.set_cons_succ], hS, keepI hq0 rfl, keepI hq1 rfl, keepI hq2 rfl, keepI hq3 rfl, keepI hq4 rfl, keepI hq5 rfl, keepI hq6 rfl, fun _ => rfl, fun _ => rfl, keepI hq9 rfl, keepI hq10 rfl, keepI hq11 rfl, keepI hq12 rfl, keepF oq13, keepI nq13 rfl, keepD dq13_4 rfl, keepD dq13_8 rfl⟩
              · intro L act W hI hno hdep
                rw [HI.out] at hI
                obtain ⟨vq0, vq1, vq2, vq3, vq4, vq5, vq6, vq7, vq8, vq9, vq10, vq11, vq12, hact, hS, hq0, hq1, hq2, hq3, hq4, hq5, hq6, hq7, hq8, hq9, hq10, hq11, hq12, oq13, nq13, dq13_4, dq13_8⟩ := hI
                subst hact
                obtain rfl := hq8 (hdep ⟨8, .data⟩ (by simp) rfl)
                rw [hT0]; simp only [sets, List.setIfInBounds_toArray, List.set_cons_zero, List.set_cons_succ]
                go_simp
                rw [HI.out]
                exact ⟨vq0, vq1, vq2, vq3, vq4, vq5, vq6, vq7, .slice (some ⟨g, off, none⟩) r.length cap, .slice (some ⟨g, off, none⟩) 64 cap, vq10, vq11, vq12, by simp only [sets, List.setIfInBounds_toArray, List.set_cons_zero, List.set_cons_succ], hS, keepI hq0 rfl, keepI hq1 rfl, keepI hq2 rfl, keepI hq3 rfl, keepI hq4 rfl, keepI hq5 rfl, keepI hq6 rfl, keepI hq7 rfl, fun _ => rfl, fun _ => rfl, keepI hq10 rfl, keepI hq11 rfl, keepI hq12 rfl, keepF oq13, keepI nq13 rfl, keepD dq13_4 rfl, keepD dq13_8 rfl⟩
              · intro L act W hI hno hdep
                rw [HI.out] at hI
                obtain ⟨vq0, vq1, vq2, vq3, vq4, vq5, vq6, vq7, vq8, vq9, vq10, vq11, vq12, hact, hS, hq0, hq1, hq2, hq3, hq4, hq5, hq6, hq7, hq8, hq9, hq10, hq11, hq12, oq13, nq13, dq13_4, dq13_8⟩ := hI
                subst hact
                obtain rfl := hq4 (hdep ⟨4, .data⟩ (by simp) rfl)
                obtain rfl := hq9 (hdep ⟨9, .data⟩ (by simp) rfl)
                rw [hT0]; simp only [sets, List.setIfInBounds_toArray, List.set_cons_zero, List.set_cons_succ]
                go_simp
                refine (CMX.out _ hS.2).mono ?_
                rintro e W2 ⟨rfl, hb⟩
                rw [HI.out]
                exact ⟨vq0, vq1, vq2, vq3, .agg #[.int .u32 ((nth st 0 : Nat) : Int), .int .u32 ((nth st 1 : Nat) : Int), .int .u32 ((nth st 2 : Nat) : Int), .int .u32 ((nth st 3 : Nat) : Int), .int .u32 ((nth st 4 : Nat) : Int), .int .u32 ((nth st 5 : Nat) : Int), .int .u32 ((nth st 6 : Nat) : Int), .int .u32 ((nth st 7 : Nat) : Int)], vq5, vq6, vq7, vq8, .slice (some ⟨g, off, none⟩) 64 cap, .agg #[.int .u32 ((nth sn 0 : Nat) : Int), .int .u32 ((nth sn 1 : Nat) : Int), .int .u32 ((nth sn 2 : Nat) : Int), .int .u32 ((nth sn 3 : Nat) : Int), .int .u32 ((nth sn 4 : Nat) : Int), .int .u32 ((nth sn 5 : Nat) : Int), .int .u32 ((nth sn 6 : Nat) : Int), .int .u32 ((nth sn 7 : Nat) : Int)], vq11, vq12, by simp only [sets, List.setIfInBounds_toArray, List.set_cons_zero, List.set_cons_succ], ⟨hS.1.trans (Keeps.of_below (F := fun _ => False) hb) (fun _ h => h.elim), keepH hb hS.2⟩, keepI hq0 rfl, keepI hq1 rfl, keepI hq2 rfl, keepI hq3 rfl, fun _ => rfl, keepI hq5 rfl, keepI hq6 rfl, keepI hq7 rfl, keepI hq8 rfl, fun _ => rfl, fun _ => rfl, keepI hq11 rfl, keepI hq12 rfl, keepF (fun h => keepH hb (oq13 h)), keepI (fun h => keepH hb (nq13 h)) rfl, keepD dq13_4 rfl, keepD dq13_8 rfl⟩
              · intro L act W hI hno hdep
                rw [HI.out] at hI
                obtain ⟨vq0, vq1, vq2, vq3, vq4, vq5, vq6, vq7, vq8, vq9, vq10, vq11, vq12, hact, hS, hq0, hq1, hq2, hq3, hq4, hq5, hq6, hq7, hq8, hq9, hq10, hq11, hq12, oq13, nq13, dq13_4, dq13_8⟩ := hI
                subst hact
                obtain rfl := hq0 (hdep ⟨0, .data⟩ (by simp) rfl)
                rw [hT0]; simp only [sets, List.setIfInBounds_toArray, List.set_cons_zero, List.set_cons_succ]
                go_simp
                rw [HI.out]
                exact ⟨hptr hg, vq1, vq2, vq3, vq4, vq5, vq6, vq7, vq8, vq9, vq10, hptr hg, vq12, by simp only [sets, List.setIfInBounds_toArray, List.set_cons_zero, List.set_cons_succ], hS, fun _ => rfl, keepI hq1 rfl, keepI hq2 rfl, keepI hq3 rfl, keepI hq4 rfl, keepI hq5 rfl, keepI hq6 rfl, keepI hq7 rfl, keepI hq8 rfl, keepI hq9 rfl, keepI hq10 rfl, fun _ => rfl, keepI hq12 rfl, keepF oq13, keepI nq13 rfl, keepD dq13_4 rfl, keepD dq13_8 rfl⟩
              · intro L act W hI hno hdep
                rw [HI.out] at hI
                obtain ⟨vq0, vq1, vq2, vq3, vq4, vq5, vq6, vq7, vq8, vq9, vq10, vq11, vq12, hact, hS, hq0, hq1, hq2, hq3, hq4, hq5, hq6, hq7, hq8, hq9, hq10, hq11, hq12, oq13, nq13, dq13_4, dq13_8⟩ := hI
                subst hact
                obtain rfl := hq11 (hdep ⟨11, .data⟩ (by simp) rfl)
                rw [hT0]; simp only [sets, List.setIfInBounds_toArray, List.set_cons_zero, List.set_cons_succ]
                go_simp
                rw [HI.out]
                exact ⟨vq0, vq1, vq2, vq3, vq4, vq5, vq6, vq7, vq8, vq9, vq10, hptr hg, hptr hg, by simp only [sets, List.setIfInBounds_toArray, List.set_cons_zero, List.set_cons_succ], hS, keepI hq0 rfl, keepI hq1 rfl, keepI hq2 rfl, keepI hq3 rfl, keepI hq4 rfl, keepI hq5 rfl, keepI hq6 rfl, keepI hq7 rfl, keepI hq8 rfl, keepI hq9 rfl, keepI hq10 rfl, fun _ => rfl, fun _ => rfl, keepF oq13, keepI nq13 rfl, keepD dq13_4 rfl, keepD dq13_8 rfl⟩
              · intro L act W hI hno hdep
                rw [HI.out] at hI
                obtain ⟨vq0, vq1, vq2, vq3, vq4, vq5, vq6, vq7, vq8, vq9, vq10, vq11, vq12, hact, hS, hq0, hq1, hq2, hq3, hq4, hq5, hq6, hq7, hq8, hq9, hq10, hq11, hq12, oq13, nq13, dq13_4, dq13_8⟩ := hI
                subst hact
                obtain rfl := hq12 (hdep ⟨12, .data⟩ (by simp) rfl)
                obtain rfl := hq10 (hdep ⟨10, .data⟩ (by simp) rfl)
                have hg1 := oq13 hno
                rw [hT0]; simp only [sets, List.setIfInBounds_toArray, List.set_cons_zero, List.set_cons_succ]
                with_reducible refine wp_store_mid 85 (Operand.tmp 49) (Operand.tmp 47) rfl hg 0 (st8 sn) ?_ ?_ (hrow_there hg1 sn) (by kernel_rfl) (by simp [Value.oneCell']) ?_
                · rfl
                · rfl
                rw [HI.out]
                exact ⟨vq0, vq1, vq2, vq3, vq4, vq5, vq6, vq7, vq8, vq9, .agg #[.int .u32 ((nth sn 0 : Nat) : Int), .int .u32 ((nth sn 1 : Nat) : Int), .int .u32 ((nth sn 2 : Nat) : Int), .int .u32 ((nth sn 3 : Nat) : Int), .int .u32 ((nth sn 4 : Nat) : Int), .int .u32 ((nth sn 5 : Nat) : Int), .int .u32 ((nth sn 6 : Nat) : Int), .int .u32 ((nth sn 7 : Nat) : Int)], vq11, hptr hg, by simp only [sets, Act.put, List.setIfInBounds_toArray, List.set_cons_zero, List.set_cons_succ], ⟨Keeps.setCells (F := fun b => b = hg) (Or.inl rfl) _ _ _ hS.1, (other_setCells hghg _ _ _).trans hS.2⟩, keepI hq0 rfl, keepI hq1 rfl, keepI hq2 rfl, keepI hq3 rfl, keepI hq4 rfl, keepI hq5 rfl, keepI hq6 rfl, keepI hq7 rfl, keepI hq8 rfl, keepI hq9 rfl, fun _ => rfl, keepI hq11 rfl, fun _ => rfl, alsoF, fun _ => hrow_cells8 hg1 sn, fun _ => alsoD (hdep ⟨4, .phase⟩ (by simp) rfl), fun _ => alsoD (hdep ⟨8, .phase⟩ (by simp) rfl)⟩
            case fin =>
              intro L act W hall hI
              rw [HI.out] at hI
              obtain ⟨vq0, vq1, vq2, vq3, vq4, vq5, vq6, vq7, vq8, vq9, vq10, vq11, vq12, hact, hS, hq0, hq1, hq2, hq3, hq4, hq5, hq6, hq7, hq8, hq9, hq10, hq11, hq12, oq13, nq13, dq13_4, dq13_8⟩ := hI
              subst hact
              obtain rfl := hq0 (hall 0 (by decide))
              obtain rfl := hq1 (hall 1 (by decide))
              obtain rfl := hq2 (hall 2 (by decide))
              obtain rfl := hq3 (hall 3 (by decide))
              obtain rfl := hq4 (hall 4 (by decide))
              obtain rfl := hq5 (hall 5 (by decide))
              obtain rfl := hq6 (hall 6 (by decide))
              obtain rfl := hq7 (hall 7 (by decide))
              obtain rfl := hq8 (hall 8 (by decide))
              obtain rfl := hq9 (hall 9 (by decide))
              obtain rfl := hq10 (hall 10 (by decide))
              obtain rfl := hq11 (hall 11 (by decide))
              obtain rfl := hq12 (hall 12 (by decide))
              have thh := Lib.hid (nq13 (hall 13 (by decide)))
              clear hq0 hq1 hq2 hq3 hq4 hq5 hq6 hq7 hq8 hq9 hq10 hq11 hq12 oq13 nq13 dq13_4 dq13_8 hall
              rw [hT0]; simp only [sets, List.setIfInBounds_toArray, List.set_cons_zero, List.set_cons_succ]
              clear hT0 HI
              have c8 := (hrow_at thh.out).1.2.2.2.2.2.2.2.2.1
              have f8 := (hrow_at thh.out).2 8
              have hhb := lt_of_block thh.out
              have hKW : Keeps (HF hg v0) w W := HJ.out.keeps.trans hS.1 (fun b h => Or.inl (Or.inl h))
              have hdr2 : bz.drop (64 * (m + 1)) = r.drop 64 := by rw [HR0.out, List.drop_drop]; congr 1
              have hgW : ∀ u : Value, (W.setCell ⟨hg, 8, none⟩ u).heap[g]? = some (.cells cur 5 (0, 0)) := fun u => (heap_setCell_other W ⟨hg, 8, none⟩ _ u hghg).trans hS.2
              have AMN : ∀ u : Value, u.ownBlock = some g → RestV (W.setCell ⟨hg, 8, none⟩ u) u (r.drop 64) → AddMid w B hg v0 bz (bz.length - 64 * (m + 1)) (W.setCell ⟨hg, 8, none⟩ u) := fun u hu hr' => by
                have h5 := HML.out; have h6 := HRLX.out
                refine ⟨hKW.setCell _ (Or.inl (Or.inl rfl)), u, m + 1, ⟨by omega, ?_, by rw [hdr2]; exact hr'⟩, by omega, fun b hb => HVN2.out b (by rw [← hb, hu]; rfl)⟩
                rw [HNX.out]; exact hrow_set8 thh.out u
              have HAMN := Lib.hid AMN
              have HME : Hid (bz.length - 64 * (m + 1) < gk) := by show _ < _; have h5 := HML.out; have h6 := HRLX.out; omega
              clear AMN hdr2 hKW
              by_cases hc64 : cap = 64
              · have hf1 := Lib.hid (HAMN.out (.slice (some ⟨g, off, none⟩) (r.length - 64) 0) rfl (rest_empty (hgW _) (by omega) (by omega)))
                clear hgW
                go_wp2_with fail
                go_roundg (bz.length - 64 * (m + 1))
                case measure => exact HME.out
                case rel => exact hf1
              · have hf1 := Lib.hid (HAMN.out (.slice (some ⟨g, off + 64, none⟩) (r.length - 64) (cap - 64)) rfl ((rest_shift (hgW _) h1 h2 H3.out).resolve_right (by omega)))
                clear hgW
                go_wp2_with fail
                go_roundg (bz.length - 64 * (m + 1))
                case measure => exact HME.out
                case rel => exact hf1
/-- Add, its pieces below the hasher. -/
theorem add_h (B hg : Nat) (v0 lv : Value) (bs0 : List Nat) (pss : List (List Nat)) (w : World) (hh : HasherV w hg v0 bs0) (hp : Pcs w B lv pss) (hbg : B ≤ hg) (hbv : ∀ b, v0.ownBlock = some b → B ≤ b) (hby : ∀ y, y ∈ bs0 ++ pss.flatten → y < 256)
    (hlen : (bs0 ++ pss.flatten).length ≤ 1000000000) (hpl : pss.length ≤ 1000000) :
    Calls Try.prog 41 #[hptr hg, lv] w fun e w' => e = .returned (.tuple #[]) ∧ Hid (HAddInv w B hg v0 bs0 pss pss.length w') :=
  hadd_s B _ hg v0 lv bs0 pss w hh hp (fun b hb e => by have hb' : b < B := hb; omega) (fun b hv hb => by have hb' : b < B := hb; have := hbv b hv; omega) hby hlen hpl
end Go.Proofs.Ytbaifchbpnmkpaa
namespace Go.Proofs.Ytbaifchbpnmkpaa
open Go.RowKit
/-- What Sum holds while it writes what comes behind: z so far. -/
structure PadInv (w : World) (v : Value) (z : List Nat) (wr : World) : Prop where
  below : Below w.heap.size w wr
  out : wr.heap[w.heap.size]? = some (Obj.cells (wcells .u8 (List.replicate 32 0)) 26 (0, 0))
  rest : RestV wr v z
  own : ∀ b, v.ownBlock = some b → w.heap.size < b
theorem PadInv.app {w wr W2 : World} {v v2 : Value} {z zz : List Nat} (h : PadInv w v z wr) (R : RestV W2 v2 zz) (K : Keeps (fun b => v.ownBlock = some b) wr W2) (Nn : ∀ b, v2.ownBlock = some b → v.ownBlock = some b ∨ b = wr.heap.size) : PadInv w v2 zz W2 := by
  have hlt := lt_of_block h.out
  refine ⟨?_, (K.block _ hlt (fun e => by have := h.own _ e; omega)).trans h.out, R, fun b hb => ?_⟩
  · exact h.below.trans ⟨K.os, K.tape, K.output, K.size, fun b hb => K.block b (Nat.lt_of_lt_of_le hb h.below.size) (fun e => by have := h.own _ e; omega)⟩
  · rcases Nn b hb with h1 | h1
    · exact h.own b h1
    · rw [h1]; exact hlt
theorem PadInv.alloc {w wr : World} {v : Value} {z : List Nat} (h : PadInv w v z wr) (o : Obj) : PadInv w v z (wr.alloc o) :=
  ⟨h.below.alloc h.below.size o, (Below.heap_alloc wr o _ (lt_of_block h.out)).trans h.out, h.rest.keep (F := fun _ => False) (Keeps.of_below ((Below.refl _ _).alloc (Nat.le_refl _) o)) (fun _ _ h => h), h.own⟩
theorem one_src (W : World) (b : Nat) (y : Nat) (h : W.cell? ⟨b, 0, none⟩ = some (.int .u8 ((y : Nat) : Int))) : SrcB W (.slice (some ⟨b, 0, none⟩) 1 1) [y] := srcB_slice W b 0 1 [y] (fun i hi => by
  obtain rfl : i = 0 := by simpa using hi
  exact h)
theorem be8_take (n k : Nat) (h : k < 8) : (be8 n).take (k + 1) = (be8 n).take k ++ [n / 2 ^ (56 - 8 * k) % 256] := by
  rw [List.take_add_one]
  congr 1
  unfold be8
  rw [List.getElem?_map, List.getElem?_range h]; rfl
theorem be8_len (n : Nat) : (be8 n).length = 8 := by simp [be8]
/-- What Sum's block loop holds: k pieces are mixed in. -/
structure BlkInv (w : World) (G6 : Nat) (s0 pd : List Nat) (v : Value) (k : Nat) (wr : World) : Prop where
  below : Below w.heap.size w wr
  out : wr.heap[w.heap.size]? = some (Obj.cells (wcells .u8 (List.replicate 32 0)) 26 (0, 0))
  cur : wr.heap[G6]? = some (.cells (wcells .u32 (runB s0 pd k)) 85 (0, 0))
  rest : RestV wr v (pd.drop (64 * k))
/-- What its last loop holds: the bytes of i words. -/
structure OutInv (w : World) (G7 : Nat) (fs : List Nat) (i : Nat) (wr : World) : Prop where
  below : Below w.heap.size w wr
  out : wr.heap[w.heap.size]? = some (Obj.cells (wcells .u8 (List.replicate 32 0)) 26 (0, 0))
  row : ∃ l : List Nat, l.length = 32 ∧ (∀ j, j < 4 * i → nth l j = nth (outB fs) j) ∧ wr.heap[G7]? = some (.cells (wcells .u8 l) 26 (0, 0))
theorem St.cons' {w W : World} {L : List (Nat × Obj)} (_ : St w L w) (hb : Below w.heap.size w W) {g : Nat} {o : Obj} (hg : W.heap[g]? = some o) : St w [(g, o)] W := ⟨hb, fun p hp => by
  rcases List.mem_cons.1 hp with rfl | hp
  · exact hg
  · cases hp⟩
theorem sha_tail (bs : List Nat) (n : Nat) (hn : n = bs.length / 64) (hl : bs.length ≤ 1000000000) : outB (runB (runB HL bs n) (bs.drop (64 * n) ++ [128] ++ List.replicate (pads (bs.drop (64 * n)).length) 0 ++ be8 (8 * bs.length)) ((bs.drop (64 * n) ++ [128] ++ List.replicate (pads (bs.drop (64 * n)).length) 0 ++ be8 (8 * bs.length)).length / 64)) = sha bs := by
  have h64 : 64 * n ≤ bs.length := by omega
  have hdl : (bs.drop (64 * n)).length = bs.length - 64 * n := List.length_drop
  have hpe : pads (bs.drop (64 * n)).length = pads bs.length := by rw [hdl]; unfold pads; omega
  have hmod : 8 * bs.length % 18446744073709551616 = 8 * bs.length := Nat.mod_eq_of_lt (by omega)
  have hT : (padded bs).drop (64 * n) = bs.drop (64 * n) ++ [128] ++ List.replicate (pads (bs.drop (64 * n)).length) 0 ++ be8 (8 * bs.length) := by
    unfold padded
    rw [hmod, hpe, List.append_assoc, List.append_assoc, List.append_assoc, List.append_assoc, List.drop_append_of_le_length h64]
  rw [← hT]
  have hlen := padded_len bs
  have hTl : ((padded bs).drop (64 * n)).length = (padded bs).length - 64 * n := List.length_drop
  unfold sha
  congr 1
  rw [show (padded bs).length / 64 = n + ((padded bs).drop (64 * n)).length / 64 by rw [hTl]; omega, runB_add]
  congr 1
  refine runB_congr HL _ _ n (fun i hi => ?_)
  unfold padded
  rw [List.append_assoc, List.append_assoc, nth_append_left _ _ _ (by omega)]
theorem index_s0 (a b c d e f g h : Nat) (w : World) : (Instr.index 85 (.agg (wcells .u32 [a, b, c, d, e, f, g, h])) (.int .i64 ((0 : Nat) : Int))).run Try.prog w = .ok (.int .u32 ((a : Nat) : Int)) w := by kernel_rfl
theorem index_s1 (a b c d e f g h : Nat) (w : World) : (Instr.index 85 (.agg (wcells .u32 [a, b, c, d, e, f, g, h])) (.int .i64 ((1 : Nat) : Int))).run Try.prog w = .ok (.int .u32 ((b : Nat) : Int)) w := by kernel_rfl
theorem index_s2 (a b c d e f g h : Nat) (w : World) : (Instr.index 85 (.agg (wcells .u32 [a, b, c, d, e, f, g, h])) (.int .i64 ((2 : Nat) : Int))).run Try.prog w = .ok (.int .u32 ((c : Nat) : Int)) w := by kernel_rfl
theorem index_s3 (a b c d e f g h : Nat) (w : World) : (Instr.index 85 (.agg (wcells .u32 [a, b, c, d, e, f, g, h])) (.int .i64 ((3 : Nat) : Int))).run Try.prog w = .ok (.int .u32 ((d : Nat) : Int)) w := by kernel_rfl
theorem index_s4 (a b c d e f g h : Nat) (w : World) : (Instr.index 85 (.agg (wcells .u32 [a, b, c, d, e, f, g, h])) (.int .i64 ((4 : Nat) : Int))).run Try.prog w = .ok (.int .u32 ((e : Nat) : Int)) w := by kernel_rfl
theorem index_s5 (a b c d e f g h : Nat) (w : World) : (Instr.index 85 (.agg (wcells .u32 [a, b, c, d, e, f, g, h])) (.int .i64 ((5 : Nat) : Int))).run Try.prog w = .ok (.int .u32 ((f : Nat) : Int)) w := by kernel_rfl
theorem index_s6 (a b c d e f g h : Nat) (w : World) : (Instr.index 85 (.agg (wcells .u32 [a, b, c, d, e, f, g, h])) (.int .i64 ((6 : Nat) : Int))).run Try.prog w = .ok (.int .u32 ((g : Nat) : Int)) w := by kernel_rfl
theorem index_s7 (a b c d e f g h : Nat) (w : World) : (Instr.index 85 (.agg (wcells .u32 [a, b, c, d, e, f, g, h])) (.int .i64 ((7 : Nat) : Int))).run Try.prog w = .ok (.int .u32 ((h : Nat) : Int)) w := by kernel_rfl
theorem index_st (l : List Nat) (hl : l.length = 8) (i : Nat) (hi : i < 8) (w : World) : (Instr.index 85 (.agg (wcells .u32 l)) (.int .i64 (i : Int))).run Try.prog w = .ok (.int .u32 ((nth l i : Nat) : Int)) w := by
  match l, hl with
  | [a, b, c, d, e, f, g, h], _ =>
    match i, hi with
    | 0, _ => exact index_s0 a b c d e f g h w
    | 1, _ => exact index_s1 a b c d e f g h w
    | 2, _ => exact index_s2 a b c d e f g h w
    | 3, _ => exact index_s3 a b c d e f g h w
    | 4, _ => exact index_s4 a b c d e f g h w
    | 5, _ => exact index_s5 a b c d e f g h w
    | 6, _ => exact index_s6 a b c d e f g h w
    | 7, _ => exact index_s7 a b c d e f g h w
theorem outB_at (fs : List Nat) (i j : Nat) (hi : i < 8) (hj : j < 4) : nth (outB fs) (4 * i + j) = nth fs i / 2 ^ (24 - 8 * j) % 256 := by
  unfold outB
  rw [nth_range _ _ _ (by omega), show (4 * i + j) / 4 = i by omega, show (4 * i + j) % 4 = j by omega]
theorem OutInv.step {w wr : World} {G7 : Nat} {fs : List Nat} {i : Nat} (h : OutInv w G7 fs i wr) (hi : i < 8) (hG : w.heap.size < G7) (xw : Nat) (hx : nth fs i = xw) :
    OutInv w G7 fs (i + 1) ((((wr.setCell ⟨G7, 4 * i, none⟩ (.int .u8 ((xw : Int) / 16777216 % 256))).setCell ⟨G7, 4 * i + 1, none⟩ (.int .u8 ((xw : Int) / 65536 % 256))).setCell ⟨G7, 4 * i + 2, none⟩ (.int .u8 ((xw : Int) / 256 % 256))).setCell ⟨G7, 4 * i + 3, none⟩ (.int .u8 ((xw : Int) % 256))) := by
  have e0 : (xw : Int) / 16777216 % 256 = ((nth (outB fs) (4 * i + 0) : Nat) : Int) := by rw [outB_at fs i 0 hi (by omega), hx]; simp
  have e1 : (xw : Int) / 65536 % 256 = ((nth (outB fs) (4 * i + 1) : Nat) : Int) := by rw [outB_at fs i 1 hi (by omega), hx]; simp
  have e2 : (xw : Int) / 256 % 256 = ((nth (outB fs) (4 * i + 2) : Nat) : Int) := by rw [outB_at fs i 2 hi (by omega), hx]; simp
  have e3 : (xw : Int) % 256 = ((nth (outB fs) (4 * i + 3) : Nat) : Int) := by rw [outB_at fs i 3 hi (by omega), hx]; simp
  rw [e0, e1, e2, e3]
  obtain ⟨l, hl, hp, hr⟩ := h.row
  have other : ∀ (W : World) (o : Nat) (v : Value), W.heap[w.heap.size]? = some (Obj.cells (wcells .u8 (List.replicate 32 0)) 26 (0, 0)) → (W.setCell ⟨G7, o, none⟩ v).heap[w.heap.size]? = some (Obj.cells (wcells .u8 (List.replicate 32 0)) 26 (0, 0)) := fun W o v hW => (heap_setCell_other W ⟨G7, o, none⟩ _ v (by show w.heap.size ≠ G7; omega)).trans hW
  have hB : w.heap.size ≤ G7 := by omega
  refine ⟨(((h.below.setCell hB _).setCell hB _).setCell hB _).setCell hB _, other _ _ _ (other _ _ _ (other _ _ _ (other _ _ _ h.out))), (((l.set (4 * i) (nth (outB fs) (4 * i + 0))).set (4 * i + 1) (nth (outB fs) (4 * i + 1))).set (4 * i + 2) (nth (outB fs) (4 * i + 2))).set (4 * i + 3) (nth (outB fs) (4 * i + 3)), by simpa using hl, fun j hj => ?_, set_w (set_w (set_w (set_w hr _ _) _ _) _ _) _ _⟩
  rw [nth_set _ _ _ _ (by simp; omega), nth_set _ _ _ _ (by simp; omega), nth_set _ _ _ _ (by simp; omega), nth_set _ _ _ _ (by omega)]
  split
  · next e => rw [e]
  · split
    · next e => rw [e]
    · split
      · next e => rw [e]
      · split
        · next e => rw [← e]; rfl
        · exact hp j (by omega)
theorem RestV.notin {W : World} {g : Nat} {v : Value} {r : List Nat} {cs : Array Value} {t : TypeId} {fr : Nat × Nat} (h : RestV W v r) (hr : W.heap[g]? = some (.cells cs t fr)) (ht : t ≠ 5) : v.ownBlock ≠ some g := by
  rcases h with ⟨rfl, -⟩ | ⟨g', off, cap, cur, rfl, hgg, -⟩
  · simp [Value.ownBlock]
  · intro e
    simp [Value.ownBlock] at e
    subst e
    have := hgg.symm.trans hr
    simp at this
    exact ht this.2.1.symm
set_option maxRecDepth 100000 in
set_option maxHeartbeats 4000000 in
theorem sum_h (hg : Nat) (v0 : Value) (bs : List Nat) (w : World) (hh : HasherV w hg v0 bs) (hby : ∀ y, y ∈ bs → y < 256) (hlen : bs.length ≤ 1000000000) :
    Calls Try.prog 42 #[hptr hg] w fun e w' => e = .returned (.agg (wcells .u8 (sha bs))) ∧ Below w.heap.size w w' := by
  have HH := Lib.hid hh; have HBY := Lib.hid hby; have HLEN := Lib.hid hlen
  have hhrow := hh.row
  have hhb := lt_of_block hhrow
  obtain ⟨va0, vc0, hve⟩ := hh.rest.shape
  subst hve
  obtain ⟨n, hn⟩ : ∃ n, n = bs.length / 64 := ⟨_, rfl⟩
  have hn64 : 64 * n ≤ bs.length := by omega
  have hrest := hh.rest
  rw [← hn] at hhrow hrest
  obtain ⟨r, hr⟩ : ∃ r, r = bs.drop (64 * n) := ⟨_, rfl⟩
  have hrl : r.length < 64 := by rw [hr, List.length_drop]; omega
  rw [← hr] at hrest hhrow
  have c8 := (hrow_at hhrow).1.2.2.2.2.2.2.2.2.1
  have c9 := (hrow_at hhrow).1.2.2.2.2.2.2.2.2.2
  have I0 : Hid (PadInv w (.slice (some ⟨w.heap.size + 1, 0, none⟩) 0 0) [] ((w.alloc (Obj.cells (wcells .u8 (List.replicate 32 0)) 26 (0, 0))).alloc (.cells #[] 5))) := by
    have S := ((St.nil w).alloc (Obj.cells (wcells .u8 (List.replicate 32 0)) 26 (0, 0)) _ rfl).alloc (.cells #[] 5) (w.heap.size + 1) (by simp)
    refine ⟨S.below, S.get (List.Mem.tail _ (List.Mem.head _)), Or.inr ⟨w.heap.size + 1, 0, 0, #[], rfl, S.get (List.Mem.head _), Nat.le_refl _, Nat.le_refl _, fun i hi => absurd hi (by simp)⟩, fun b hb => ?_⟩
    simp [Value.ownBlock] at hb; omega
  have X0 : Hid (SrcB ((w.alloc (Obj.cells (wcells .u8 (List.replicate 32 0)) 26 (0, 0))).alloc (.cells #[] 5)) (.slice va0 r.length vc0) r) := (hrest.keep (F := fun _ => False) (Keeps.of_below (((Below.refl _ _).alloc (Nat.le_refl _) _).alloc (by simp) _)) (fun _ _ h => h)).src
  have hrI : (r.length : Int) < 64 := by omega
  have HR := Lib.hid hr; have HN := Lib.hid hn; have HN64 := Lib.hid hn64; have HROW := Lib.hid hhrow
  clear hh hby hlen hr hn hn64 hhrow hrest
  go_enter Try.func42, Try.ntmps42
  go_wp2_with (at_builtin; go_loud (first | (refine wpList_app (by rfl) (.tmp 10) (.tmp 14) (by rfl) _ _ (by rfl) (by rfl) [] r I0.out.rest X0.out (by simp; omega) ?_; intro v1 W1 R1 K1 N1; obtain ⟨va1, vc1, e1⟩ := R1.shape; subst e1; have I1 := Lib.hid (I0.out.app R1 K1 N1); clear R1 K1 N1) | (have I1a := Lib.hid (I1.out.alloc (.cells #[.int .u8 128] 5)); have X1 := Lib.hid (one_src (W1.alloc (.cells #[.int .u8 128] 5)) W1.heap.size 128 ((cell_of_row _ _ _ _ _ _ (heap_alloc_last _ _)).trans rfl)); rw [List.nil_append] at I1a; refine wpList_app (by rfl) (.tmp 16) (.tmp 17) (by rfl) _ _ (by rfl) (by rfl) r [128] I1a.out.rest X1.out (by simp; omega) ?_; intro v2 W2 R2 K2 N2; obtain ⟨va2, vc2, e2⟩ := R2.shape; subst e2; have I2 := Lib.hid (I1a.out.app R2 K2 N2); clear R2 K2 N2)))
  clear I0 X0 I1 I1a X1
  obtain ⟨P, hP⟩ : ∃ P, P = pads r.length := ⟨_, rfl⟩
  have HPD := Lib.hid hP
  have hPl : P < 64 := by rw [hP]; unfold pads; omega
  clear hP
  have hr0 : Hid ((r ++ [128]).length = r.length + 1) := by show _ = _; simp
  have I2' : Hid (PadInv w (.slice va2 (r.length + 1) vc2) (r ++ [128] ++ List.replicate 0 0) W2) := by
    rw [List.replicate_zero, List.append_nil, ← hr0.out]; exact I2.out
  clear I2
  go_loopg [3] P (fun t s3 wr => ∃ j Ln : Nat, ∃ a c, s3 = .slice a Ln c ∧ Ln = r.length + 1 + j ∧ j + t = P ∧ Hid (PadInv w s3 (r ++ [128] ++ List.replicate j 0) wr))
  case atStart => exact ⟨0, r.length + 1, va2, vc2, by simp, rfl, by omega, I2'⟩
  case round =>
    obtain ⟨j, Ln, a, c, rfl, hLn, hj, HJ⟩ := hrel
    have hLb : (Ln : Int) ≤ 200 := by omega
    by_cases ht : j = P
    · have h56 : (Ln : Int) % 64 = 56 := by
        have h1 := pads_56 r.length; rw [← HPD.out] at h1; omega
      obtain ⟨zb, hzb⟩ : ∃ zb, zb = r ++ [128] ++ List.replicate j 0 := ⟨_, rfl⟩
      rw [← hzb] at HJ
      have hzl : zb.length = Ln := by rw [hzb, hLn]; simp; omega
      have HZB : Hid (zb = r ++ [128] ++ List.replicate P 0) := by rw [hzb, ht]; exact rfl
      have HZL := Lib.hid hzl
      have H56 : Hid (Ln % 64 = 56) := by show _ = _; omega
      have c9' := (hrow_at ((HJ.out.below.block hg hhb).trans HROW.out)).1.2.2.2.2.2.2.2.2.2
      have hbl : (bs.length : Int) ≤ 1000000000 := by have := HLEN.out; omega
      have hh2 : hg < wr.heap.size := Nat.lt_of_lt_of_le hhb HJ.out.below.size
      have HJ0 : Hid (PadInv w (.slice a Ln c) (zb ++ (be8 (8 * bs.length)).take 0) wr) := by rw [List.take_zero, List.append_nil]; exact HJ
      clear hzb hzl hLn ht hj
      go_wp2_with fail
      clear h56
      go_loopw [3, 31] (fun s3 s31 wr => ∃ k Mn : Nat, ∃ a c, s31 = .int .i64 (k : Int) ∧ k ≤ 8 ∧ s3 = .slice a Mn c ∧ Mn = Ln + k ∧ Hid (PadInv w s3 (zb ++ (be8 (8 * bs.length)).take k) wr)) (fun _ s31 _ => (8 - intOf s31).toNat)
      case atStart => exact ⟨0, Ln, a, c, rfl, by omega, rfl, rfl, HJ0⟩
      case round =>
        obtain ⟨k, Mn, a, c, rfl, hk, rfl, hMn, HK⟩ := hrel
        have hMb : (Mn : Int) ≤ 300 := by omega
        by_cases hk8 : k = 8
        · have hge : ¬ (k : Int) < 8 := by omega
          obtain ⟨pd, hpd⟩ : ∃ pd, pd = zb ++ be8 (8 * bs.length) := ⟨_, rfl⟩
          have hz8 : zb ++ (be8 (8 * bs.length)).take k = pd := by rw [hk8, hpd, List.take_of_length_le (by rw [be8_len]; omega)]
          have hM64 : Hid (Mn % 64 = 0) := by show _ = _; have := H56.out; omega
          have hpdl : Hid (pd.length = Mn) := by show _ = _; rw [hpd, List.length_append, HZL.out, be8_len]; omega
          rw [hz8] at HK
          have HPDE : Hid (pd = r ++ [128] ++ List.replicate P 0 ++ be8 (8 * bs.length)) := by rw [hpd, HZB.out]; exact rfl
          have HPD256 : Hid (∀ y, y ∈ pd → y < 256) := fun y hy => by
            rw [HPDE.out] at hy
            simp only [List.mem_append, List.mem_cons, List.not_mem_nil, or_false, List.mem_replicate] at hy
            rcases hy with ((hy | rfl) | ⟨-, rfl⟩) | hy
            · rw [HR.out] at hy; exact HBY.out y (List.mem_of_mem_drop hy)
            · decide
            · decide
            · simp only [be8, List.mem_map] at hy; obtain ⟨i, -, rfl⟩ := hy; exact Nat.mod_lt _ (by decide)
          obtain ⟨s0, hs0⟩ : ∃ s0, s0 = runB HL bs n := ⟨_, rfl⟩
          have HS0 := Lib.hid hs0
          have hs08 : Hid (s0.length = 8) := by rw [hs0]; exact runB_len HL bs HL_len n
          have hs0w : Hid (W32 s0) := by rw [hs0]; exact runB_w HL bs HL_w n
          have hrw := (HK.out.below.block hg hhb).trans HROW.out
          rw [← hs0] at hrw
          obtain ⟨⟨c0, c1, c2, c3, c4, c5, c6, c7, -, -⟩, -⟩ := hrow_at hrw
          have hh3 : hg < wr.heap.size := lt_of_block hrw
          have K0 : Hid (BlkInv w wr.heap.size s0 pd (.slice a Mn c) 0 (wr.alloc (.cells (st8 s0) 85))) := by
            have hk2 := HK.out.alloc (.cells (st8 s0) 85)
            exact ⟨hk2.below, hk2.out, by rw [← agg8 s0 hs08.out]; exact lastH _ _ _ rfl, hk2.rest⟩
          have hG6 : w.heap.size < wr.heap.size := lt_of_block HK.out.out
          obtain ⟨G6, hG6e⟩ : ∃ G6, wr.heap.size = G6 := ⟨_, rfl⟩
          clear hk8 hz8 hpd hs0 hrw hMn
          go_wp2_with fail
          rw [hG6e] at K0 hG6
          (try rw [hG6e])
          go_loopg [3] Mn (fun t s3 wr => ∃ k Kn : Nat, ∃ a c, s3 = .slice a Kn c ∧ Kn + 64 * k = Mn ∧ t = Kn ∧ Hid (BlkInv w G6 s0 pd s3 k wr))
          case atStart => exact ⟨0, Mn, a, c, rfl, rfl, rfl, K0⟩
          case round =>
            obtain ⟨q, Kn, a, c, rfl, hq, hqt, HL3⟩ := hrel
            have hKb : (Kn : Int) ≤ 300 := by omega
            by_cases hK0 : Kn = 0
            · have hle0 : ¬ (0 : Int) < Kn := by omega
              have hq2 : q = Mn / 64 := by omega
              have hcur := HL3.out.cur
              obtain ⟨fs, hfs⟩ : ∃ fs, fs = runB s0 pd q := ⟨_, rfl⟩
              have hfs8 : fs.length = 8 := by rw [hfs]; exact runB_len s0 pd hs08.out q
              have hfsw : W32 fs := by rw [hfs]; exact runB_w s0 pd hs0w.out q
              have HFS : Hid (fs = runB s0 pd (pd.length / 64)) := by rw [hpdl.out, ← hq2]; exact hfs
              rw [← hfs] at hcur
              have hSl : w.heap.size < wr.heap.size := lt_of_block HL3.out.out
              have SL : Hid (St w [(wr.heap.size, Obj.cells (wcells .u8 (List.replicate 32 0)) 26 (0, 0)), (w.heap.size, Obj.cells (wcells .u8 (List.replicate 32 0)) 26 (0, 0)), (G6, Obj.cells (wcells .u32 fs) 85 (0, 0))] (wr.alloc (.cells (wcells .u8 (List.replicate 32 0)) 26))) :=
                (((St.nil w).cons' HL3.out.below hcur).cons HL3.out.out).alloc _ _ rfl
              have HF8 := Lib.hid hfs8; have HFW := Lib.hid hfsw
              obtain ⟨G7, hG7e⟩ : ∃ G7, wr.heap.size = G7 := ⟨_, rfl⟩
              rw [hG7e] at SL hSl
              have O0 : Hid (OutInv w G7 fs 0 (wr.alloc (.cells (wcells .u8 (List.replicate 32 0)) 26))) :=
                ⟨SL.out.below, SL.out.get (List.Mem.tail _ (List.Mem.head _)), _, List.length_replicate .., fun j hj => absurd hj (by omega), SL.out.get (List.Mem.head _)⟩
              clear hcur hfs hfs8 hfsw hq2 hq hqt hK0
              go_wp2_with (refine wpList_load_row rfl 85 (.tmp 6) rfl G6 rfl 85 (wcells .u32 fs) (0, 0) _ (SL.out.get (List.Mem.tail _ (List.Mem.tail _ (List.Mem.head _)))) Try.underlying85 rfl (by rw [wcells_size, HF8.out]; kernel_rfl) ?_)
              go_loopw [58] (fun s wr => ∃ i : Nat, s = .int .i64 (i : Int) ∧ i ≤ 8 ∧ Hid (OutInv w G7 fs i wr)) (fun s _ => (8 - intOf s).toNat)
              case atStart => exact ⟨0, rfl, by omega, O0⟩
              case round =>
                obtain ⟨i, rfl, hi, HO⟩ := hrel
                by_cases hi8 : i = 8
                · have hge8 : ¬ (i : Int) < 8 := by omega
                  obtain ⟨l, hl, hp, hrw⟩ := HO.out.row
                  have hle : l = outB fs := nth_ext _ _ (by rw [hl, outB_len]) (fun j hj => hp j (by omega))
                  have HLE := Lib.hid hle; have HLL := Lib.hid hl; have HRW := Lib.hid hrw
                  clear hle hl hp hrw hi8
                  go_wp2_with (first
                    | (refine wpList_load_row rfl 26 (.tmp 7) rfl G7 rfl 26 (wcells .u8 l) (0, 0) _ HRW.out Try.underlying26 rfl (by rw [wcells_size, HLL.out]; kernel_rfl) ?_)
                    | (refine wpList_store_row rfl 26 (.tmp 2) (.tmp 89) rfl w.heap.size (wcells .u8 l) rfl rfl 26 (wcells .u8 (List.replicate 32 0)) HO.out.out (by rw [wcells_size, HLL.out]; kernel_rfl) (by rw [wcells_size, wcells_size, HLL.out, List.length_replicate]) (wcells_one _ _) ?_))
                  refine bodyPost_ret (results_cell_row rfl _ _ w.heap.size 26 (wcells .u8 l) (0, 0) _ rfl (setRow_heap _ _ _ _ _ _ HO.out.out) Try.underlying26 rfl (by rw [wcells_size, HLL.out]; kernel_rfl)) rfl ?_
                  exact ⟨by rw [HLE.out, HFS.out, HS0.out, HPDE.out, HPD.out, HR.out, sha_tail bs n HN.out HLEN.out], below_setRow HO.out.below (Nat.le_refl _) _⟩
                · have hlt8 : (i : Int) < 8 := by omega
                  have hix := index_st fs HF8.out i (by omega) wr
                  obtain ⟨l, hl, hp, hrw⟩ := HO.out.row
                  have fz := frozen_of_row wr G7 (4 * i) _ _ hrw; have fz1 := frozen_of_row wr G7 (4 * i + 1) _ _ hrw; have fz2 := frozen_of_row wr G7 (4 * i + 2) _ _ hrw; have fz3 := frozen_of_row wr G7 (4 * i + 3) _ _ hrw
                  have d0 := cell_w hrw (4 * i) (by omega); have d1 := cell_w hrw (4 * i + 1) (by omega); have d2 := cell_w hrw (4 * i + 2) (by omega); have d3 := cell_w hrw (4 * i + 3) (by omega)
                  have hG7b := lt_of_block hrw
                  obtain ⟨xw, hxw⟩ : ∃ xw, nth fs i = xw := ⟨_, rfl⟩
                  rw [hxw] at hix
                  clear hl hp hrw
                  have hOS := Lib.hid (HO.out.step (show i < 8 by omega) hSl xw hxw)
                  clear hxw
                  go_wp2_with fail
                  go_roundw
                  case rel => exact ⟨i + 1, by go_num, by omega, hOS.out⟩
                  case measure => simp [intOf]; omega
            · have hlt0 : (0 : Int) < Kn := by omega
              have h64 : 64 ≤ Kn := by have := hM64.out; omega
              have hge64 : (64 : Int) ≤ Kn := by omega
              have hcur := HL3.out.cur
              have hnot := HL3.out.rest.notin hcur (by decide)
              have hdl : (pd.drop (64 * q)).length = Kn := by rw [List.length_drop, hpdl.out]; omega
              obtain ⟨r3, hr3⟩ : ∃ r3, r3 = pd.drop (64 * q) := ⟨_, rfl⟩
              have hrest3 := HL3.out.rest
              rw [← hr3] at hrest3 hdl
              rcases hrest3 with ⟨-, h0⟩ | ⟨gv, off, cap, cr, hve, hgg, h1, h2, h3⟩
              · exfalso; rw [h0] at hdl; simp at hdl; omega
              simp only [Value.slice.injEq] at hve
              obtain ⟨rfl, -, rfl⟩ := hve
              have hcap : (64 : Int) ≤ c := by omega
              have hgvG : gv ≠ G6 := fun e => hnot (by rw [e]; rfl)
              obtain ⟨f, hf⟩ : ∃ f : Nat → Nat, f = fun i => nth pd (64 * q + i) := ⟨_, rfl⟩
              have hf256 : ∀ i, f i < 256 := fun i => by
                rw [hf]
                show nth pd (64 * q + i) < 256
                by_cases hi : 64 * q + i < pd.length
                · exact HPD256.out _ (nth_mem pd _ hi)
                · rw [nth_end pd _ (by omega)]; decide
              obtain ⟨SK, hSK⟩ : ∃ SK, SK = runB s0 pd q := ⟨_, rfl⟩
              have hSK8 : SK.length = 8 := by rw [hSK]; exact runB_len s0 pd hs08.out q
              have hSKw : W32 SK := by rw [hSK]; exact runB_w s0 pd hs0w.out q
              have hnx : runB s0 pd (q + 1) = mixS SK f := by rw [runB, hSK, hf]
              have hn8 : (mixS SK f).length = 8 := mixS_len SK f
              obtain ⟨SN, hSN⟩ : ∃ SN, SN = mixS SK f := ⟨_, rfl⟩
              have HNX : Hid (runB s0 pd (q + 1) = SN) := by rw [hSN]; exact hnx
              rw [← hSK] at hcur
              rw [← hSN] at hn8
              have HK8 := Lib.hid hSK8; have HN8 := Lib.hid hn8
              obtain ⟨LB, hLB0⟩ : ∃ LB, LB = [(w.heap.size, Obj.cells (wcells .u8 (List.replicate 32 0)) 26 (0, 0)), (gv, Obj.cells cr 5 (0, 0))] := ⟨_, rfl⟩
              have SB : St w LB wr := by
                rw [hLB0]
                exact (((St.nil w).cons' HL3.out.below hgg)).cons HL3.out.out
              have mout : (w.heap.size, Obj.cells (wcells .u8 (List.replicate 32 0)) 26 (0, 0)) ∈ LB := by rw [hLB0]; exact List.Mem.head _
              have mgv : (gv, Obj.cells cr 5 (0, 0)) ∈ LB := by rw [hLB0]; exact List.Mem.tail _ (List.Mem.head _)
              have hLB : Hid (∀ q, q ∈ LB → q.1 ≠ G6) := by
                rw [hLB0]; intro p hp
                rcases List.mem_cons.1 hp with rfl | hp
                · show w.heap.size ≠ _; omega
                · rcases List.mem_cons.1 hp with rfl | hp
                  · exact hgvG
                  · cases hp
              have CMX : Hid (∀ W, W.heap[gv]? = some (.cells cr 5 (0, 0)) → Calls Try.prog 48 #[.agg (wcells .u32 SK), .slice (some ⟨gv, off, none⟩) 64 c] W fun e w' => e = .returned (.agg (wcells .u32 SN)) ∧ Below W.heap.size W w') := fun W hk => by
                have hb' : Bt W gv off 64 f := ⟨lt_of_block hk, fun i hi => (cell_of_row _ _ _ _ _ _ hk).trans (by rw [h3 i (by omega), hr3, nth_drop, hf])⟩
                have := mix_c gv off c SK f hf256 hSK8 hSKw W hb'
                rwa [← hSN] at this
              have HCUR := Lib.hid hcur; have HR3 := Lib.hid hr3; have H3 := Lib.hid h3; have HDL := Lib.hid hdl; have HQ := Lib.hid hq; have HA : Hid (r3.length ≤ c ∧ off + c ≤ cr.size) := ⟨h1, h2⟩
              clear hcur hnot hr3 h3 hf hf256 hSK8 hSKw hnx hn8 hSN hSK hLB0 hdl hq
              go_wp2_with fail
              obtain ⟨I, hI0⟩ : ∃ I : Array Value → (Nat → Bool) → Act → World → Prop, I = (fun T0 L act W => ∃ vq0 vq1 vq2 vq3, act = ⟨sets T0 [(53, vq0), (54, vq1), (55, vq2), (56, vq3)], []⟩ ∧ St w LB W ∧ (L 0 = true → vq0 = .agg (wcells .u32 SK)) ∧ (L 1 = true → vq1 = .slice (some ⟨gv, off, none⟩) Kn c) ∧ (L 2 = true → vq2 = .slice (some ⟨gv, off, none⟩) 64 c) ∧ (L 3 = true → vq3 = .agg (wcells .u32 SN)) ∧ (L 4 = false → W.heap[G6]? = some (.cells (wcells .u32 SK) 85 (0, 0))) ∧ (L 4 = true → W.heap[G6]? = some (.cells (wcells .u32 SN) 85 (0, 0))) ∧ (L 4 = true → L 0 = true)) := ⟨_, rfl⟩
              have HI := Lib.hid hI0; clear hI0
              refine wp_region_frame (by kernel_rfl) (by kernel_rfl) I (fun T0 hT0 => ⟨?start, ?step, ?fin⟩)
              case start =>
                rw [HI.out]
                exact ⟨T0.getD 53 undef, T0.getD 54 undef, T0.getD 55 undef, T0.getD 56 undef, by (refine Eq.trans ?_ (congrArg (fun T => Act.mk T []) (sets_self [53, 54, 55, 56] T0).symm)); rw [hT0], SB.drew, nofun, nofun, nofun, nofun, fun _ => HCUR.out, nofun, nofun⟩
              case step =>
                refine ⟨?_, ?_, ?_, ?_, ?_, trivial⟩
                · intro L act W hI hno hdep
                  rw [HI.out] at hI
                  obtain ⟨vq0, vq1, vq2, vq3, hact, hS, hq0, hq1, hq2, hq3, oq4, nq4, dq4_0⟩ := hI
                  subst hact
                  rw [hT0]; simp only [sets, List.setIfInBounds_toArray, List.set_cons_zero, List.set_cons_succ]
                  have hq0 := oq4 (noF dq4_0 hno)
                  with_reducible refine wp_load_row 85 (Operand.tmp 6) rfl G6 ?_ 85 (wcells .u32 SK) (0, 0) _ hq0 Try.underlying85 rfl (by rw [wcells_size, HK8.out]; kernel_rfl) ?_
                  · rfl
                  rw [HI.out]
                  exact ⟨.agg (wcells .u32 SK), vq1, vq2, vq3, by simp only [sets, Act.put, List.setIfInBounds_toArray, List.set_cons_zero, List.set_cons_succ], hS, fun _ => rfl, keepI hq1 rfl, keepI hq2 rfl, keepI hq3 rfl, keepF oq4, keepI nq4 rfl, keepD dq4_0 rfl⟩
                · intro L act W hI hno hdep
                  rw [HI.out] at hI
                  obtain ⟨vq0, vq1, vq2, vq3, hact, hS, hq0, hq1, hq2, hq3, oq4, nq4, dq4_0⟩ := hI
                  subst hact
                  rw [hT0]; simp only [sets, List.setIfInBounds_toArray, List.set_cons_zero, List.set_cons_succ]
                  go_simp
                  rw [HI.out]
                  exact ⟨vq0, .slice (some ⟨gv, off, none⟩) Kn c, vq2, vq3, by simp only [sets, List.setIfInBounds_toArray, List.set_cons_zero, List.set_cons_succ], hS, keepI hq0 rfl, fun _ => rfl, keepI hq2 rfl, keepI hq3 rfl, keepF oq4, keepI nq4 rfl, keepD dq4_0 rfl⟩
                · intro L act W hI hno hdep
                  rw [HI.out] at hI
                  obtain ⟨vq0, vq1, vq2, vq3, hact, hS, hq0, hq1, hq2, hq3, oq4, nq4, dq4_0⟩ := hI
                  subst hact
                  obtain rfl := hq1 (hdep ⟨1, .data⟩ (by simp) rfl)
                  rw [hT0]; simp only [sets, List.setIfInBounds_toArray, List.set_cons_zero, List.set_cons_succ]
                  go_simp
                  rw [HI.out]
                  exact ⟨vq0, .slice (some ⟨gv, off, none⟩) Kn c, .slice (some ⟨gv, off, none⟩) 64 c, vq3, by simp only [sets, List.setIfInBounds_toArray, List.set_cons_zero, List.set_cons_succ], hS, keepI hq0 rfl, fun _ => rfl, fun _ => rfl, keepI hq3 rfl, keepF oq4, keepI nq4 rfl, keepD dq4_0 rfl⟩
                · intro L act W hI hno hdep
                  rw [HI.out] at hI
                  obtain ⟨vq0, vq1, vq2, vq3, hact, hS, hq0, hq1, hq2, hq3, oq4, nq4, dq4_0⟩ := hI
                  subst hact
                  obtain rfl := hq0 (hdep ⟨0, .data⟩ (by simp) rfl)
                  obtain rfl := hq2 (hdep ⟨2, .data⟩ (by simp) rfl)
                  rw [hT0]; simp only [sets, List.setIfInBounds_toArray, List.set_cons_zero, List.set_cons_succ]
                  go_simp
                  refine (CMX.out _ (hS.get mgv)).mono ?_
                  rintro e W2 ⟨rfl, hb⟩
                  rw [HI.out]
                  exact ⟨.agg (wcells .u32 SK), vq1, .slice (some ⟨gv, off, none⟩) 64 c, .agg (wcells .u32 SN), by simp only [sets, List.setIfInBounds_toArray, List.set_cons_zero, List.set_cons_succ], (hS.keep hb), fun _ => rfl, keepI hq1 rfl, fun _ => rfl, fun _ => rfl, keepF (fun h => keepH hb (oq4 h)), keepI (fun h => keepH hb (nq4 h)) rfl, keepD dq4_0 rfl⟩
                · intro L act W hI hno hdep
                  rw [HI.out] at hI
                  obtain ⟨vq0, vq1, vq2, vq3, hact, hS, hq0, hq1, hq2, hq3, oq4, nq4, dq4_0⟩ := hI
                  subst hact
                  obtain rfl := hq3 (hdep ⟨3, .data⟩ (by simp) rfl)
                  have hg := oq4 hno
                  rw [hT0]; simp only [sets, List.setIfInBounds_toArray, List.set_cons_zero, List.set_cons_succ]
                  with_reducible refine wp_store_row 85 (Operand.tmp 6) (Operand.tmp 56) rfl G6 (wcells .u32 SN) ?_ ?_ 85 (wcells .u32 SK) hg (by rw [wcells_size, HN8.out]; kernel_rfl) (by rw [wcells_size, wcells_size, HN8.out, HK8.out]) (wcells_one _ _) ?_
                  · rfl
                  · rfl
                  rw [HI.out]
                  exact ⟨vq0, vq1, vq2, .agg (wcells .u32 SN), by simp only [sets, Act.put, List.setIfInBounds_toArray, List.set_cons_zero, List.set_cons_succ], (hS.setRow (by omega) hLB.out _), keepI hq0 rfl, keepI hq1 rfl, keepI hq2 rfl, fun _ => rfl, alsoF, fun _ => setRow_heap W _ _ _ _ _ hg, fun _ => alsoD (hdep ⟨0, .phase⟩ (by simp) rfl)⟩
              case fin =>
                intro L act W hall hI
                rw [HI.out] at hI
                obtain ⟨vq0, vq1, vq2, vq3, hact, hS, hq0, hq1, hq2, hq3, oq4, nq4, dq4_0⟩ := hI
                subst hact
                obtain rfl := hq0 (hall 0 (by decide))
                obtain rfl := hq1 (hall 1 (by decide))
                obtain rfl := hq2 (hall 2 (by decide))
                obtain rfl := hq3 (hall 3 (by decide))
                have tgh := Lib.hid (nq4 (hall 4 (by decide)))
                clear hq0 hq1 hq2 hq3 oq4 nq4 dq4_0 hall
                rw [hT0]; simp only [sets, List.setIfInBounds_toArray, List.set_cons_zero, List.set_cons_succ]
                clear hT0 HI
                have hcaseA : ∀ u : Value, u = u → RestV W u (r3.drop 64) → BlkInv w G6 s0 pd u (q + 1) W := fun u _ hr' => by
                  refine ⟨hS.below, hS.get mout, by rw [HNX.out]; exact tgh.out, ?_⟩
                  rw [show pd.drop (64 * (q + 1)) = r3.drop 64 by rw [HR3.out, List.drop_drop]; congr 1]; exact hr'
                have HCA := Lib.hid hcaseA
                have hr3l : r3.length = Kn := HDL.out
                have hgW := hS.get mgv
                by_cases hc64 : c = 64
                · have hf1 : Hid (BlkInv w G6 s0 pd (.slice (some ⟨gv, off, none⟩) (Kn - 64) 0) (q + 1) W) := by
                    have := rest_empty (off := off) (r := r3) hgW (by have := HA.out.1; omega) (by have := HA.out.2; omega)
                    rw [hr3l] at this
                    exact HCA.out _ rfl this
                  clear hcaseA hr3l hgW
                  go_wp2_with fail
                  go_roundg (Kn - 64)
                  case measure => omega
                  case rel => exact ⟨q + 1, Kn - 64, _, _, rfl, by have := HQ.out; omega, rfl, hf1⟩
                · have hf1 : Hid (BlkInv w G6 s0 pd (.slice (some ⟨gv, off + 64, none⟩) (Kn - 64) (c - 64)) (q + 1) W) := by
                    have := (rest_shift (off := off) (cap := c) (r := r3) hgW HA.out.1 HA.out.2 H3.out).resolve_right (by omega)
                    rw [hr3l] at this
                    exact HCA.out _ rfl this
                  clear hcaseA hr3l hgW
                  go_wp2_with fail
                  go_roundg (Kn - 64)
                  case measure => omega
                  case rel => exact ⟨q + 1, Kn - 64, _, _, rfl, by have := HQ.out; omega, rfl, hf1⟩
        · have hlt : (k : Int) < 8 := by omega
          obtain ⟨y, hy0⟩ : ∃ y, 8 * bs.length / 2 ^ (56 - 8 * k) % 256 = y := ⟨_, rfl⟩
          have hy : 8 * (bs.length : Int) / 2 ^ (56 - 8 * k) % 256 = (y : Int) := by rw [← hy0]; simp
          have J1 := Lib.hid (HK.out.alloc (.cells #[.int .u8 (y : Int)] 5))
          have X1 := Lib.hid (one_src (wr.alloc (.cells #[.int .u8 (y : Int)] 5)) wr.heap.size y ((cell_of_row _ _ _ _ _ _ (heap_alloc_last _ _)).trans rfl))
          have hlen1 : (zb ++ (be8 (8 * bs.length)).take k).length = Mn := by rw [hMn, List.length_append, HZL.out, List.length_take, be8_len]; omega
          have J1r : RestV (wr.alloc (.cells #[.int .u8 (y : Int)] 5)) (.slice a Mn c) (zb ++ (be8 (8 * bs.length)).take k) := J1.out.rest
          have HJ1r := Lib.hid J1r
          obtain ⟨zk, hzk⟩ : ∃ zk, zk = zb ++ (be8 (8 * bs.length)).take k := ⟨_, rfl⟩
          have hzk2 : zb ++ (be8 (8 * bs.length)).take (k + 1) = zk ++ [y] := by rw [be8_take _ _ (by omega), hy0, hzk, List.append_assoc]
          rw [← hzk] at J1 hlen1 HJ1r
          have HZK := Lib.hid hzk2; have HMN := Lib.hid hMn
          clear hy0 hMn J1r hzk hzk2
          go_wp2_with (at_builtin; go_loud (first | (refine wpList_app (by rfl) (.tmp 34) (.tmp 41) (by rfl) _ _ (by rfl) (by rfl) zk [y] HJ1r.out X1.out (by simp; omega) ?_; intro v3 W3 R3 K3 N3; obtain ⟨va3, vc3, e3⟩ := R3.shape; subst e3; have J2 := Lib.hid (J1.out.app R3 K3 N3); clear R3 K3 N3)))
          have J3 : Hid (PadInv w (.slice va3 (Mn + 1) vc3) (zb ++ (be8 (8 * bs.length)).take (k + 1)) W3) := by
            have := J2.out
            rw [HZK.out]
            rwa [List.length_append, hlen1] at this
          go_roundw
          case rel => exact ⟨k + 1, Mn + 1, va3, vc3, by go_num, by omega, rfl, by have := HMN.out; omega, J3⟩
          case measure => simp [intOf]; omega
    · obtain ⟨m, hm⟩ : ∃ m : Nat, Ln % 64 = m := ⟨_, rfl⟩
      have h56 : (Ln : Int) % 64 = m := by omega
      have hm56 : ¬ (m : Int) = 56 := by
        have h1 : P = (119 - r.length % 64) % 64 := HPD.out
        omega
      have J1 := Lib.hid (HJ.out.alloc (.cells #[.int .u8 0] 5))
      have X1 := Lib.hid (one_src (wr.alloc (.cells #[.int .u8 0] 5)) wr.heap.size 0 ((cell_of_row _ _ _ _ _ _ (heap_alloc_last _ _)).trans rfl))
      have hlen1 : (r ++ [128] ++ List.replicate j 0).length = Ln := by rw [hLn]; simp; omega
      have HLN := Lib.hid hLn
      have J1r : RestV (wr.alloc (.cells #[.int .u8 0] 5)) (.slice a Ln c) (r ++ [128] ++ List.replicate j 0) := J1.out.rest
      have HJ1r := Lib.hid J1r
      clear hm hLn J1r
      go_wp2_with (at_builtin; go_loud (first | (refine wpList_app (by rfl) (.tmp 23) (.tmp 24) (by rfl) _ _ (by rfl) (by rfl) (r ++ [128] ++ List.replicate j 0) [0] HJ1r.out X1.out (by simp; omega) ?_; intro v3 W3 R3 K3 N3; obtain ⟨va3, vc3, e3⟩ := R3.shape; subst e3; have J2 := Lib.hid (J1.out.app R3 K3 N3); clear R3 K3 N3)))
      have J3 : Hid (PadInv w (.slice va3 (r.length + (j + 1 + 1)) vc3) (r ++ [128] ++ List.replicate (j + 1) 0) W3) := by
        have := J2.out
        have e0 : r ++ [128] ++ List.replicate j 0 ++ [0] = r ++ [128] ++ List.replicate (j + 1) 0 := by rw [List.replicate_succ', List.append_assoc]
        have el : (r ++ [128] ++ List.replicate (j + 1) 0).length = r.length + (j + 1 + 1) := by simp only [List.length_append, List.length_cons, List.length_nil, List.length_replicate]; omega
        rw [e0, el] at this
        exact this
      go_roundg (P - (j + 1))
      case measure => omega
      case rel => exact ⟨j + 1, r.length + (j + 1 + 1), va3, vc3, rfl, by omega, by omega, J3⟩
end Go.Proofs.Ytbaifchbpnmkpaa
namespace Go.Proofs.Ytbaifchbpnmkpaa
open Go.RowKit
theorem PieceV.mono {W : World} {B B' : Nat} {xv : Value} {ys : List Nat} (h : PieceV W B xv ys) (hB : B ≤ B') : PieceV W B' xv ys := h.imp id (fun ⟨b, o, c, h1, h2, h3⟩ => ⟨b, o, c, Nat.lt_of_lt_of_le h1 hB, h2, h3⟩)
theorem Pcs.mono {W : World} {B B' : Nat} {lv : Value} {pss : List (List Nat)} (h : Pcs W B lv pss) (hB : B ≤ B') (hW : B' ≤ W.heap.size) : Pcs W B' lv pss :=
  ⟨fun b hb => Nat.lt_of_lt_of_le hb hW, h.shape.imp id (fun ⟨lb, lo, c, h1, h2, h3⟩ => ⟨lb, lo, c, Nat.lt_of_lt_of_le h1 hB, h2, fun i ys hi => by
    obtain ⟨xv, h4, h5⟩ := h3 i ys hi
    exact ⟨xv, h4, PieceV.mono h5 hB⟩⟩)⟩
set_option maxRecDepth 100000 in
set_option maxHeartbeats 2000000 in
theorem sum_c (lv : Value) (pss : List (List Nat)) (w : World) (hp : Pcs w w.heap.size lv pss) (hby : ∀ y, y ∈ pss.flatten → y < 256) (hlen : pss.flatten.length ≤ 1000000000) (hpl : pss.length ≤ 1000000) :
    Calls Try.prog 34 #[lv] w fun e w' => e = .returned (.agg (wcells .u8 (sha pss.flatten))) ∧ Below w.heap.size w w' := by
  have HP := Lib.hid hp; have HBY := Lib.hid hby; have HLEN := Lib.hid hlen; have HPL := Lib.hid hpl
  have hw32 := sha_len pss.flatten
  obtain ⟨dg, hdg⟩ : ∃ dg, dg = sha pss.flatten := ⟨_, rfl⟩
  have HDG := Lib.hid hdg
  rw [← hdg] at hw32 ⊢
  have HW32 := Lib.hid hw32
  have S0 := (St.nil w).alloc (.cells (wcells .u8 (List.replicate 32 0)) 26) _ rfl
  clear hp hby hlen hpl hdg hw32
  go_enter Try.func34, Try.ntmps34
  go_wp2_with fail
  refine (new_c _).mono ?_
  rintro e W1 ⟨hg, rfl, hhrow, hge, hb⟩
  have hge' : w.heap.size < hg := by have := hge.out; simp at this; omega
  have S1 := S0.keep hb
  have P1 := HP.out.keep (Keeps.of_below (F := fun _ => False) S1.below) (fun _ _ h => h)
  have hh : HasherV W1 hg (.slice none 0 0) [] := ⟨hhrow.out, Or.inl ⟨rfl, rfl⟩⟩
  have A1 := Lib.hid (add_h w.heap.size hg (.slice none 0 0) lv [] pss W1 hh P1 (by omega) (fun b hb => by simp [Value.ownBlock] at hb) (by simpa using HBY.out) (by simpa using HLEN.out) HPL.out)
  have hhb := lt_of_block hhrow.out
  clear hb P1 hh
  go_wp2_with fail
  refine A1.out.mono ?_
  rintro e W2 ⟨rfl, HI⟩
  have S2 : St w [(w.heap.size, Obj.cells (wcells .u8 (List.replicate 32 0)) 26 (0, 0))] W2 := by
    have k := HI.out.keeps
    refine ⟨S1.below.trans ⟨k.os, k.tape, k.output, k.size, fun b hb => k.block b (Nat.lt_of_lt_of_le hb S1.below.size) (fun hf => ?_)⟩, fun p hpm => ?_⟩
    · rcases hf with h1 | h1
      · omega
      · simp [Value.ownBlock] at h1
    · rcases List.mem_cons.1 hpm with rfl | hpm
      · exact (k.block _ (lt_of_block (S1.get (List.Mem.head _))) (fun hf => by
          rcases hf with h1 | h1
          · have h1' : w.heap.size = hg := h1; omega
          · simp [Value.ownBlock] at h1)).trans (S1.get (List.Mem.head _))
      · cases hpm
  obtain ⟨v, hv, -⟩ := HI.out.now
  rw [List.take_of_length_le (Nat.le_refl _), List.nil_append] at hv
  have CS := Lib.hid (sum_h hg v pss.flatten W2 hv HBY.out HLEN.out)
  rw [← HDG.out] at CS
  clear hv HI A1
  go_wp2_with fail
  refine CS.out.mono ?_
  rintro e W3 ⟨rfl, hb⟩
  have S3 := S2.keep hb
  clear hb
  go_wp2_with (refine wpList_store_row rfl 26 (.tmp 2) (.tmp 9) rfl w.heap.size (wcells .u8 dg) rfl rfl 26 (wcells .u8 (List.replicate 32 0)) (S3.get (List.Mem.head _)) (by rw [wcells_size, HW32.out]; kernel_rfl) (by rw [wcells_size, wcells_size, HW32.out, List.length_replicate]) (wcells_one _ _) ?_)
  refine bodyPost_ret (results_cell_row rfl _ _ w.heap.size 26 (wcells .u8 dg) (0, 0) _ rfl (setRow_heap _ _ _ _ _ _ (S3.get (List.Mem.head _))) Try.underlying26 rfl (by rw [wcells_size, HW32.out]; kernel_rfl)) rfl ?_
  exact ⟨rfl, below_setRow S3.below (Nat.le_refl _) _⟩
/-- A hash in a row of its own, as one piece. -/
theorem piece_hash {W : World} {g B : Nat} {l : List Nat} {t : TypeId} (h : W.heap[g]? = some (.cells (wcells .u8 l) t (0, 0))) (hl : l.length = 32) (hB : g < B) : PieceV W B (.slice (some ⟨g, 0, none⟩) 32 32) l :=
  Or.inr ⟨g, 0, 32, hB, by rw [hl], fun i hi => by rw [Nat.zero_add]; exact cell_w h i hi⟩
/-- One piece in a list of its own. -/
theorem pcs_one {W : World} {B g : Nat} {xv : Value} {l : List Nat} {t : TypeId} (hg : W.heap[g]? = some (.cells #[xv] t (0, 0))) (hB : g < B) (hle : B ≤ W.heap.size) (hp : PieceV W B xv l) : Pcs W B (.slice (some ⟨g, 0, none⟩) 1 1) [l] :=
  ⟨fun b hb => Nat.lt_of_lt_of_le hb hle, Or.inr ⟨g, 0, 1, hB, rfl, fun i ys hi => by
    cases i with
    | zero => simp at hi; subst hi; exact ⟨xv, (cell_of_row _ _ _ _ _ _ hg).trans rfl, hp⟩
    | succ i => simp at hi⟩⟩
set_option maxRecDepth 100000 in
set_option maxHeartbeats 2000000 in
theorem twice_c (lv : Value) (pss : List (List Nat)) (w : World) (hp : Pcs w w.heap.size lv pss) (hby : ∀ y, y ∈ pss.flatten → y < 256) (hlen : pss.flatten.length ≤ 1000000000) (hpl : pss.length ≤ 1000000) :
    Calls Try.prog 43 #[lv] w fun e w' => e = .returned (.agg (wcells .u8 (sha (sha pss.flatten)))) ∧ Below w.heap.size w w' := by
  have S0 := (St.nil w).alloc (.cells (wcells .u8 (List.replicate 32 0)) 26) _ rfl
  have P1 := hp.keep (Keeps.of_below (F := fun _ => False) S0.below) (fun _ _ h => h)
  have CS1 := Lib.hid (sum_c lv pss _ (P1.mono S0.below.size (Nat.le_refl _)) hby hlen hpl)
  have hw32 := sha_len pss.flatten
  obtain ⟨d1, hd1⟩ : ∃ d, d = sha pss.flatten := ⟨_, rfl⟩
  rw [← hd1] at CS1 hw32 ⊢
  have hd1b : Hid (∀ y, y ∈ d1 → y < 256) := by rw [hd1]; exact sha_lt _
  have hw32' := sha_len d1
  obtain ⟨d2, hd2⟩ : ∃ d, d = sha d1 := ⟨_, rfl⟩
  have HD2 := Lib.hid hd2
  rw [← hd2] at hw32' ⊢
  have HW1 := Lib.hid hw32; have HW2 := Lib.hid hw32'
  clear hp hby hlen hpl P1 hd1 hd2 hw32 hw32'
  go_enter Try.func43, Try.ntmps43
  go_wp2_with fail
  refine CS1.out.mono ?_
  rintro e W1 ⟨rfl, hb⟩
  have S1 := (S0.keep hb)
  have S2 := S1.alloc (.cells (wcells .u8 (List.replicate 32 0)) 26) _ rfl
  clear hb
  have hs0 : w.heap.size < W1.heap.size := lt_of_block (S1.get (List.Mem.head _))
  go_wp2_with (refine wpList_store_row rfl 26 (.tmp 3) (.tmp 5) rfl W1.heap.size (wcells .u8 d1) rfl rfl 26 (wcells .u8 (List.replicate 32 0)) (S2.get (List.Mem.head _)) (by rw [wcells_size, HW1.out]; kernel_rfl) (by rw [wcells_size, wcells_size, HW1.out, List.length_replicate]) (wcells_one _ _) ?_)
  have S3 : St w [(W1.heap.size, Obj.cells (wcells .u8 d1) 26 (0, 0)), (w.heap.size, Obj.cells (wcells .u8 (List.replicate 32 0)) 26 (0, 0))] ((W1.alloc (.cells (wcells .u8 (List.replicate 32 0)) 26)).setRow W1.heap.size (wcells .u8 d1)) :=
    ((S1.alloc0 (.cells (wcells .u8 (List.replicate 32 0)) 26)).setRow (by omega) (fun q hq => by
      rcases List.mem_cons.1 hq with rfl | hq
      · show w.heap.size ≠ _; omega
      · cases hq) _).cons (setRow_heap _ _ _ _ _ _ (S2.get (List.Mem.head _)))
  have S4 := S3.alloc (.cells #[.slice (some ⟨W1.heap.size, 0, none⟩) 32 32] 22) (W1.heap.size + 1) (by simp [World.setRow])
  have P2 := pcs_one (B := W1.heap.size + 2) (S4.get (List.Mem.head _)) (by omega) (by simp [World.setRow]) (piece_hash (S4.get (List.Mem.tail _ (List.Mem.head _))) HW1.out (by omega))
  have CS2 := sum_c _ [d1] _ (P2.mono (by simp [World.setRow]) (Nat.le_refl _)) (by simpa using hd1b.out) (by simp [HW1.out]) (by simp)
  rw [List.flatten_cons, List.flatten_nil, List.append_nil, ← HD2.out] at CS2
  refine CS2.mono ?_
  rintro e W2 ⟨rfl, hb⟩
  have S5 := S4.keep hb
  have h5 := S5.get (List.Mem.tail _ (List.Mem.tail _ (List.Mem.head _)))
  have H5 := Lib.hid h5
  clear hb CS2 P2 h5
  go_wp2_with (refine wpList_store_row rfl 26 (.tmp 2) (.tmp 8) rfl w.heap.size (wcells .u8 d2) rfl rfl 26 (wcells .u8 (List.replicate 32 0)) H5.out (by rw [wcells_size, HW2.out]; kernel_rfl) (by rw [wcells_size, wcells_size, HW2.out, List.length_replicate]) (wcells_one _ _) ?_)
  refine bodyPost_ret (results_cell_row rfl _ _ w.heap.size 26 (wcells .u8 d2) (0, 0) _ rfl (setRow_heap _ _ _ _ _ _ H5.out) Try.underlying26 rfl (by rw [wcells_size, HW2.out]; kernel_rfl)) rfl ?_
  exact ⟨rfl, below_setRow S5.below (Nat.le_refl _) _⟩
end Go.Proofs.Ytbaifchbpnmkpaa
namespace Go.Proofs.Ytbaifchbpnmkpaa
open Go.RowKit
/-- The row of a hash in memory. -/
def hobj (l : List Nat) : Obj := .cells (wcells .u8 l) 26 (0, 0)
def zobj : Obj := .cells (wcells .u8 (List.replicate 32 0)) 26 (0, 0)
/-- .. and goes into it. -/
theorem wpList_puth {ops : Array Oper} {rest : List Oper} {o : Oper} {a : Act} {W : World} {Q : Exit → Act → World → Prop} (hgd : o.guard = none) (x y : Operand) (ho : o.op = .store 26 x y)
    (g : Nat) (hx : a.eval x = .pointer (some ⟨g, 0, none⟩)) (l l0 : List Nat) (hl : l.length = 32) (hl0 : l0.length = 32) (hy : a.eval y = .agg (wcells .u8 l)) (hg : W.heap[g]? = some (hobj l0)) (h : wpList Try.prog ops Q rest (a.put o.dst undef) (W.setRow g (wcells .u8 l))) : wpList Try.prog ops Q (o :: rest) a W :=
  wpList_store_row hgd 26 x y ho g (wcells .u8 l) hx hy 26 (wcells .u8 l0) hg (by rw [wcells_size, hl]; kernel_rfl) (by rw [wcells_size, wcells_size, hl, hl0]) (wcells_one _ _) h
theorem set_hash {W : World} {g : Nat} {l l0 : List Nat} (hg : W.heap[g]? = some (hobj l0)) : (W.setRow g (wcells .u8 l)).heap[g]? = some (hobj l) := setRow_heap W g _ _ _ _ hg
/-- Are two rows the same? -/
def heq (a b : List Nat) : Bool := decide (a = b)
theorem St.puth {w W : World} {L : List (Nat × Obj)} {g : Nat} {l0 : List Nat} (h : St w L W) (hge : w.heap.size ≤ g) (hg : W.heap[g]? = some (hobj l0)) (hne : ∀ p, p ∈ L → p.1 ≠ g) (l : List Nat) : St w ((g, hobj l) :: L) (W.setRow g (wcells .u8 l)) :=
  (h.setRow hge hne _).cons (set_hash hg)
theorem St.ne {w W : World} {L : List (Nat × Obj)} (h : St w L W) {p : Nat × Obj} (hp : p ∈ L) {g : Nat} (hg : g = W.heap.size) : p.1 ≠ g := by have := lt_of_block (h.rows p hp); omega
/-- A variable is made, and a hash goes into it. -/
theorem St.newh {w W : World} {L : List (Nat × Obj)} (h : St w L W) (l : List Nat) : St w ((W.heap.size, hobj l) :: L) ((W.alloc zobj).setRow W.heap.size (wcells .u8 l)) :=
  (h.alloc0 zobj).puth h.below.size (lastH W zobj _ rfl) (fun p hp => by have := lt_of_block (h.rows p hp); omega) l
end Go.Proofs.Ytbaifchbpnmkpaa
namespace Go.Proofs.Ytbaifchbpnmkpaa
open Go.RowKit
/-- What Padded holds while it writes: z so far. -/
structure PadR (w : World) (v : Value) (z : List Nat) (wr : World) : Prop where
  below : Below w.heap.size w wr
  rest : RestV wr v z
  own : ∀ b, v.ownBlock = some b → w.heap.size ≤ b
theorem PadR.app {w wr W2 : World} {v v2 : Value} {z zz : List Nat} (h : PadR w v z wr) (R : RestV W2 v2 zz) (K : Keeps (fun b => v.ownBlock = some b) wr W2) (Nn : ∀ b, v2.ownBlock = some b → v.ownBlock = some b ∨ b = wr.heap.size) : PadR w v2 zz W2 := by
  refine ⟨?_, R, fun b hb => ?_⟩
  · exact h.below.trans ⟨K.os, K.tape, K.output, K.size, fun b hb => K.block b (Nat.lt_of_lt_of_le hb h.below.size) (fun e => by have := h.own _ e; omega)⟩
  · rcases Nn b hb with h1 | h1
    · exact h.own b h1
    · rw [h1]; exact h.below.size
theorem PadR.alloc {w wr : World} {v : Value} {z : List Nat} (h : PadR w v z wr) (o : Obj) : PadR w v z (wr.alloc o) :=
  ⟨h.below.alloc h.below.size o, h.rest.keep (F := fun _ => False) (Keeps.of_below ((Below.refl _ _).alloc (Nat.le_refl _) o)) (fun _ _ h => h), h.own⟩
theorem PadR.new (w : World) : PadR w (.slice (some ⟨w.heap.size, 0, none⟩) 0 0) [] (w.alloc (.cells #[] 5)) := by
  have S := (St.nil w).alloc (.cells #[] 5) _ rfl
  refine ⟨S.below, Or.inr ⟨w.heap.size, 0, 0, #[], rfl, S.get (List.Mem.head _), Nat.le_refl _, Nat.le_refl _, fun i hi => absurd hi (by simp)⟩, fun b hb => ?_⟩
  simp [Value.ownBlock] at hb; omega
end Go.Proofs.Ytbaifchbpnmkpaa
namespace Go.Proofs.Ytbaifchbpnmkpaa
open Go.RowKit
/-- The row of a short one in memory. -/
def sobj (l : List Nat) : Obj := .cells (wcells .u8 l) 64 (0, 0)
theorem nth_take (l : List Nat) (k i : Nat) (h : i < k) : nth (l.take k) i = nth l i := by
  unfold nth; rw [List.getD_eq_getElem?_getD, List.getD_eq_getElem?_getD, List.getElem?_take, if_pos h]
theorem array_at20 (a : Addr) (c : Nat) (w : World) : (Instr.arrayAt 64 (.slice (some a) 20 c)).run Try.prog w = .ok (.pointer (some a)) w := by kernel_rfl
set_option maxRecDepth 100000 in
set_option maxHeartbeats 2000000 in
theorem short_c (lv : Value) (pss : List (List Nat)) (w : World) (hp : Pcs w w.heap.size lv pss) (hby : ∀ y, y ∈ pss.flatten → y < 256) (hlen : pss.flatten.length ≤ 1000000000) (hpl : pss.length ≤ 1000000) :
    Calls Try.prog 35 #[lv] w fun e w' => e = .returned (.agg (wcells .u8 ((sha (sha pss.flatten)).take 20))) ∧ Below w.heap.size w w' := by
  have S0 := (St.nil w).alloc (sobj (List.replicate 20 0)) _ rfl
  have P1 := hp.keep (Keeps.of_below (F := fun _ => False) S0.below) (fun _ _ h => h)
  have CS1 := Lib.hid (twice_c lv pss _ (P1.mono S0.below.size (Nat.le_refl _)) hby hlen hpl)
  have hl1 := sha_len (sha pss.flatten)
  obtain ⟨d, hd⟩ : ∃ d, d = sha (sha pss.flatten) := ⟨_, rfl⟩
  rw [← hd] at CS1 hl1 ⊢
  have hl2 : (d.take 20).length = 20 := by rw [List.length_take, hl1]; decide
  have HL1 := Lib.hid hl1
  have xarr := array_at20
  clear hp hby hlen hpl P1 hd
  go_enter Try.func35, Try.ntmps35
  go_wp2_with fail
  refine CS1.out.mono ?_
  rintro e W1 ⟨rfl, hb⟩
  have S1 := S0.keep hb
  have S2 := S1.newh d
  have Z1 := Lib.hid (lastH W1 zobj _ rfl)
  obtain ⟨V, hV⟩ : ∃ V, V = (W1.alloc zobj).setRow W1.heap.size (wcells .u8 d) := ⟨_, rfl⟩
  rw [← hV] at S2
  have HV := Lib.hid hV
  have hrg : V.rangeAt W1.heap.size 0 (wcells .u8 (d.take 20)).toList := part_of_row (S2.get (List.Mem.head _)) _ (by
    have e : (wcells .u8 (d.take 20)).toList = (wcells .u8 d).toList.take 20 := by simp [wcells]
    rw [e, List.drop_zero, List.length_take, Array.length_toList, wcells_size, hl1]; rfl)
  have HRG := Lib.hid hrg
  have HG := Lib.hid (S2.get (List.Mem.tail _ (List.Mem.head _)))
  obtain ⟨s, hs⟩ : ∃ s, s = d.take 20 := ⟨_, rfl⟩
  rw [← hs] at HRG hl2
  have HS := Lib.hid hs
  have HL2 := Lib.hid hl2
  clear hb S1 hV S0 hrg hl2 hs
  go_wp2_with (first
    | (refine wpList_puth rfl (.tmp 3) (.tmp 5) rfl W1.heap.size rfl d (List.replicate 32 0) HL1.out (by simp) rfl Z1.out ?_; refine Eq.mp (congrArg (fun v => wpList _ _ _ _ _ v) HV.out) ?_)
    | (refine wpList_load_mid rfl 64 (.tmp 7) rfl W1.heap.size 0 rfl (wcells .u8 s).toList _ HRG.out Try.underlying64 rfl (by rw [Array.length_toList, wcells_size, HL2.out]; kernel_rfl) ?_; rw [Array.toArray_toList])
    | (refine wpList_store_row rfl 64 (.tmp 2) (.tmp 8) rfl w.heap.size (wcells .u8 s) rfl rfl 64 (wcells .u8 (List.replicate 20 0)) HG.out (by rw [wcells_size, HL2.out]; kernel_rfl) (by rw [wcells_size, wcells_size, HL2.out, List.length_replicate]) (wcells_one _ _) ?_))
  refine bodyPost_ret (results_cell_row rfl _ _ w.heap.size 64 (wcells .u8 s) (0, 0) _ rfl (setRow_heap _ _ _ _ _ _ HG.out) Try.underlying64 rfl (by rw [wcells_size, HL2.out]; kernel_rfl)) rfl ?_
  exact ⟨by rw [HS.out], below_setRow S2.below (Nat.le_refl _) _⟩
/-- What the loop of the document's Short holds. -/
structure ShInv (w : World) (g3 g4 : Nat) (d : List Nat) (k : Nat) (wr : World) : Prop where
  below : Below w.heap.size w wr
  res : wr.heap[w.heap.size]? = some (sobj (List.replicate 20 0))
  src : wr.heap[g3]? = some (hobj d)
  row : ∃ l : List Nat, l.length = 20 ∧ (∀ j, j < k → nth l j = nth d j) ∧ wr.heap[g4]? = some (sobj l)
theorem ShInv.step {w wr : World} {g3 g4 : Nat} {d : List Nat} {k : Nat} (h : ShInv w g3 g4 d k wr) (hk : k < 20) (h3 : g3 ≠ g4) (h4 : w.heap.size < g4) : ShInv w g3 g4 d (k + 1) (wr.setCell ⟨g4, k, none⟩ (.int .u8 ((nth d k : Nat) : Int))) := by
  obtain ⟨l, hl, hp, hr⟩ := h.row
  refine ⟨h.below.setCell (by show w.heap.size ≤ g4; omega) _, (heap_setCell_other _ _ _ _ (by show w.heap.size ≠ g4; omega)).trans h.res, (heap_setCell_other _ _ _ _ (by show g3 ≠ g4; exact h3)).trans h.src, l.set k (nth d k), by simpa using hl, fun j hj => ?_, set_w hr k _⟩
  rw [nth_set _ _ _ _ (by omega)]
  split
  · next e => rw [e]
  · exact hp j (by omega)
end Go.Proofs.Ytbaifchbpnmkpaa
namespace Go.Proofs.Ytbaifchbpnmkpaa
open Go.RowKit
theorem RestV.piece {W : World} {v : Value} {bs : List Nat} (h : RestV W v bs) : PieceV W W.heap.size v bs := by
  rcases h with ⟨rfl, rfl⟩ | ⟨g, off, cap, cur, rfl, hg, h1, h2, h3⟩
  · exact Or.inl ⟨⟨_, _, rfl⟩, rfl⟩
  · exact Or.inr ⟨g, off, cap, lt_of_block hg, rfl, fun i hi => (cell_of_row _ _ _ _ _ _ hg).trans (h3 i hi)⟩
theorem PadR.keep {w W W' : World} {v : Value} {z : List Nat} (h : PadR w v z W) (hb : Below W.heap.size W W') : PadR w v z W' :=
  ⟨below_step h.below hb, h.rest.keep (F := fun _ => False) (Keeps.of_below hb) (fun _ _ h => h), h.own⟩
/-- Pieces in a row of their own. -/
theorem pcs_row {W : World} {g : Nat} {xs : List Value} {t : TypeId} {pss : List (List Nat)} (hg : W.heap[g]? = some (.cells xs.toArray t (0, 0))) (hl : xs.length = pss.length) (hp : ∀ (i : Nat) (x : Value) (ys : List Nat), xs[i]? = some x → pss[i]? = some ys → PieceV W W.heap.size x ys) :
    Pcs W W.heap.size (.slice (some ⟨g, 0, none⟩) pss.length pss.length) pss :=
  ⟨fun _ h => h, Or.inr ⟨g, 0, pss.length, lt_of_block hg, rfl, fun i ys hi => by
    have hlt : i < pss.length := (List.getElem?_eq_some_iff.1 hi).1
    obtain ⟨x, hx⟩ : ∃ x, xs[i]? = some x := ⟨xs[i]'(by omega), List.getElem?_eq_getElem (by omega)⟩
    exact ⟨x, by rw [Nat.zero_add, cell_of_row _ _ _ _ _ _ hg, List.getElem?_toArray, hx], hp i x ys hx hi⟩⟩⟩
theorem pcs1 {W : World} {g : Nat} {x : Value} {t : TypeId} {a : List Nat} (hg : W.heap[g]? = some (.cells #[x] t (0, 0))) (hp : PieceV W W.heap.size x a) : Pcs W W.heap.size (.slice (some ⟨g, 0, none⟩) 1 1) [a] :=
  pcs_row (xs := [x]) (pss := [a]) hg rfl (fun i y ys hy hys => by
    match i with
    | 0 => simp at hy hys; subst hy hys; exact hp
    | i + 1 => simp at hys)
theorem pcs2 {W : World} {g : Nat} {x y : Value} {t : TypeId} {a b : List Nat} (hg : W.heap[g]? = some (.cells #[x, y] t (0, 0))) (hp : PieceV W W.heap.size x a) (hq : PieceV W W.heap.size y b) : Pcs W W.heap.size (.slice (some ⟨g, 0, none⟩) 2 2) [a, b] :=
  pcs_row (xs := [x, y]) (pss := [a, b]) hg rfl (fun i z ys hy hys => by
    match i with
    | 0 => simp at hy hys; subst hy hys; exact hp
    | 1 => simp at hy hys; subst hy hys; exact hq
    | i + 2 => simp at hys)
end Go.Proofs.Ytbaifchbpnmkpaa
namespace Go.Proofs.Ytbaifchbpnmkpaa
open Go.RowKit
theorem bytes_elem : Try.prog.elem 22 = 5 := by kernel_rfl
theorem bytes_slice : Try.prog.underlying 22 = some (.slice (Try.prog.elem 22)) := by rw [bytes_elem]; exact Try.underlying22
theorem byte_size (w : World) : (Go.sizeOf (Try.prog.elem 22)).run Try.prog w = .ok 1 w := by rw [bytes_elem]; exact Try.sizeOf5 w
/-- A string of bytes. -/
def nst (l : List Nat) : ByteArray := ⟨(l.map UInt8.ofNat).toArray⟩
theorem nst_app (a b : List Nat) : nst a ++ nst b = nst (a ++ b) := by
  apply ByteArray.ext
  simp [nst, ByteArray.data_append]
theorem nst_size (l : List Nat) : (nst l).size = l.length := by simp [nst, ByteArray.size]
theorem bln_nst (l : List Nat) (h : ∀ y, y ∈ l → y < 256) : (nst l).data.toList.map UInt8.toNat = l := by
  unfold nst
  simp only [List.map_map]
  rw [show (List.map (UInt8.toNat ∘ UInt8.ofNat) l) = List.map id l from List.map_congr_left (fun x hx => by
    have := h x hx
    simp; omega), List.map_id]
theorem run_str {W : World} {S : Nat → Prop} {v : Value} {bs : List Nat} (h : PieceS W S v bs) : (convert 22 9 v).run Try.prog W = .ok (.string (nst bs)) W := by
  rcases h with ⟨⟨a, c, rfl⟩, rfl⟩ | ⟨b, o, c, -, rfl, h⟩
  · cases a with
    | none => exact Lib.run_convert_nil_bytes W _ _ 5 c Try.underlying22 Try.underlying5 Try.underlying9
    | some a =>
      rw [run_convert_bytes_string W 22 9 5 (some a) 0 c Try.underlying22 Try.underlying5 Try.underlying9]
      simp [Conv.bytesToString, loadCells, nst]
      rfl
  · rw [run_convert_bytes_arg W 22 5 Try.underlying22 Try.underlying5 b o bs.length c (bs.map Int.ofNat) (by simp) (fun i hi => by
      rw [h i hi, List.getD_eq_getElem?_getD, List.getElem?_map, nth_get bs i hi]; rfl) 9 Try.underlying9]
    congr 2
    apply ByteArray.ext
    apply Array.toList_inj.1
    rw [strOfNums_data]
    simp [nst]
end Go.Proofs.Ytbaifchbpnmkpaa
namespace Go.Proofs.Ytbaifchbpnmkpaa
open Go.RowKit
theorem cell_same {W W' : World} {b o : Nat} (h : W'.heap[b]? = W.heap[b]?) : W'.cell? ⟨b, o, none⟩ = W.cell? ⟨b, o, none⟩ := World.cell?_of_block (a := ⟨b, o, none⟩) h
theorem PieceS.stays {W W' : World} {S : Nat → Prop} {v : Value} {bs : List Nat} (h : PieceS W S v bs) (hb : ∀ b, S b → b < W.heap.size) (hk : ∀ b, S b → b < W.heap.size → W'.heap[b]? = W.heap[b]?) : PieceS W' S v bs := by
  rcases h with h | ⟨b, o, c, h1, rfl, h⟩
  · exact Or.inl h
  · exact Or.inr ⟨b, o, c, h1, rfl, fun i hi => (cell_same (hk b h1 (hb b h1))).trans (h i hi)⟩
/-- A piece below B. -/
def xpc (B : Nat) (v : Value) (bs : List Nat) : Xt := ⟨false, fun b => b < B, fun W => B ≤ W.heap.size ∧ PieceV W B v bs, fun _ _ hk hs h => ⟨Nat.le_trans h.1 hs, PieceS.stays h.2 (fun _ hb => Nat.lt_of_lt_of_le hb h.1) hk⟩⟩
/-- A piece in blocks of S. -/
def xps (S : Nat → Prop) (v : Value) (bs : List Nat) : Xt := ⟨false, S, fun W => (∀ b, S b → b < W.heap.size) ∧ PieceS W S v bs, fun _ _ hk hs h => ⟨fun b hb => Nat.lt_of_lt_of_le (h.1 b hb) hs, PieceS.stays h.2 h.1 hk⟩⟩
theorem PcsS.stays {W W' : World} {S : Nat → Prop} {v : Value} {pss : List (List Nat)} (h : PcsS W S v pss) (hk : ∀ b, S b → b < W.heap.size → W'.heap[b]? = W.heap[b]?) (hs : W.heap.size ≤ W'.heap.size) : PcsS W' S v pss := by
  refine ⟨fun b hb => Nat.lt_of_lt_of_le (h.le b hb) hs, ?_⟩
  have hle := h.le
  rcases h.shape with h1 | ⟨lb, lo, c, hb, rfl, h2⟩
  · exact Or.inl h1
  · refine Or.inr ⟨lb, lo, c, hb, rfl, fun i ys hi => ?_⟩
    obtain ⟨xv, h3, h4⟩ := h2 i ys hi
    exact ⟨xv, (cell_same (hk lb hb (hle lb hb))).trans h3, PieceS.stays h4 hle hk⟩
/-- Pieces in a list, in blocks of S. -/
def xpcs (S : Nat → Prop) (v : Value) (pss : List (List Nat)) : Xt := ⟨false, S, fun W => PcsS W S v pss, fun _ _ hk hs h => PcsS.stays h hk hs⟩
theorem PieceS.mono {W : World} {S S' : Nat → Prop} {v : Value} {bs : List Nat} (h : PieceS W S v bs) (hS : ∀ b, S b → S' b) : PieceS W S' v bs := h.imp id (fun ⟨b, o, c, h1, h2, h3⟩ => ⟨b, o, c, hS b h1, h2, h3⟩)
theorem PcsS.mono {W : World} {S S' : Nat → Prop} {v : Value} {pss : List (List Nat)} (h : PcsS W S v pss) (hS : ∀ b, S b → S' b) (hle : ∀ b, S' b → b < W.heap.size) : PcsS W S' v pss :=
  ⟨hle, h.shape.imp id (fun ⟨lb, lo, c, h1, h2, h3⟩ => ⟨lb, lo, c, hS _ h1, h2, fun i ys hi => by
    obtain ⟨xv, h4, h5⟩ := h3 i ys hi
    exact ⟨xv, h4, h5.mono hS⟩⟩)⟩
theorem Sx.pc {w W : World} {L : List (Nat × Obj)} {X : List Xt} (h : Sx w L X W) (i : Nat) {B : Nat} {v : Value} {bs : List Nat} (hi : X[i]? = some (xpc B v bs)) : PieceV W W.heap.size v bs :=
  have k : B ≤ W.heap.size ∧ PieceV W B v bs := h.x i hi
  PieceV.mono k.2 k.1
theorem Sx.ps {w W : World} {L : List (Nat × Obj)} {X : List Xt} (h : Sx w L X W) (i : Nat) {S : Nat → Prop} {v : Value} {bs : List Nat} (hi : X[i]? = some (xps S v bs)) : PieceV W W.heap.size v bs :=
  have k : (∀ b, S b → b < W.heap.size) ∧ PieceS W S v bs := h.x i hi
  PieceS.mono k.2 k.1
theorem Sx.pcs {w W : World} {L : List (Nat × Obj)} {X : List Xt} (h : Sx w L X W) (i : Nat) {S : Nat → Prop} {v : Value} {pss : List (List Nat)} (hi : X[i]? = some (xpcs S v pss)) : Pcs W W.heap.size v pss :=
  have k : PcsS W S v pss := h.x i hi
  PcsS.mono k k.le (fun _ h => h)
theorem RestV.stays {W W' : World} {v : Value} {bs : List Nat} (h : RestV W v bs) (hk : ∀ b, v.ownBlock = some b → b < W.heap.size → W'.heap[b]? = W.heap[b]?) : RestV W' v bs := by
  rcases h with h | ⟨g, off, cap, cur, rfl, hg, h1, h2, h3⟩
  · exact Or.inl h
  · exact Or.inr ⟨g, off, cap, cur, rfl, (hk g rfl (lt_of_block hg)).trans hg, h1, h2, h3⟩
theorem RestV.lt {W : World} {v : Value} {bs : List Nat} (h : RestV W v bs) : ∀ b, v.ownBlock = some b → b < W.heap.size := fun b hb => by
  rcases h with ⟨rfl, -⟩ | ⟨g, off, cap, cur, rfl, hg, -⟩
  · cases hb
  · simp [Value.ownBlock] at hb; subst hb; exact lt_of_block hg
/-- A slice of bytes of one's own. -/
def xown (w : World) (v : Value) (bs : List Nat) : Xt := ⟨true, fun b => v.ownBlock = some b, fun W => RestV W v bs ∧ ∀ b, v.ownBlock = some b → w.heap.size ≤ b, fun _ _ hk _ h => ⟨RestV.stays h.1 hk, h.2⟩⟩
theorem Sx.own {w W : World} {L : List (Nat × Obj)} {X : List Xt} (h : Sx w L X W) (i : Nat) {v : Value} {bs : List Nat} (hi : X[i]? = some (xown w v bs)) : RestV W v bs := (show RestV W v bs ∧ _ from h.x i hi).1
theorem Sx.ownpc {w W : World} {L : List (Nat × Obj)} {X : List Xt} (h : Sx w L X W) (i : Nat) {v : Value} {bs : List Nat} (hi : X[i]? = some (xown w v bs)) : PieceV W W.heap.size v bs := (h.own i hi).piece
theorem Sx.app {w W W' : World} {L : List (Nat × Obj)} {X : List Xt} (h : Sx w L X W) (i : Nat) {v v' : Value} {bs zs : List Nat} (hi : X[i]? = some (xown w v bs)) (R : RestV W' v' zs) (K : Keeps (fun b => v.ownBlock = some b) W W') (Nn : ∀ b, v'.ownBlock = some b → v.ownBlock = some b ∨ b = W.heap.size) : Sx w L (X.set i (xown w v' zs)) W' := by
  have ho : RestV W v bs ∧ ∀ b, v.ownBlock = some b → w.heap.size ≤ b := h.x i hi
  refine h.writeX i hi rfl rfl ⟨R, fun b hb => ?_⟩ (fun b hb => ?_) (fun b hb => R.lt b hb) (fun b hb => ho.2 b hb) K.os K.tape K.output K.size K.block
  · rcases Nn b hb with h1 | h1
    · exact ho.2 b h1
    · rw [h1]; exact h.below.size
  · rcases Nn b hb with h1 | h1
    · exact Or.inl h1
    · exact Or.inr (by omega)
/-- What a call has given: a slice of bytes of its own. -/
theorem Sx.gave {w W W' : World} {L : List (Nat × Obj)} {X : List Xt} (h : Sx w L X W) {v : Value} {bs : List Nat} (p : PadR W v bs W') : Sx w L (xown w v bs :: X) W' :=
  h.madeX p.below _ ⟨p.rest, fun b hb => Nat.le_trans h.below.size (p.own b hb)⟩ (fun b hb => p.own b hb) (fun b hb => p.rest.lt b hb)
/-- What a function gives back. -/
theorem Sx.padr {w W : World} {L : List (Nat × Obj)} {X : List Xt} (h : Sx w L X W) (i : Nat) {v : Value} {bs : List Nat} (hi : X[i]? = some (xown w v bs)) : PadR w v bs W :=
  have ho : RestV W v bs ∧ ∀ b, v.ownBlock = some b → w.heap.size ≤ b := h.x i hi
  ⟨h.below, ho.1, ho.2⟩
/-- append(s, x...), as a step. -/
theorem wp_app {o : Oper} {a : Act} {K : Act → World → Prop} {Q : Exit → Act → World → Prop} {w W : World} {L : List (Nat × Obj)} {X : List Xt} (S : Sx w L X W) (i : Nat) (s x : Operand)
    (ho : o.op = .call { callee := .builtin .append, args := #[s, x], argTypes := #[22, 22] }) {v xv : Value} (hsv : a.eval s = v) (hxv : a.eval x = xv) {bs ys : List Nat} (hi : X[i]? = some (xown w v bs)) (hs : SrcB W xv ys) (hn : bs.length + ys.length ≤ 70368744177664)
    (h : ∀ v' W', Sx w L (X.set i (xown w v' (bs ++ ys))) W' → K (a.put o.dst v') W') : o.wp Try.prog a W K Q := by
  obtain ⟨v', W', hr, h2, h3, h4⟩ := run_app o.type W v xv bs ys (S.own i hi) hs hn
  unfold Oper.wp execOp
  simp only [ho, resolve, invoke, builtin, Sem.run_bind, Sem.run_pure, Result.andThen_ok, List.map_toArray, List.map_cons, List.map_nil, hsv, hxv, hr]
  exact h _ _ (S.app i hi h2 h3 h4)
/-- A row of bytes that a region has made, as a source. -/
theorem src_row {W : World} {g n c : Nat} {cs : Array Value} {l : List Nat} {t : TypeId} (h : W.heap[g]? = some (.cells cs t (0, 0))) (hl : cs.toList = bcells l) (hn : n = l.length) : SrcB W (.slice (some ⟨g, 0, none⟩) n c) l := by
  subst hn
  refine srcB_slice W g 0 c l (fun i hi => (cell_of_row _ _ _ _ _ _ h).trans ?_)
  have := bcells_get l i hi
  rw [← hl] at this
  rw [Nat.zero_add]; simpa using this
/-- A row of no bytes is a slice of one's own. -/
theorem Sx.empty {w W : World} {L : List (Nat × Obj)} {X : List Xt} (h : Sx w L X W) : Sx w L (xown w (.slice (some ⟨W.heap.size, 0, none⟩) 0 0) [] :: X) (W.alloc (.cells #[] 5)) := h.gave (PadR.new W)
/-- b[lo:hi]. -/
theorem piece_cut {W : World} {S : Nat → Prop} {a : Option Addr} {n c : Nat} {bs : List Nat} (h : PieceS W S (.slice a n c) bs) (lo hi : Nat) (h1 : lo ≤ hi) (h2 : hi ≤ bs.length) (hc : bs.length ≤ c) :
    ∃ a', sliced a lo hi c 1 = .slice a' (hi - lo) (c - lo) ∧ PieceS W S (.slice a' (hi - lo) (c - lo)) ((bs.drop lo).take (hi - lo)) := by
  have hl : ((bs.drop lo).take (hi - lo)).length = hi - lo := by rw [List.length_take, List.length_drop]; omega
  refine ⟨_, rfl, ?_⟩
  by_cases h0 : hi = lo
  · subst h0
    refine Or.inl ⟨⟨_, _, by rw [Nat.sub_self]⟩, by rw [Nat.sub_self]; rfl⟩
  · rcases h with ⟨-, h3⟩ | ⟨b, o, c', hb, h3, h4⟩
    · exfalso; rw [h3] at h2; simp at h2; omega
    · injection h3 with e1 e2 e3
      subst e1
      rw [if_neg (by omega)]
      refine Or.inr ⟨b, o + lo, c - lo, hb, ?_, fun i hi' => ?_⟩
      · have : (⟨b, o, none⟩ : Addr).add (lo * 1) = ⟨b, o + lo, none⟩ := by unfold Addr.add; split <;> simp_all
        simp only [Option.map_some, this, hl]
      · rw [hl] at hi'
        rw [nth_take _ _ _ hi', nth_drop, Nat.add_assoc]; exact h4 (lo + i) (by omega)
section cuts
variable {o : Oper} {a : Act} {K : Act → World → Prop} {Q : Exit → Act → World → Prop} {W : World} {S : Nat → Prop} {A : Option Addr} {n c : Nat} {bs : List Nat} {x y z : Operand} {k k' : IntKind}
end cuts
/-- A piece of one byte or more lies somewhere. -/
theorem Sx.lies {w W : World} {L : List (Nat × Obj)} {X : List Xt} (h : Sx w L X W) (i : Nat) {q : Xt} (hi : X[i]? = some q) {B : Nat} {A : Option Addr} {n c : Nat} {bs : List Nat} (hq : q = xpc B (.slice A n c) bs) (h0 : 0 < bs.length) : ∃ b o, A = some ⟨b, o, none⟩ := by
  subst hq
  rcases h.pc i hi with ⟨-, h1⟩ | ⟨b, o, c', -, h1, -⟩
  · rw [h1] at h0; simp at h0
  · injection h1 with e; exact ⟨b, o, e⟩
theorem PieceS.at {W : World} {S : Nat → Prop} {b o n c : Nat} {bs : List Nat} (h : PieceS W S (.slice (some ⟨b, o, none⟩) n c) bs) (k a : Nat) (hk : k < bs.length) (ha : a = o + k) : W.cell? ⟨b, a, none⟩ = some (.int .u8 ((nth bs k : Nat) : Int)) := by
  subst ha
  rcases h with ⟨-, h1⟩ | ⟨b', o', c', -, h1, h2⟩
  · rw [h1] at hk; simp at hk
  · injection h1 with e; injection e with e; injection e with e1 e2; subst e1 e2; exact h2 k hk
/-- What is sliced off hangs on the same blocks. -/
theorem Sx.cutpc {w W : World} {L : List (Nat × Obj)} {X : List Xt} (h : Sx w L X W) (i : Nat) {B : Nat} {v v' : Value} {bs bs' : List Nat} (hi : X[i]? = some (xpc B v bs)) (hp : PieceS W (fun b => b < B) v' bs') : Sx w L (xpc B v' bs' :: X) W :=
  h.dup i hi rfl _ rfl (fun _ h => h) ⟨(show B ≤ W.heap.size ∧ _ from h.x i hi).1, hp⟩
theorem Sx.pcS {w W : World} {L : List (Nat × Obj)} {X : List Xt} (h : Sx w L X W) (i : Nat) {B : Nat} {v : Value} {bs : List Nat} (hi : X[i]? = some (xpc B v bs)) : PieceS W (fun b => b < B) v bs := (show B ≤ W.heap.size ∧ PieceV W B v bs from h.x i hi).2
theorem Sx.psS {w W : World} {L : List (Nat × Obj)} {X : List Xt} (h : Sx w L X W) (i : Nat) {S : Nat → Prop} {v : Value} {bs : List Nat} (hi : X[i]? = some (xps S v bs)) : PieceS W S v bs := (show (∀ b, S b → b < W.heap.size) ∧ PieceS W S v bs from h.x i hi).2
end Go.Proofs.Ytbaifchbpnmkpaa
namespace Go.Proofs.Ytbaifchbpnmkpaa
open Go.RowKit
/-- The bytes of a text. -/
def sb (s : ByteArray) : List Nat := s.data.toList.map UInt8.toNat
theorem sb_nst (l : List Nat) (h : ∀ y, y ∈ l → y < 256) : sb (nst l) = l := bln_nst l h
/-- A word that pushes. -/
def pw (x : List Nat) : List Nat := if x.length ≤ 75 then x.length :: x else if x.length < 256 then 76 :: x.length :: x else 77 :: x.length % 256 :: x.length / 256 % 256 :: x
def pws (l : List (List Nat)) : List Nat := (l.map pw).flatten
theorem pws_snoc (l : List (List Nat)) (k : Nat) (x : List Nat) (h : l[k]? = some x) : pws (l.take (k + 1)) = pws (l.take k) ++ pw x := by
  unfold pws
  rw [List.take_add_one, h]; simp
theorem pw1 (x : List Nat) (h : x.length ≤ 75) : pw x = [x.length] ++ x := by simp [pw, h]
theorem pw2 (x : List Nat) (h : ¬ x.length ≤ 75) (h2 : x.length < 256) : pw x = [76, x.length] ++ x := by simp [pw, h, h2]
theorem pw3 (x : List Nat) (h : ¬ x.length ≤ 75) (h2 : ¬ x.length < 256) : pw x = [77, x.length % 256, x.length / 256 % 256] ++ x := by simp [pw, h, h2]
theorem pws_take_le (l : List (List Nat)) (k : Nat) : (pws (l.take k)).length ≤ (pws l).length := by
  have e : pws l = pws (l.take k) ++ pws (l.drop k) := by
    unfold pws
    rw [← List.flatten_append, ← List.map_append, List.take_append_drop]
  rw [e, List.length_append]; omega
theorem pw_len (x : List Nat) : x.length < (pw x).length ∧ (pw x).length ≤ x.length + 3 := by
  unfold pw
  split
  · simp
  · split <;> simp <;> omega
theorem pw_lt (x : List Nat) (h : ∀ y, y ∈ x → y < 256) : ∀ y, y ∈ pw x → y < 256 := by
  intro y hy
  unfold pw at hy
  split at hy
  · rcases List.mem_cons.1 hy with rfl | hy
    · omega
    · exact h y hy
  · split at hy
    · rcases List.mem_cons.1 hy with rfl | hy
      · omega
      · rcases List.mem_cons.1 hy with rfl | hy
        · omega
        · exact h y hy
    · rcases List.mem_cons.1 hy with rfl | hy
      · omega
      · rcases List.mem_cons.1 hy with rfl | hy
        · omega
        · rcases List.mem_cons.1 hy with rfl | hy
          · omega
          · exact h y hy
theorem pws_lt (l : List (List Nat)) (h : ∀ x, x ∈ l → ∀ y, y ∈ x → y < 256) : ∀ y, y ∈ pws l → y < 256 := by
  intro y hy
  unfold pws at hy
  obtain ⟨z, hz, hyz⟩ := List.mem_flatten.1 hy
  obtain ⟨x, hx, rfl⟩ := List.mem_map.1 hz
  exact pw_lt x (h x hx) y hyz
theorem pws_le (l : List (List Nat)) : (pws l).length ≤ l.flatten.length + 3 * l.length := by
  induction l with
  | nil => simp [pws]
  | cons x l ih =>
    have h := pw_len x
    have e : pws (x :: l) = pw x ++ pws l := rfl
    rw [e, List.length_append, List.flatten_cons, List.length_append, List.length_cons]; omega
/-- How many bytes a word's head has, and how many it pushes. -/
def hd (b : List Nat) : Nat := if nth b 0 = 76 then 2 else if nth b 0 = 77 then 3 else 1
def sz (b : List Nat) : Nat := if nth b 0 ≤ 75 then nth b 0 else if nth b 0 = 76 then nth b 1 else if nth b 0 = 77 then nth b 1 + 256 * nth b 2 else 0
/-- The first word: its code, what it pushes, how many bytes it has. -/
def nxt (b : List Nat) : Option (Nat × List Nat × Nat) :=
  if b = [] then none
  else if 81 ≤ nth b 0 ∧ nth b 0 ≤ 96 then some (nth b 0, [nth b 0 - 80], 1)
  else if b.length < hd b + sz b then none
  else some (nth b 0, (b.drop (hd b)).take (sz b), hd b + sz b)
theorem nxt_nil (b : List Nat) (h : b.length = 0) : nxt b = none := by
  obtain rfl : b = [] := List.eq_nil_of_length_eq_zero h
  rfl
theorem nxt_one (b : List Nat) (h : ¬ b.length = 0) (c : Nat) (hc : nth b 0 = c) (h1 : 81 ≤ c) (h2 : c ≤ 96) : nxt b = some (c, [c - 80], 1) := by
  subst hc
  unfold nxt
  rw [if_neg (by rintro rfl; exact h rfl), if_pos ⟨h1, h2⟩]
theorem nxt_short (b : List Nat) (h : ¬ b.length = 0) (h1 : ¬ (81 ≤ nth b 0 ∧ nth b 0 ≤ 96)) (h2 : b.length < hd b + sz b) : nxt b = none := by
  unfold nxt
  rw [if_neg (by rintro rfl; exact h rfl), if_neg h1, if_pos h2]
theorem nxt_ok (b : List Nat) (h : ¬ b.length = 0) (h1 : ¬ (81 ≤ nth b 0 ∧ nth b 0 ≤ 96)) (h2 : ¬ b.length < hd b + sz b) : nxt b = some (nth b 0, (b.drop (hd b)).take (sz b), hd b + sz b) := by
  unfold nxt
  rw [if_neg (by rintro rfl; exact h rfl), if_neg h1, if_neg h2]
theorem nxt_le {b : List Nat} {c : Nat} {d : List Nat} {u : Nat} (h : nxt b = some (c, d, u)) : 0 < u ∧ u ≤ b.length ∧ d.length ≤ b.length := by
  unfold nxt at h
  split at h
  · cases h
  · rename_i hb
    have hpos : 0 < b.length := List.length_pos_iff.2 hb
    split at h
    · injection h with h; injection h with h1 h2; injection h2 with h2 h3
      subst h2 h3; simp; omega
    · split at h
      · cases h
      · injection h with h; injection h with h1 h2; injection h2 with h2 h3
        subst h2 h3
        have : 0 < hd b := by unfold hd; split <;> (try split) <;> omega
        rw [List.length_take, List.length_drop]; omega
/-- What is written reads back. -/
theorem nxt_pw (x r : List Nat) (hx : x.length < 65536) : ∃ c, nxt (pw x ++ r) = some (c, x, (pw x).length) := by
  unfold pw
  split
  · rename_i h
    refine ⟨x.length, ?_⟩
    have e0 : nth (x.length :: x ++ r) 0 = x.length := rfl
    have eh : hd (x.length :: x ++ r) = 1 := by unfold hd; rw [e0, if_neg (by omega), if_neg (by omega)]
    have es : sz (x.length :: x ++ r) = x.length := by unfold sz; rw [e0, if_pos h]
    rw [nxt_ok _ (by simp) (by rw [e0]; omega) (by rw [eh, es]; simp; omega), e0, eh, es]
    simp; omega
  · rename_i h
    split
    · rename_i h2
      refine ⟨76, ?_⟩
      have e0 : nth (76 :: x.length :: x ++ r) 0 = 76 := rfl
      have e1 : nth (76 :: x.length :: x ++ r) 1 = x.length := rfl
      have eh : hd (76 :: x.length :: x ++ r) = 2 := by unfold hd; rw [e0, if_pos rfl]
      have es : sz (76 :: x.length :: x ++ r) = x.length := by unfold sz; rw [e0, if_neg (by omega), if_pos rfl, e1]
      rw [nxt_ok _ (by simp) (by rw [e0]; omega) (by rw [eh, es]; simp; omega), e0, eh, es]
      simp; omega
    · rename_i h2
      refine ⟨77, ?_⟩
      have e0 : nth (77 :: x.length % 256 :: x.length / 256 % 256 :: x ++ r) 0 = 77 := rfl
      have e1 : nth (77 :: x.length % 256 :: x.length / 256 % 256 :: x ++ r) 1 = x.length % 256 := rfl
      have e2 : nth (77 :: x.length % 256 :: x.length / 256 % 256 :: x ++ r) 2 = x.length / 256 % 256 := rfl
      have eh : hd (77 :: x.length % 256 :: x.length / 256 % 256 :: x ++ r) = 3 := by unfold hd; rw [e0, if_neg (by omega), if_pos rfl]
      have es : sz (77 :: x.length % 256 :: x.length / 256 % 256 :: x ++ r) = x.length := by unfold sz; rw [e0, if_neg (by omega), if_neg (by omega), if_pos rfl, e1, e2]; omega
      rw [nxt_ok _ (by simp) (by rw [e0]; omega) (by rw [eh, es]; simp; omega), e0, eh, es]
      simp; omega
/-- What Next gives back. -/
def RetN (w : World) (bs : List Nat) (e : Ending) (w' : World) : Prop :=
  (nxt bs = none ∧ e = .returned (.tuple #[.int .u8 0, .slice none 0 0, .int .i64 0, .int .i64 71]) ∧ Below w.heap.size w w') ∨
    ∃ c d u v, nxt bs = some (c, d, u) ∧ e = .returned (.tuple #[.int .u8 ((c : Nat) : Int), v, .int .i64 ((u : Nat) : Int), .int .i64 0]) ∧ PadR w v d w'
theorem RetN.no {w w' : World} {bs : List Nat} (h : nxt bs = none) (hb : Below w.heap.size w w') : RetN w bs (.returned (.tuple #[.int .u8 0, .slice none 0 0, .int .i64 0, .int .i64 71])) w' := Or.inl ⟨h, rfl, hb⟩
theorem RetN.yes {w w' : World} {bs : List Nat} (c : Nat) (d : List Nat) (u : Nat) {v : Value} (h : nxt bs = some (c, d, u)) (hp : PadR w v d w') : RetN w bs (.returned (.tuple #[.int .u8 ((c : Nat) : Int), v, .int .i64 ((u : Nat) : Int), .int .i64 0])) w' := Or.inr ⟨c, d, u, v, h, rfl, hp⟩
theorem RetN.ok {w w' : World} {bs : List Nat} (h0 : ¬ bs.length = 0) (h1 : ¬ (81 ≤ nth bs 0 ∧ nth bs 0 ≤ 96)) (H N : Nat) (hH : hd bs = H) (hN : sz bs = N) (h2 : ¬ bs.length < H + N) (c : Nat) (hc : nth bs 0 = c) {v : Value} (hp : PadR w v ((bs.drop H).take N) w') : RetN w bs (.returned (.tuple #[.int .u8 ((c : Nat) : Int), v, .int .i64 ((H + N : Nat) : Int), .int .i64 0])) w' := by
  subst hH hN hc
  exact RetN.yes _ _ _ (nxt_ok bs h0 h1 h2) hp
theorem RetN.short {w w' : World} {bs : List Nat} (h0 : ¬ bs.length = 0) (h1 : ¬ (81 ≤ nth bs 0 ∧ nth bs 0 ≤ 96)) (H N : Nat) (hH : hd bs = H) (hN : sz bs = N) (h2 : bs.length < H + N) (hb : Below w.heap.size w w') : RetN w bs (.returned (.tuple #[.int .u8 0, .slice none 0 0, .int .i64 0, .int .i64 71])) w' := by
  subst hH hN
  exact RetN.no (nxt_short bs h0 h1 h2) hb
theorem nth_lt (bs : List Nat) (h : ∀ y, y ∈ bs → y < 256) (i : Nat) : nth bs i < 256 := by
  by_cases hi : i < bs.length
  · exact h _ (nth_mem bs i hi)
  · unfold nth; rw [List.getD_eq_getElem?_getD, List.getElem?_eq_none (by omega)]; decide
end Go.Proofs.Ytbaifchbpnmkpaa
namespace Go.Proofs.Ytbaifchbpnmkpaa
namespace Sc
/-- Does a code push? -/
def pushes (c : Nat) : Bool := decide (c ≤ 77) || (decide (81 ≤ c) && decide (c ≤ 96))
/-- Is a piece true? -/
def tr (x : List Nat) : Bool := x.any fun y => y != 0
def truth (b : Bool) : List Nat := if b = true then [1] else []
/-- A number in as few bytes as may be. -/
def lenb (n : Nat) : List Nat := if n = 0 then [] else if n < 256 then [n] else [n % 256, n / 256]
def hsum (x : List Nat) : List Nat := sha x
def hshort (x : List Nat) : List Nat := (sha (sha x)).take 20
/-- The stack, the upmost piece first, and of each branch, the inmost first, whether it is gone. -/
structure St where
  stack : List (List Nat)
  ways : List Bool
def goes (ws : List Bool) : Bool := ws.all fun b => b
/-- How many pieces a word needs. -/
def needs (c : Nat) : Option Nat :=
  if c = 97 ∨ c = 106 then some 0
  else if c = 105 ∨ c = 117 ∨ c = 118 ∨ c = 130 ∨ c = 168 ∨ c = 169 then some 1
  else if c = 109 ∨ c = 120 ∨ c = 124 ∨ c = 135 ∨ c = 136 ∨ c = 172 ∨ c = 173 then some 2
  else none
section
variable (sg : List Nat → List Nat → Bool)
/-- What a word does that isn't a push, nor of a branch. -/
def act (c : Nat) (st : List (List Nat)) : Except Nat (List (List Nat)) :=
  if c = 105 then (if tr (st.headD []) = true then .ok st.tail else .error 74)
  else if c = 106 then .error 74
  else if c = 117 then .ok st.tail
  else if c = 109 then .ok st.tail.tail
  else if c = 118 then .ok (st.headD [] :: st)
  else if c = 120 then .ok (st.tail.headD [] :: st)
  else if c = 124 then .ok (st.tail.headD [] :: st.headD [] :: st.tail.tail)
  else if c = 130 then .ok (lenb (st.headD []).length :: st)
  else if c = 168 then .ok (hsum (st.headD []) :: st.tail)
  else if c = 169 then .ok (hshort (st.headD []) :: st.tail)
  else if c = 135 then .ok (truth (decide (st.headD [] = st.tail.headD [])) :: st.tail.tail)
  else if c = 136 then (if st.headD [] = st.tail.headD [] then .ok st.tail.tail else .error 74)
  else if c = 172 then .ok (truth (sg (st.headD []) (st.tail.headD [])) :: st.tail.tail)
  else if c = 173 then (if sg (st.headD []) (st.tail.headD []) = true then .ok st.tail.tail else .error 74)
  else .ok st
def op (c : Nat) (st : List (List Nat)) : Except Nat (List (List Nat)) :=
  match needs c with
  | none => .error 71
  | some n => if st.length < n then .error 72 else act sg c st
/-- A word of branches. -/
def branch (c : Nat) (s : St) : Except Nat St :=
  if c = 99 ∨ c = 100 then
    if goes s.ways = true then match s.stack with
      | [] => .error 72
      | x :: r => .ok ⟨r, (tr x == decide (c = 99)) :: s.ways⟩
    else .ok ⟨s.stack, false :: s.ways⟩
  else match s.ways with
    | [] => .error 71
    | b :: ws => .ok ⟨s.stack, if c = 103 then (!b) :: ws else ws⟩
def isBr (c : Nat) : Bool := decide (c = 99 ∨ c = 100 ∨ c = 103 ∨ c = 104)
/-- A word: how many were none that push, and what is then. -/
def word (n : Nat) (s : St) (c : Nat) (d : List Nat) : Except Nat (Nat × St) :=
  if 520 < d.length then .error 73
  else if pushes c = true then
    if goes s.ways = true then (if 100 < s.stack.length + 1 then .error 73 else .ok (n, ⟨d :: s.stack, s.ways⟩)) else .ok (n, s)
  else if 100 < n + 1 then .error 73
  else if isBr c = true then (match branch c s with
    | .error e => .error e
    | .ok s' => .ok (n + 1, s'))
  else if goes s.ways = true then (match op sg c s.stack with
    | .error e => .error e
    | .ok st => if 100 < st.length then .error 73 else .ok (n + 1, ⟨st, s.ways⟩))
  else .ok (n + 1, s)
/-- A script's words, one by one. -/
def allF (pu : Bool) : Nat → Nat → St → List Nat → Except Nat St
  | 0, _, s, _ => if s.ways = [] then .ok s else .error 71
  | k + 1, n, s, b => if b = [] then (if s.ways = [] then .ok s else .error 71) else match nxt b with
    | none => .error 71
    | some (c, d, u) => if pu = true ∧ pushes c = false then .error 71 else match word sg n s c d with
      | .error e => .error e
      | .ok (n', s') => allF pu k n' s' (b.drop u)
def all (pu : Bool) (n : Nat) (s : St) (b : List Nat) : Except Nat St := allF sg pu b.length n s b
theorem allF_eq (pu : Bool) : ∀ (k : Nat) (n : Nat) (s : St) (b : List Nat), b.length ≤ k → allF sg pu k n s b = allF sg pu b.length n s b
  | 0, n, s, b, h => by
    have : b = [] := List.length_eq_zero_iff.1 (by omega)
    subst this; rfl
  | k + 1, n, s, b, h => by
    cases b with
    | nil => rfl
    | cons x l =>
      show allF sg pu (k + 1) n s (x :: l) = allF sg pu (l.length + 1) n s (x :: l)
      unfold allF
      rw [if_neg (by simp), if_neg (by simp)]
      cases hn : nxt (x :: l) with
      | none => rfl
      | some q =>
        obtain ⟨c, d, u⟩ := q
        dsimp only
        split
        · rfl
        · cases hw : word sg n s c d with
          | error e => rfl
          | ok q =>
            obtain ⟨n', s'⟩ := q
            dsimp only
            have hu := (nxt_le hn).1
            have hl : ((x :: l).drop u).length ≤ l.length := by rw [List.length_drop, List.length_cons]; omega
            rw [allF_eq pu k _ _ _ (by simp only [List.length_cons] at h; omega), allF_eq pu l.length _ _ _ hl]
theorem all_nil (pu : Bool) (n : Nat) (s : St) : all sg pu n s [] = if s.ways = [] then .ok s else .error 71 := rfl
theorem all_cons (pu : Bool) (n : Nat) (s : St) (b : List Nat) (h : b ≠ []) : all sg pu n s b = match nxt b with
    | none => .error 71
    | some (c, d, u) => if pu = true ∧ pushes c = false then .error 71 else match word sg n s c d with
      | .error e => .error e
      | .ok (n', s') => all sg pu n' s' (b.drop u) := by
  cases b with
  | nil => exact absurd rfl h
  | cons x l =>
    show allF sg pu (l.length + 1) n s (x :: l) = _
    unfold allF
    rw [if_neg (by simp)]
    cases hn : nxt (x :: l) with
    | none => rfl
    | some q =>
      obtain ⟨c, d, u⟩ := q
      dsimp only
      split
      · rfl
      · cases hw : word sg n s c d with
        | error e => rfl
        | ok q =>
          obtain ⟨n', s'⟩ := q
          dsimp only
          have hu := (nxt_le hn).1
          exact allF_eq sg pu l.length _ _ _ (by rw [List.length_drop, List.length_cons]; omega)
/-- What comes of a lock, and of what is to open it. -/
def run (u l : List Nat) : Nat :=
  if 2000 < u.length ∨ 2000 < l.length then 73
  else match all sg true 0 ⟨[], []⟩ u with
    | .error e => e
    | .ok s => match all sg false 0 s l with
      | .error e => e
      | .ok s' => match s'.stack with
        | [] => 74
        | x :: _ => if tr x = true then 0 else 74
end
/-- Pieces as they may lie on the stack. -/
def Fit (st : List (List Nat)) : Prop := ∀ x, x ∈ st → x.length ≤ 520 ∧ ∀ y, y ∈ x → y < 256
end Sc
end Go.Proofs.Ytbaifchbpnmkpaa
namespace Go.Proofs.Ytbaifchbpnmkpaa
open Go.RowKit
/-- What a frame's slot is known to hold. -/
def look : List (Nat × Value) → Nat → Option Value
  | [], _ => none
  | (a, v) :: F, k => bif Nat.beq a k then some v else look F k
/-- An operand: what is known, else what the frame holds. -/
def opd (F : List (Nat × Value)) (T : Array Value) : Operand → Value
  | .tmp k => match look F k with
    | some v => v
    | none => T.getD k undef
  | .const v => v
  | .global g => .pointer (some ⟨g, 0, none⟩)
  | .func f => .func (.func f) #[] #[]
/-- A frame of N slots, of which these are known. -/
structure Fq (N : Nat) (T : Array Value) (F : List (Nat × Value)) : Prop where
  size : T.size = N
  known : ∀ k v, look F k = some v → T.getD k undef = v
theorem opd_eq {N : Nat} {T : Array Value} {F : List (Nat × Value)} (h : Fq N T F) : (⟨T, []⟩ : Act).eval = opd F T := by
  funext x
  cases x with
  | tmp k =>
    show T.getD k undef = _
    simp only [opd]
    cases e : look F k with
    | none => rfl
    | some v => exact h.known k v e
  | const v => rfl
  | global g => rfl
  | func f => rfl
/-- What a step does that reads one row at most: what it yields, and the blocks that it reads. -/
def symR {α : Type} (P : Program) (cs : Array Value) (ty : TypeId) : Sem α → Option (α × List Nat)
  | .pure a => some (a, [])
  | .program k => symR P cs ty (k P)
  | .mark _ k => symR P cs ty k
  | .load _ a k => match a.spot, cs[a.off]? with
    | none, some v => (symR P cs ty (k v)).map fun p => (p.1, a.block :: p.2)
    | _, _ => none
  | .shape r k => (symR P cs ty (k (some (ty, cs.size)))).map fun p => (p.1, r :: p.2)
  | _ => none
theorem symR_run {α : Type} {P : Program} {cs : Array Value} {ty : TypeId} {fr : Nat × Nat} {W : World} {g : Nat} {s : Sem α} : ∀ {x : α} {l : List Nat}, symR P cs ty s = some (x, l) → (∀ b, b ∈ l → b = g) → (l = [] ∨ W.heap[g]? = some (.cells cs ty fr)) → s.run P W = .ok x W := by
  induction s with
  | pure a => intro x l h _ _; simp [symR] at h; rw [h.1]; rfl
  | program k ih => intro x l h h1 h2; exact ih P h h1 h2
  | mark m k ih => intro x l h h1 h2; exact ih h h1 h2
  | load m a k ih =>
    intro x l h h1 h2
    simp only [symR] at h
    split at h
    · rename_i v e1 e2
      cases e3 : symR P cs ty (k v) with
      | none => rw [e3] at h; cases h
      | some p =>
        rw [e3] at h
        simp only [Option.map_some, Option.some.injEq, Prod.mk.injEq] at h
        obtain ⟨rfl, rfl⟩ := h
        have hg := h1 a.block (List.mem_cons_self ..)
        have hr : W.heap[g]? = some (.cells cs ty fr) := h2.resolve_left (by simp)
        have hc : W.cell? a = some v := by
          unfold World.cell?; rw [hg, hr]; simp [e1, e2]
        show Sem.run P (.load m a k) W = _
        simp only [Sem.run, hc]
        exact ih v e3 (fun b hb => h1 b (List.mem_cons_of_mem _ hb)) (Or.inr hr)
    · cases h
  | shape r k ih =>
    intro x l h h1 h2
    simp only [symR] at h
    cases e3 : symR P cs ty (k (some (ty, cs.size))) with
    | none => rw [e3] at h; cases h
    | some p =>
      rw [e3] at h
      simp only [Option.map_some, Option.some.injEq, Prod.mk.injEq] at h
      obtain ⟨rfl, rfl⟩ := h
      have hg := h1 r (List.mem_cons_self ..)
      have hr : W.heap[g]? = some (.cells cs ty fr) := h2.resolve_left (by simp)
      have hc : W.shape? r = some (ty, cs.size) := by unfold World.shape?; rw [hg, hr]
      show Sem.run P (.shape r k) W = _
      simp only [Sem.run, hc]
      exact ih _ e3 (fun b hb => h1 b (List.mem_cons_of_mem _ hb)) (Or.inr hr)
  | store m a v k ih => intro x l h; cases v <;> cases h
  | _ => intro x l h; cases h
/-- The value of one cell? -/
def plainV : Value → Bool
  | .agg _ | .tuple _ => false
  | _ => true
/-- What a step does that writes one row: the row's cells behind it. -/
def symW {α : Type} (P : Program) (ty : TypeId) : Sem α → Array Value → Option (α × Array Value × List Nat)
  | .pure a, cs => some (a, cs, [])
  | .program k, cs => symW P ty (k P) cs
  | .mark _ k, cs => symW P ty k cs
  | .load _ a k, cs => match a.spot, cs[a.off]? with
    | none, some v => (symW P ty (k v) cs).map fun p => (p.1, p.2.1, a.block :: p.2.2)
    | _, _ => none
  | .shape r k, cs => (symW P ty (k (some (ty, cs.size))) cs).map fun p => (p.1, p.2.1, r :: p.2.2)
  | .store _ a v k, cs => match a.spot, cs[a.off]?, plainV v with
    | none, some _, true => (symW P ty k (cs.setIfInBounds a.off v)).map fun p => (p.1, p.2.1, a.block :: p.2.2)
    | _, _, _ => none
  | _, _ => none
/-- Only block g may have changed. -/
structure OnlyAt (g : Nat) (W W' : World) : Prop where
  os : W'.os = W.os
  tape : W'.tape = W.tape
  output : W'.output = W.output
  size : W'.heap.size = W.heap.size
  other : ∀ b, b ≠ g → W'.heap[b]? = W.heap[b]?
theorem OnlyAt.refl (g : Nat) (W : World) : OnlyAt g W W := ⟨rfl, rfl, rfl, rfl, fun _ _ => rfl⟩
theorem OnlyAt.trans {g : Nat} {W W1 W2 : World} (h : OnlyAt g W W1) (k : OnlyAt g W1 W2) : OnlyAt g W W2 :=
  ⟨k.os.trans h.os, k.tape.trans h.tape, k.output.trans h.output, k.size.trans h.size, fun b hb => (k.other b hb).trans (h.other b hb)⟩
theorem OnlyAt.setCell (g o : Nat) (W : World) (v : Value) : OnlyAt g W (W.setCell ⟨g, o, none⟩ v) :=
  ⟨rfl, rfl, rfl, by simp [World.setCell], fun b hb => heap_setCell_other W ⟨g, o, none⟩ b v hb⟩
theorem symW_run {α : Type} {P : Program} {ty : TypeId} {g : Nat} {s : Sem α} : ∀ {W : World} {cs cs' : Array Value} {x : α} {l : List Nat}, symW P ty s cs = some (x, cs', l) → (∀ b, b ∈ l → b = g) → W.heap[g]? = some (.cells cs ty (0, 0)) → ∃ W', s.run P W = .ok x W' ∧ OnlyAt g W W' ∧ W'.heap[g]? = some (.cells cs' ty (0, 0)) := by
  induction s with
  | pure a => intro W cs cs' x l h _ hr; simp [symW] at h; obtain ⟨rfl, rfl, -⟩ := h; exact ⟨W, rfl, .refl _ _, hr⟩
  | program k ih => intro W cs cs' x l h h1 hr; exact ih P (by simpa [symW] using h) h1 hr
  | mark m k ih => intro W cs cs' x l h h1 hr; exact ih (by simpa [symW] using h) h1 hr
  | load m a k ih =>
    intro W cs cs' x l h h1 hr
    simp only [symW] at h
    split at h
    · rename_i v e1 e2
      cases e3 : symW P ty (k v) cs with
      | none => rw [e3] at h; cases h
      | some p =>
        rw [e3] at h
        simp only [Option.map_some, Option.some.injEq, Prod.mk.injEq] at h
        obtain ⟨rfl, rfl, rfl⟩ := h
        have hg := h1 a.block (List.mem_cons_self ..)
        have hc : W.cell? a = some v := by
          unfold World.cell?; rw [hg, hr]; simp [e1, e2]
        simp only [Sem.run, hc]
        exact ih v e3 (fun b hb => h1 b (List.mem_cons_of_mem _ hb)) hr
    · cases h
  | shape r k ih =>
    intro W cs cs' x l h h1 hr
    simp only [symW] at h
    cases e3 : symW P ty (k (some (ty, cs.size))) cs with
    | none => rw [e3] at h; cases h
    | some p =>
      rw [e3] at h
      simp only [Option.map_some, Option.some.injEq, Prod.mk.injEq] at h
      obtain ⟨rfl, rfl, rfl⟩ := h
      have hg := h1 r (List.mem_cons_self ..)
      have hc : W.shape? r = some (ty, cs.size) := by unfold World.shape?; rw [hg, hr]
      simp only [Sem.run, hc]
      exact ih _ e3 (fun b hb => h1 b (List.mem_cons_of_mem _ hb)) hr
  | store m a v k ih =>
    intro W cs cs' x l h h1 hr
    simp only [symW] at h
    split at h
    · rename_i u e1 e2 hp
      cases e3 : symW P ty k (cs.setIfInBounds a.off v) with
      | none => rw [e3] at h; cases h
      | some p =>
        rw [e3] at h
        simp only [Option.map_some, Option.some.injEq, Prod.mk.injEq] at h
        obtain ⟨rfl, rfl, rfl⟩ := h
        have hg := h1 a.block (List.mem_cons_self ..)
        obtain ⟨ab, ao, asp⟩ := a
        simp only at hg e1 e2 e3
        subst hg; subst e1
        have hc : W.cell? ⟨ab, ao, none⟩ = some u := (cell_of_row _ _ _ _ _ _ hr).trans e2
        have hz : W.frozen? ⟨ab, ao, none⟩ = false := frozen_of_row W ab ao _ _ hr
        obtain ⟨W', r1, r2, r3⟩ := ih (W := W.setCell ⟨ab, ao, none⟩ v) e3 (fun b hb => h1 b (List.mem_cons_of_mem _ hb)) (heap_setCell_same W ab ao cs ty v hr)
        refine ⟨W', ?_, (OnlyAt.setCell ab ao W v).trans r2, r3⟩
        rw [← r1]
        cases v <;> first | (simp only [Sem.run, hc, hz]; rfl) | cases hp
    · cases h
  | _ => intro W cs cs' x l h; simp [symW] at h
/-- What a step does that makes one block, of number n. -/
def symN {α : Type} (P : Program) (n : Nat) : Sem α → Option (α × Obj)
  | .program k => symN P n (k P)
  | .mark _ k => symN P n k
  | .new o k => match symR P #[] 0 (k n) with
    | some (x, []) => some (x, o)
    | _ => none
  | _ => none
theorem symN_run {α : Type} {P : Program} {W : World} {s : Sem α} : ∀ {x : α} {o : Obj}, symN P W.heap.size s = some (x, o) → s.run P W = .ok x (W.alloc o) := by
  induction s with
  | program k ih => intro x o h; exact ih P h
  | mark m k ih => intro x o h; exact ih h
  | new o' k ih =>
    intro x o h
    simp only [symN] at h
    split at h
    · rename_i x' e
      cases h
      exact symR_run (W := W.alloc o') (g := 0) (fr := (0, 0)) e (fun _ h => by cases h) (Or.inl rfl)
    · cases h
  | store m a v k ih => intro x o h; cases v <;> cases h
  | _ => intro x o h; cases h
/-- The operations of a region, by its number. -/
noncomputable def rops (f : Func) (r : Nat) : List Oper := match rgn f r with
  | .region _ ops _ => ops.toList
  | _ => []
noncomputable def rdrawn (f : Func) (r : Nat) : Option Bool := match rgn f r with
  | .region _ _ d => some d
  | _ => none
/-- A list of operations in order. -/
def wpSeq (P : Program) (l : List Oper) (Q : Exit → Act → World → Prop) : List Oper → Act → World → Prop
  | [], a, w => Q .normal a w
  | o :: rest, a, w => if Region.wanted o (yielded l.toArray a.tmps) = true then o.wp P a w (wpSeq P l Q rest) Q else wpSeq P l Q rest (a.put o.dst undef) w
theorem wpSeq_list {P : Program} {l : List Oper} {Q : Exit → Act → World → Prop} : ∀ {rest : List Oper} {a : Act} {w : World}, wpSeq P l Q rest a w → wpList P l.toArray Q rest a w
  | [], _, _, h => h
  | o :: rest, a, w, h => by
    unfold wpSeq at h
    unfold wpList
    split
    · rename_i hw; rw [if_pos hw] at h
      exact .inl (Oper.wp_mono (fun _ _ h => wpSeq_list h) h)
    · rename_i hw; rw [if_neg hw] at h
      exact wpSeq_list h
theorem wpSeq_step {P : Program} {l : List Oper} {Q : Exit → Act → World → Prop} {rest : List Oper} {o : Oper} {a : Act} {w : World}
    (h : ∀ K : Act → World → Prop, (∀ a w, wpSeq P l Q rest a w → K a w) → if Region.wanted o (yielded l.toArray a.tmps) = true then o.wp P a w K Q else K (a.put o.dst undef) w) : wpSeq P l Q (o :: rest) a w := by
  have := h _ (fun _ _ h => h)
  unfold wpSeq
  split
  · rename_i hw; rw [if_pos hw] at this; exact this
  · rename_i hw; rw [if_neg hw] at this; exact this
theorem rgn_plain {P : Program} {f : Func} {r : Nat} {Q : Exit → Act → World → Prop} {a : Act} {W : World} (hd : rdrawn f r = some false) (h : wpSeq P (rops f r) Q (rops f r) a W) : (rgn f r).wp P Q a W := by
  unfold rdrawn at hd; unfold rops at h
  split at hd
  · rename_i e
    simp only [Option.some.injEq] at hd; subst hd
    rw [e] at h ⊢
    exact wp_region_lit (wpSeq_list (by simpa using h))
  · cases hd
/-- Is an operation wanted? By what is known of the frame. -/
def wantF (F : List (Nat × Value)) (l : List Oper) (o : Oper) : Option Bool := match o.guard with
  | none => some true
  | some (j, b) => match (l[j]?).bind (·.dst) with
    | none => some false
    | some d => match look F d with
      | none => none
      | some (.bool c) => some (c == b)
      | some _ => some false
theorem wantF_ok {N : Nat} {T : Array Value} {F : List (Nat × Value)} (hF : Fq N T F) {l : List Oper} {o : Oper} {b : Bool} (h : wantF F l o = some b) (hN : ∀ o', o' ∈ l → ∀ d, o'.dst = some d → d < N) : Region.wanted o (yielded l.toArray T) = b := by
  unfold wantF at h
  unfold Region.wanted
  split at h
  · simp_all
  · rename_i j w e
    rw [e]
    simp only
    unfold yielded
    rw [List.getElem?_toArray]
    split at h
    · rename_i e2; rw [e2]; simp at h; subst h; rfl
    · rename_i d e2
      rw [e2]
      have hd : d < T.size := by
        cases e3 : l[j]? with
        | none => rw [e3] at e2; cases e2
        | some o' => rw [e3] at e2; rw [hF.size]; exact hN o' (List.mem_of_getElem? e3) d e2
      simp only [Option.bind_some]
      split at h
      · cases h
      · rename_i c e4
        have := hF.known _ _ e4
        rw [Array.getD_eq_getD_getElem?, Array.getElem?_eq_getElem hd, Option.getD_some] at this
        rw [Array.getElem?_eq_getElem hd, this]
        simp at h; subst h
        cases c <;> cases w <;> rfl
      · rename_i v hv e4
        have := hF.known _ _ e4
        rw [Array.getD_eq_getD_getElem?, Array.getElem?_eq_getElem hd, Option.getD_some] at this
        rw [Array.getElem?_eq_getElem hd, this]
        simp at h; subst h
        cases v <;> first | rfl | exact absurd rfl (hv _)
/-- Are two values the same? By their cells, as one condition. -/
def eqB (P : Program) : Nat → TypeId → Value → Value → Option Bool
  | 0, _, _, _ => none
  | d + 1, t, x, y => match P.underlying t, x, y with
    | some .bool, .bool a, .bool b => some (a == b)
    | some (.int _), .int k a, .int k' b => if k = k' then some (a == b) else none
    | some .string, .string a, .string b => some (a == b)
    | some (.struct _), .agg xs, .agg ys => match P.stoodInHeld t with
      | true => none
      | false => (P.fieldsOf t).toList.foldr (fun f acc => match acc, symR P #[] 0 (part f.type xs f.offset), symR P #[] 0 (part f.type ys f.offset), f.name == "_" with
        | some r, some (a, []), some (b, []), false => (eqB P d f.type a b).map fun q => (q && r)
        | _, _, _, _ => none) (some true)
    | some (.array n e), .agg xs, .agg ys => match P.info? e with
      | none => none
      | some _ => (List.range n).foldr (fun i acc => match acc, symR P #[] 0 (part e xs (i * P.cellsOf e)), symR P #[] 0 (part e ys (i * P.cellsOf e)) with
        | some r, some (a, []), some (b, []) => (eqB P d e a b).map fun q => (q && r)
        | _, _, _ => none) (some true)
    | _, _, _ => none
theorem sym0_run {α : Type} {P : Program} {W : World} {s : Sem α} {x : α} (h : symR P #[] 0 s = some (x, [])) : s.run P W = .ok x W := symR_run (fr := (0, 0)) (g := 0) h (fun _ h => by cases h) (Or.inl rfl)
theorem underlying_struct {P : Program} {t : TypeId} {fs : Array Field} (h : P.underlying t = some (.struct fs)) : P.underlying t = some (.struct (P.fieldsOf t)) := by
  unfold Program.fieldsOf; rw [h]
theorem eqB_run {P : Program} {W : World} : ∀ {d : Nat} {t : TypeId} {x y : Value} {b : Bool}, eqB P d t x y = some b → (Op.equalIn d t x y).run P W = .ok b W
  | 0, _, _, _, _, h => by cases h
  | d + 1, t, x, y, b, h => by
    unfold eqB at h
    split at h
    · rename_i hu
      cases h
      simp only [Op.equalIn, Sem.run_bind, run_underlying hu, Result.andThen_ok]; rfl
    · rename_i k a k' b' hu
      split at h
      · rename_i hk
        cases h
        simp only [Op.equalIn, Sem.run_bind, run_underlying hu, Result.andThen_ok, hk, if_true]; rfl
      · cases h
    · rename_i a b' hu
      cases h
      simp only [Op.equalIn, Sem.run_bind, run_underlying hu, Result.andThen_ok]
      rw [beq_toListBytes]; rfl
    · rename_i xs ys hu
      split at h
      · cases h
      · rename_i hst
        rw [run_equalIn_struct W d t xs ys (underlying_struct hu) hst]
        generalize (P.fieldsOf t).toList = fs at h
        clear hu hst
        induction fs generalizing b with
        | nil => cases h; rfl
        | cons f fs ih =>
          simp only [List.foldr_cons] at h
          split at h
          · rename_i r a b1 e1 e2 e3 e4
            cases e5 : eqB P d f.type a b1 with
            | none => rw [e5] at h; cases h
            | some q =>
              rw [e5] at h
              cases h
              have hn : f.name ≠ "_" := by simpa using e4
              simp only [Op.eqFields, hn, ne_eq, not_false_eq_true, if_true, Sem.run_bind, sym0_run e2, sym0_run e3, eqB_run e5, Result.andThen_ok]
              cases q with
              | false => rfl
              | true => simpa using ih _ e1
          · cases h
    · rename_i n e xs ys hu
      split at h
      · cases h
      · rename_i i hi
        rw [run_equalIn_array W d xs ys hu hi]
        generalize List.range n = is at h
        clear hu hi
        induction is generalizing b with
        | nil => cases h; rfl
        | cons j is ih =>
          simp only [List.foldr_cons] at h
          split at h
          · rename_i r a b1 e1 e2 e3
            cases e5 : eqB P d e a b1 with
            | none => rw [e5] at h; cases h
            | some q =>
              rw [e5] at h
              cases h
              simp only [Op.eqItems, Sem.run_bind, sym0_run e2, sym0_run e3, eqB_run e5, Result.andThen_ok]
              cases q with
              | false => rfl
              | true => simpa using ih _ e1
          · cases h
    · cases h
/-- '==' and '!=' between structs and arrays. -/
def aggEq (P : Program) (ρ : Operand → Value) (o : Oper) : Option Value := match o.op with
  | .binOp op t x y _ => match ρ x, ρ y with
    | .agg xs, .agg ys => match P.eqGuardType P.depth t with
      | true => none
      | false => match op with
        | .eql => (eqB P 10000 t (.agg xs) (.agg ys)).map .bool
        | .neq => (eqB P 10000 t (.agg xs) (.agg ys)).map fun b => .bool (!b)
        | _ => none
    | _, _ => none
  | _ => none
theorem aggEq_run {P : Program} {ρ : Operand → Value} {o : Oper} {v : Value} {W : World} (h : aggEq P ρ o = some v) : (execOp ρ o).run P W = .ok (.value v) W := by
  unfold aggEq at h
  split at h
  · rename_i op t x y ty ho
    split at h
    · rename_i xs ys hx hy
      split at h
      · cases h
      · rename_i hgd
        split at h
        · cases e : eqB P 10000 t (.agg xs) (.agg ys) with
          | none => rw [e] at h; cases h
          | some b =>
            rw [e] at h; cases h
            have er : (Op.equal t (.agg xs) (.agg ys)).run P W = .ok b W := eqB_run e
            unfold execOp
            simp [ho, hx, hy, eqGuard, binOp, hgd, er]
        · cases e : eqB P 10000 t (.agg xs) (.agg ys) with
          | none => rw [e] at h; cases h
          | some b =>
            rw [e] at h; cases h
            have er : (Op.equal t (.agg xs) (.agg ys)).run P W = .ok b W := eqB_run e
            unfold execOp
            simp [ho, hx, hy, eqGuard, binOp, hgd, er]
        · cases h
    · cases h
  · cases h
/-- The block of a row of the list, by its place. -/
def gAt (L : List (Nat × Obj)) (j : Nat) : Nat := match L[j]? with
  | some (g, _) => g
  | _ => 0
/-- What a pure operation yields, and the blocks that it reads. -/
def oneR (P : Program) (ρ : Operand → Value) (L : List (Nat × Obj)) (j : Nat) (o : Oper) : Option (Value × List Nat) :=
  match L[j]? with
  | some (_, .cells cs ty _) => match symR P cs ty (execOp ρ o) with
    | some (.value v, l) => some (v, l)
    | _ => none
  | _ => match symR P #[] 0 (execOp ρ o) with
    | some (.value v, []) => some (v, [])
    | _ => none
def oneV (P : Program) (F : List (Nat × Value)) (T : Array Value) (L : List (Nat × Obj)) (j : Nat) (o : Oper) : Option (Value × List Nat) :=
  match aggEq P (opd F T) o with
  | some v => some (v, [])
  | none => oneR P (opd F T) L j o
theorem oneR_run {P : Program} {ρ : Operand → Value} {w W : World} {L : List (Nat × Obj)} {X : List Xt} {j : Nat} {o : Oper} {v : Value} {bl : List Nat} (hS : Sx w L X W) (h : oneR P ρ L j o = some (v, bl)) (hl : bl = bl.map fun _ => gAt L j) : (execOp ρ o).run P W = .ok (.value v) W := by
  have hb : ∀ b, b ∈ bl → b = gAt L j := fun b hb => by
    rw [hl] at hb
    obtain ⟨_, _, h⟩ := List.mem_map.1 hb
    exact h.symm
  unfold oneR at h
  unfold gAt at hb
  split at h
  · rename_i g cs ty fr e2
    rw [e2] at hb
    split at h
    · rename_i v' l' e
      cases h
      exact symR_run (fr := fr) e hb (Or.inr (hS.rows _ (List.mem_of_getElem? e2)))
    · cases h
  · split at h
    · rename_i v' e
      cases h
      exact symR_run (fr := (0, 0)) (g := 0) e (fun b hb => by cases hb) (Or.inl rfl)
    · cases h
/-- Operations from a list on, one by one: the frame behind them, the slots that are written, the blocks that are read and those that are to be read. -/
def evs (P : Program) (L : List (Nat × Obj)) (l0 : List Oper) : Array Value → List (Nat × Value) → List Nat → List Oper → Option (List (Nat × Value) × List Nat × List Nat × List Nat)
  | _, F, _, [] => some (F, [], [], [])
  | T, F, hs, o :: os => match o.dst, wantF F l0 o with
    | some d, some false => (evs P L l0 (T.setIfInBounds d undef) ((d, undef) :: F) hs.tail os).map fun p => (p.1, d :: p.2.1, p.2.2)
    | some d, some true => match oneV P F T L (hs.headD 0) o with
      | some (v, l) => (evs P L l0 (T.setIfInBounds d v) ((d, v) :: F) hs.tail os).map fun p => (p.1, d :: p.2.1, l ++ p.2.2.1, l.map (fun _ => gAt L (hs.headD 0)) ++ p.2.2.2)
      | none => none
    | _, _ => none
theorem oneV_run {P : Program} {N : Nat} {F : List (Nat × Value)} {T : Array Value} {L : List (Nat × Obj)} {w W : World} {X : List Xt} {j : Nat} {o : Oper} {v : Value} {l : List Nat} (hF : Fq N T F) (hS : Sx w L X W) (h : oneV P F T L j o = some (v, l)) (hl : l = l.map fun _ => gAt L j) :
    (execOp (⟨T, []⟩ : Act).eval o).run P W = .ok (.value v) W := by
  rw [opd_eq hF]
  unfold oneV at h
  split at h
  · rename_i v' e
    cases h
    exact aggEq_run e
  · exact oneR_run hS h hl
/-- .. in a frame. -/
theorem Fq.put {N : Nat} {T : Array Value} {F : List (Nat × Value)} (h : Fq N T F) (d : Nat) (v : Value) (hd : d < N) : Fq N (T.setIfInBounds d v) ((d, v) :: F) :=
  ⟨by simpa using h.size, fun k u hk => by
    have hd' : d < T.size := by rw [h.size]; exact hd
    simp only [look] at hk
    rw [Array.getD_eq_getD_getElem?, Array.getElem?_setIfInBounds]
    cases e : Nat.beq d k with
    | true =>
      rw [e] at hk
      have : d = k := Nat.eq_of_beq_eq_true e
      subst this
      simp at hk; subst hk
      simp [hd']
    | false =>
      rw [e] at hk
      have : d ≠ k := fun e2 => by subst e2; simp at e
      rw [if_neg this, ← Array.getD_eq_getD_getElem?]
      exact h.known k u hk⟩
/-- Each slot that an operation writes lies in the frame. -/
def dstsOk (N : Nat) (l : List Oper) : Bool := l.all fun o => match o.dst with
  | some d => decide (d < N)
  | none => true
theorem dstsOk_lt {N : Nat} {l : List Oper} (h : dstsOk N l = true) : ∀ o, o ∈ l → ∀ d, o.dst = some d → d < N := fun o ho d hd => by
  have := List.all_eq_true.1 h o ho
  rw [hd] at this
  exact of_decide_eq_true this
theorem evs_run {P : Program} {N : Nat} {L : List (Nat × Obj)} {w W : World} {X : List Xt} {l0 : List Oper} {Q : Exit → Act → World → Prop} (hS : Sx w L X W) (hN : ∀ o, o ∈ l0 → ∀ d, o.dst = some d → d < N) : ∀ {os rest : List Oper} {F F1 : List (Nat × Value)} {T : Array Value} {hs ds l g : List Nat},
    (∀ o, o ∈ os → o ∈ l0) → Fq N T F → evs P L l0 T F hs os = some (F1, ds, l, g) → l = g → (∀ T', (∀ k, k ∉ ds → T'.getD k undef = T.getD k undef) → Fq N T' F1 → wpSeq P l0 Q rest ⟨T', []⟩ W) → wpSeq P l0 Q (os ++ rest) ⟨T, []⟩ W
  | [], rest, F, F1, T, hs, ds, l, g, _, hF, h, _, k => by
    simp only [evs, Option.some.injEq, Prod.mk.injEq] at h
    obtain ⟨rfl, -⟩ := h
    exact k T (fun _ _ => rfl) hF
  | o :: os, rest, F, F1, T, hs, ds, l, g, hin, hF, h, hlg, k => by
    have hin' : ∀ o, o ∈ os → o ∈ l0 := fun x hx => hin x (List.mem_cons_of_mem _ hx)
    have other : ∀ (d : Nat) (v : Value) (ds2 : List Nat) (T' : Array Value), (∀ k, k ∉ ds2 → T'.getD k undef = (T.setIfInBounds d v).getD k undef) → ∀ k, k ∉ d :: ds2 → T'.getD k undef = T.getD k undef := by
      intro d v ds2 T' h k hk
      rw [h k (fun e => hk (List.mem_cons_of_mem _ e)), Array.getD_eq_getD_getElem?, Array.getElem?_setIfInBounds, if_neg (fun e => hk (by rw [e]; exact List.mem_cons_self ..)), ← Array.getD_eq_getD_getElem?]
    simp only [evs] at h
    refine wpSeq_step fun K hK => ?_
    split at h
    · rename_i d e1 e2
      have hd := hN o (hin o (List.mem_cons_self ..)) d e1
      rw [if_neg (by rw [wantF_ok hF e2 hN]; decide), e1]
      cases e3 : evs P L l0 (T.setIfInBounds d undef) ((d, undef) :: F) hs.tail os with
      | none => rw [e3] at h; cases h
      | some p =>
        rw [e3] at h
        obtain ⟨p1, p2, p3, p4⟩ := p
        simp only [Option.map_some, Option.some.injEq, Prod.mk.injEq] at h
        obtain ⟨rfl, rfl, rfl, rfl⟩ := h
        refine hK _ _ (evs_run hS hN hin' (hF.put d undef hd) e3 hlg (fun T' h1 h2 => k T' (other d undef p2 T' h1) h2))
    · rename_i d e1 e2
      have hd := hN o (hin o (List.mem_cons_self ..)) d e1
      rw [if_pos (wantF_ok hF e2 hN)]
      split at h
      · rename_i v l1 e4
        cases e3 : evs P L l0 (T.setIfInBounds d v) ((d, v) :: F) hs.tail os with
        | none => rw [e3] at h; cases h
        | some p =>
          rw [e3] at h
          obtain ⟨p1, p2, p3, p4⟩ := p
          simp only [Option.map_some, Option.some.injEq, Prod.mk.injEq] at h
          obtain ⟨rfl, rfl, rfl, rfl⟩ := h
          obtain ⟨h1, h2⟩ := List.append_inj hlg (by simp)
          unfold Oper.wp
          rw [oneV_run hF hS e4 h1]
          show K ((⟨T, []⟩ : Act).put o.dst v) W
          rw [e1]
          exact hK _ _ (evs_run hS hN hin' (hF.put d v hd) e3 h2 (fun T' h1 h2 => k T' (other d v p2 T' h1) h2))
      · cases h
    · cases h
/-- From operation i of region r on. -/
def At (P : Program) (f : Func) (r i : Nat) (Q : Exit → Act → World → Prop) (N : Nat) (F : List (Nat × Value)) (w : World) (L : List (Nat × Obj)) (X : List Xt) : Prop :=
  dstsOk N (rops f r) = true → ∀ T W, Fq N T F → Sx w L X W → wpSeq P (rops f r) Q ((rops f r).drop i) ⟨T, []⟩ W
/-- A piece of code. -/
def Cd (P : Program) (c : Code) (Q : Exit → Act → World → Prop) (N : Nat) (F : List (Nat × Value)) (w : World) (L : List (Nat × Obj)) (X : List Xt) : Prop :=
  ∀ T W, Fq N T F → Sx w L X W → c.wp P Q ⟨T, []⟩ W
section walk
variable {P : Program} {f : Func} {r i N : Nat} {Q : Exit → Act → World → Prop} {F : List (Nat × Value)} {w : World} {L : List (Nat × Obj)} {X : List Xt}
/-- Operations from the i-th on, n of them, reckoned. -/
noncomputable def ev (P : Program) (f : Func) (r i n : Nat) (L : List (Nat × Obj)) (F : List (Nat × Value)) (hs : List Nat) (T : Array Value) := evs P L (rops f r) T F hs (((rops f r).drop i).take n)
def lone (F : List (Nat × Value)) (new : List (Nat × Value)) (ds : List Nat) : Bool := ds.all fun d => match look F d with
  | none => true
  | some _ => (look new d).isSome
noncomputable def runL (P : Program) (f : Func) (r i n : Nat) (L : List (Nat × Obj)) (F : List (Nat × Value)) (hs : List Nat) (new : List (Nat × Value)) (T : Array Value) : Option (List (Option Value) × List Nat × Bool) :=
  match ev P f r i n L F hs T with
  | some (F1, ds, l, _) => some (new.map (fun p => look F1 p.1), l, lone F new ds)
  | none => none
noncomputable def runR (P : Program) (f : Func) (r i n : Nat) (L : List (Nat × Obj)) (F : List (Nat × Value)) (hs : List Nat) (new : List (Nat × Value)) (T : Array Value) : Option (List (Option Value) × List Nat × Bool) :=
  match ev P f r i n L F hs T with
  | some (_, _, _, g) => some (new.map (fun p => some p.2), g, true)
  | none => some ([], [], true)
theorem look_app (A B : List (Nat × Value)) (k : Nat) : look (A ++ B) k = match look A k with | some v => some v | none => look B k := by
  induction A with
  | nil => rfl
  | cons p A ih =>
    obtain ⟨a, v⟩ := p
    simp only [List.cons_append, look]
    cases e : Nat.beq a k with
    | true => rfl
    | false => simpa using ih
theorem look_mem : ∀ (A : List (Nat × Value)) (k : Nat) (v : Value), look A k = some v → (k, v) ∈ A
  | [], _, _, h => by cases h
  | (a, u) :: A, k, v, h => by
    simp only [look] at h
    cases e : Nat.beq a k with
    | true =>
      rw [e] at h
      have : a = k := Nat.eq_of_beq_eq_true e
      subst this
      simp at h; subst h
      exact List.mem_cons_self ..
    | false => rw [e] at h; exact List.mem_cons_of_mem _ (look_mem A k v h)
/-- The frame behind some operations, from what is known ahead of it and what is new. -/
theorem Fq.after {T T' : Array Value} {F1 new : List (Nat × Value)} {ds : List Nat} (hF : Fq N T F) (hT : ∀ k, k ∉ ds → T'.getD k undef = T.getD k undef) (h1 : Fq N T' F1) (hn : new.map (fun p => look F1 p.1) = new.map (fun p => some p.2)) (hl : lone F new ds = true) : Fq N T' (new ++ F) :=
  ⟨h1.size, fun k v hk => by
    rw [look_app] at hk
    cases e : look new k with
    | some u =>
      rw [e] at hk
      simp only [Option.some.injEq] at hk
      subst hk
      exact h1.known k u (List.map_inj_left.1 hn _ (look_mem _ _ _ e))
    | none =>
      rw [e] at hk
      simp only at hk
      by_cases hd : k ∈ ds
      · have := List.all_eq_true.1 hl k hd
        rw [hk, e] at this; cases this
      · rw [hT k hd]; exact hF.known k v hk⟩
theorem ev_run {F1 : List (Nat × Value)} {ds l g : List Nat} {n : Nat} {hs : List Nat} {T : Array Value} {W : World} (hN : dstsOk N (rops f r) = true) (hF : Fq N T F) (hS : Sx w L X W) (h : ev P f r i n L F hs T = some (F1, ds, l, g)) (hl : l = g)
    (k : ∀ T', (∀ k, k ∉ ds → T'.getD k undef = T.getD k undef) → Fq N T' F1 → wpSeq P (rops f r) Q ((rops f r).drop (i + n)) ⟨T', []⟩ W) : wpSeq P (rops f r) Q ((rops f r).drop i) ⟨T, []⟩ W := by
  rw [← List.take_append_drop n ((rops f r).drop i), List.drop_drop]
  exact evs_run hS (dstsOk_lt hN) (fun o ho => List.mem_of_mem_drop (List.mem_of_mem_take ho)) hF h hl k
/-- Some operations that are reckoned; what is new is named. -/
theorem At.run (n : Nat) (hs : List Nat) (new : List (Nat × Value)) (k : At P f r (i + n) Q N (new ++ F) w L X)
    (hk : ∀ T, runL P f r i n L F hs new T = runR P f r i n L F hs new T := by intro T; kernel_rfl) : At P f r i Q N F w L X := by
  intro hN T W hF hS
  have h := hk T
  unfold runL runR at h
  cases e : ev P f r i n L F hs T with
  | none => rw [e] at h; cases h
  | some q =>
    obtain ⟨F1, ds, l, g⟩ := q
    rw [e] at h
    simp only [Option.some.injEq, Prod.mk.injEq] at h
    obtain ⟨h1, h2, h3⟩ := h
    exact ev_run hN hF hS e h2 (fun T' hT' h4 => k hN T' W (hF.after hT' h4 h1 h3) hS)
/-- .. of which one slot is known better. -/
theorem At.ar (n : Nat) (hs : List Nat) (d : Nat) (v v' : Value) (hv : v = v') (k : At P f r (i + n) Q N ((d, v') :: F) w L X)
    (hk : ∀ T, runL P f r i n L F hs [(d, v)] T = runR P f r i n L F hs [(d, v)] T := by intro T; kernel_rfl) : At P f r i Q N F w L X := by
  subst hv
  exact At.run n hs [(d, v)] k hk
/-- Does a function have a body that calls go into? -/
def callableF (P : Program) (f : FuncId) : Bool := match P.funcs[f]? with
  | some fn => callable fn
  | none => false
/-- The function that an operation calls, and with what. -/
def callOf (ρ : Operand → Value) (o : Oper) : Option (FuncId × Array Value) := match o.op with
  | .call c => match c.callee with
    | .value (.func f) => some (f, c.args.map ρ)
    | _ => none
  | _ => none
/-- The operation behind n that are reckoned. -/
noncomputable def opL (P : Program) (f : Func) (r i n : Nat) (L : List (Nat × Obj)) (F : List (Nat × Value)) (hs : List Nat) (T : Array Value) {β : Type} (b : List (Nat × Value) → Oper → Option β) : Option (β × List Nat × Bool × Option Bool) :=
  match ev P f r i n L F hs T, (rops f r)[i + n]? with
  | some (F1, ds, l, _), some o => match b F1 o with
    | some x => some (x, l, lone F [] ds, wantF F1 (rops f r) o)
    | none => none
  | _, _ => none
noncomputable def opE (P : Program) (f : Func) (r i n : Nat) (L : List (Nat × Obj)) (F : List (Nat × Value)) (hs : List Nat) (T : Array Value) {β : Type} (b : List (Nat × Value) → Oper → Option β) : Option (β × List Nat × Bool × Option Bool) :=
  match ev P f r i n L F hs T, (rops f r)[i + n]? with
  | some (F1, _, _, g), some o => match b F1 o with
    | some x => some (x, g, true, some true)
    | none => none
  | _, _ => none
noncomputable def opR (P : Program) (f : Func) (r i n : Nat) (L : List (Nat × Obj)) (F : List (Nat × Value)) (hs : List Nat) (T : Array Value) {β : Type} (x : β) : Option (β × List Nat × Bool × Option Bool) :=
  match ev P f r i n L F hs T with
  | some (_, _, _, g) => some (x, g, true, some true)
  | none => some (x, [], true, none)
theorem op_core {n : Nat} {hs : List Nat} {T : Array Value} {W : World} (hN : dstsOk N (rops f r) = true) (hF : Fq N T F) (hS : Sx w L X W) {F1 : List (Nat × Value)} {ds l g : List Nat} {o : Oper} (e : ev P f r i n L F hs T = some (F1, ds, l, g)) (e2 : (rops f r)[i + n]? = some o) (hlg : l = g) (hl : lone F [] ds = true) (hw : wantF F1 (rops f r) o = some true)
    (k : ∀ T', Fq N T' F → Fq N T' F1 → Region.wanted o (yielded (rops f r).toArray T') = true → (∀ d, o.dst = some d → d < N) → wpSeq P (rops f r) Q (o :: (rops f r).drop (i + n + 1)) ⟨T', []⟩ W) : wpSeq P (rops f r) Q ((rops f r).drop i) ⟨T, []⟩ W := by
  refine ev_run hN hF hS e hlg (fun T' hT' h4 => ?_)
  have hd : (rops f r).drop (i + n) = o :: (rops f r).drop (i + n + 1) := by
    obtain ⟨h1, h2⟩ := List.getElem?_eq_some_iff.1 e2
    rw [List.drop_eq_getElem_cons h1, h2]
  rw [hd]
  exact k T' (hF.after (new := []) hT' h4 rfl hl) h4 (wantF_ok h4 hw (dstsOk_lt hN)) (fun d hd => dstsOk_lt hN o (List.mem_of_getElem? e2) d hd)
theorem op_run {β : Type} {b : Array Value → List (Nat × Value) → Oper → Option β} {x : β} {n : Nat} {hs : List Nat} {T : Array Value} {W : World} (hN : dstsOk N (rops f r) = true) (hF : Fq N T F) (hS : Sx w L X W) (hk : ∀ T T', opL P f r i n L F hs T (b T') = opR P f r i n L F hs T x)
    (k : ∀ T' F1 o, Fq N T' F → Fq N T' F1 → b T' F1 o = some x → Region.wanted o (yielded (rops f r).toArray T') = true → (∀ d, o.dst = some d → d < N) → wpSeq P (rops f r) Q (o :: (rops f r).drop (i + n + 1)) ⟨T', []⟩ W) : wpSeq P (rops f r) Q ((rops f r).drop i) ⟨T, []⟩ W := by
  have h := fun T' => hk T T'
  unfold opL opR at h
  cases e : ev P f r i n L F hs T with
  | none => have := h #[]; rw [e] at this; cases e2 : (rops f r)[i + n]? <;> rw [e2] at this <;> cases this
  | some q =>
    obtain ⟨F1, ds, l, g⟩ := q
    rw [e] at h
    cases e2 : (rops f r)[i + n]? with
    | none => have := h #[]; rw [e2] at this; cases this
    | some o =>
      rw [e2] at h
      have hin : ∀ T', b T' F1 o = some x ∧ l = g ∧ lone F [] ds = true ∧ wantF F1 (rops f r) o = some true := fun T' => by
        have h1 := h T'
        simp only at h1
        cases e3 : b T' F1 o with
        | none => rw [e3] at h1; cases h1
        | some y =>
          rw [e3] at h1
          simp only [Option.some.injEq, Prod.mk.injEq] at h1
          exact ⟨congrArg some h1.1, h1.2.1, h1.2.2.1, h1.2.2.2⟩
      exact op_core hN hF hS e e2 (hin #[]).2.1 (hin #[]).2.2.1 (hin #[]).2.2.2 (fun T' h1 h2 h3 h4 => k T' F1 o h1 h2 (hin T').1 h3 h4)
theorem op_run2 {β : Type} {b b' : Array Value → List (Nat × Value) → Oper → Option β} {n : Nat} {hs : List Nat} {T : Array Value} {W : World} (hN : dstsOk N (rops f r) = true) (hF : Fq N T F) (hS : Sx w L X W) (hs1 : ∀ T T', (opL P f r i n L F hs T (b T')).isSome = true) (hk : ∀ T T', opL P f r i n L F hs T (b T') = opE P f r i n L F hs T (b' T'))
    (k : ∀ T' F1 o y, Fq N T' F → Fq N T' F1 → b T' F1 o = some y → b' T' F1 o = some y → Region.wanted o (yielded (rops f r).toArray T') = true → (∀ d, o.dst = some d → d < N) → wpSeq P (rops f r) Q (o :: (rops f r).drop (i + n + 1)) ⟨T', []⟩ W) : wpSeq P (rops f r) Q ((rops f r).drop i) ⟨T, []⟩ W := by
  have h := fun T' => hk T T'
  have h0 := fun T' => hs1 T T'
  unfold opL at h0
  unfold opL opE at h
  cases e : ev P f r i n L F hs T with
  | none => have := h0 #[]; rw [e] at this; cases e2 : (rops f r)[i + n]? <;> rw [e2] at this <;> cases this
  | some q =>
    obtain ⟨F1, ds, l, g⟩ := q
    rw [e] at h h0
    cases e2 : (rops f r)[i + n]? with
    | none => have := h0 #[]; rw [e2] at this; cases this
    | some o =>
      rw [e2] at h h0
      have hin : ∀ T', (∃ y, b T' F1 o = some y ∧ b' T' F1 o = some y) ∧ l = g ∧ lone F [] ds = true ∧ wantF F1 (rops f r) o = some true := fun T' => by
        have h1 := h T'
        have h2 := h0 T'
        simp only at h1 h2
        cases e3 : b T' F1 o with
        | none => rw [e3] at h2; cases h2
        | some y =>
          rw [e3] at h1
          cases e4 : b' T' F1 o with
          | none => rw [e4] at h1; cases h1
          | some y' =>
            rw [e4] at h1
            simp only [Option.some.injEq, Prod.mk.injEq] at h1
            exact ⟨⟨y, rfl, congrArg some h1.1.symm⟩, h1.2.1, h1.2.2.1, h1.2.2.2⟩
      refine op_core hN hF hS e e2 (hin #[]).2.1 (hin #[]).2.2.1 (hin #[]).2.2.2 (fun T' h1 h2 h3 h4 => ?_)
      obtain ⟨y, h5, h6⟩ := (hin T').1
      exact k T' F1 o y h1 h2 h5 h6 h3 h4
/-- The function that an operation calls, with what, and where its answer goes. -/
def callB (P : Program) (T : Array Value) (F : List (Nat × Value)) (o : Oper) : Option (Nat × FuncId × Array Value × Bool) := match o.dst, callOf (opd F T) o with
  | some d, some (f, vs) => some (d, f, vs, callableF P f)
  | _, _ => none
theorem call_wp {T : Array Value} {F1 : List (Nat × Value)} {o : Oper} {fid : FuncId} {vs : Array Value} {d : Nat} {W : World} {K : Act → World → Prop} (hF1 : Fq N T F1) (hb : callB P T F1 o = some (d, fid, vs, true))
    (h : Calls P fid vs W (fun e w' => ∃ v, e = .returned v ∧ K ⟨T.setIfInBounds d v, []⟩ w')) : o.wp P ⟨T, []⟩ W K Q := by
  unfold callB at hb
  split at hb
  · rename_i d' f' vs' e1 e2
    simp only [Option.some.injEq, Prod.mk.injEq] at hb
    obtain ⟨rfl, rfl, rfl, hc⟩ := hb
    unfold callOf at e2
    split at e2
    · rename_i c ho
      obtain ⟨callee, args, argTypes⟩ := c
      simp only at e2
      split at e2
      · rename_i f2
        simp only [Option.some.injEq, Prod.mk.injEq] at e2
        obtain ⟨rfl, rfl⟩ := e2
        unfold callableF at hc
        split at hc
        · rename_i fn hfn
          refine wp_call ho hfn hc (by rw [opd_eq hF1]) ?_
          rw [e1]; exact h
        · cases hc
      · cases e2
    · cases e2
  · cases hb
/-- A call that answers a known value and makes new blocks alone. -/
theorem At.call (n : Nat) (hs : List Nat) (d : Nat) {fid : FuncId} {vs : Array Value} {v : Value} (h : ∀ W, Sx w L X W → Calls P fid vs W (fun e w' => e = .returned v ∧ Below W.heap.size W w')) (k : At P f r (i + n + 1) Q N ((d, v) :: F) w L X)
    (hk : ∀ T T', opL P f r i n L F hs T (callB P T') = opR P f r i n L F hs T (d, fid, vs, true) := by intro T T'; kernel_rfl) : At P f r i Q N F w L X := by
  intro hN T W hF hS
  refine op_run hN hF hS hk (fun T' F1 o hF' hF1 hb hw hdN => ?_)
  refine wpSeq_step fun K hK => ?_
  rw [if_pos hw]
  have hd : d < N := hdN d (by unfold callB at hb; split at hb <;> simp_all)
  refine call_wp hF1 hb ((h W hS).mono ?_)
  rintro e w' ⟨rfl, hbl⟩
  exact ⟨v, rfl, hK _ _ (k hN _ w' (hF'.put d v hd) (hS.keep hbl))⟩
/-- A call that answers one of many values, each with what it says of the world. -/
theorem At.callX {ι : Type} (n : Nat) (hs : List Nat) (d : Nat) {fid : FuncId} {vs : Array Value} {V : ι → Value} {L' : ι → List (Nat × Obj)} {X' : ι → List Xt} (h : ∀ W, Sx w L X W → Calls P fid vs W (fun e w' => ∃ y, e = .returned (V y) ∧ Sx w (L' y) (X' y) w')) (k : ∀ y, At P f r (i + n + 1) Q N ((d, V y) :: F) w (L' y) (X' y))
    (hk : ∀ T T', opL P f r i n L F hs T (callB P T') = opR P f r i n L F hs T (d, fid, vs, true) := by intro T T'; kernel_rfl) : At P f r i Q N F w L X := by
  intro hN T W hF hS
  refine op_run hN hF hS hk (fun T' F1 o hF' hF1 hb hw hdN => ?_)
  refine wpSeq_step fun K hK => ?_
  rw [if_pos hw]
  have hd : d < N := hdN d (by unfold callB at hb; split at hb <;> simp_all)
  refine call_wp hF1 hb ((h W hS).mono ?_)
  rintro e w' ⟨y, rfl, hS'⟩
  exact ⟨_, rfl, hK _ _ (k y hN _ w' (hF'.put d _ hd) hS')⟩
/-- An operation that makes a block: where it goes, what it yields, what lies in the block. -/
def newB (P : Program) (g : Nat) (T : Array Value) (F : List (Nat × Value)) (o : Oper) : Option (Nat × Value × Obj) := match o.dst, symN P g (execOp (opd F T) o) with
  | some d, some (.value v, ob) => some (d, v, ob)
  | _, _ => none
theorem At.new' (n : Nat) (hs : List Nat) (d : Nat) (V : Nat → Value) (ob : Obj) (k : ∀ g, w.heap.size ≤ g → At P f r (i + n + 1) Q N ((d, V g) :: F) w ((g, ob) :: L) X)
    (hk : ∀ g T T', opL P f r i n L F hs T (newB P g T') = opR P f r i n L F hs T (d, V g, ob)) : At P f r i Q N F w L X := by
  intro hN T W hF hS
  refine op_run hN hF hS (hk W.heap.size) (fun T' F1 o hF' hF1 hb hw hdN => ?_)
  refine wpSeq_step fun K hK => ?_
  rw [if_pos hw]
  unfold newB at hb
  split at hb
  · rename_i d' v' ob' e1 e2
    simp only [Option.some.injEq, Prod.mk.injEq] at hb
    obtain ⟨rfl, rfl, rfl⟩ := hb
    unfold Oper.wp
    rw [opd_eq hF1, symN_run e2]
    show K ((⟨T', []⟩ : Act).put o.dst (V W.heap.size)) _
    rw [e1]
    exact hK _ _ (k W.heap.size hS.below.size hN _ _ (hF'.put _ _ (hdN _ e1)) (hS.alloc _))
  · cases hb
@[reducible] def pt (g : Nat) : Value := .pointer (some ⟨g, 0, none⟩)
@[reducible] def po (g o : Nat) : Value := .pointer (some ⟨g, o, none⟩)
/-- A variable is made. -/
theorem At.new (n : Nat) (hs : List Nat) (d : Nat) (cs : Array Value) (ty : TypeId) (k : ∀ g, w.heap.size ≤ g → At P f r (i + n + 1) Q N ((d, pt g) :: F) w ((g, .cells cs ty (0, 0)) :: L) X)
    (hk : ∀ g T T', opL P f r i n L F hs T (newB P g T') = opR P f r i n L F hs T (d, pt g, .cells cs ty (0, 0)) := by intro g T T'; kernel_rfl) : At P f r i Q N F w L X :=
  At.new' n hs d pt _ k hk
/-- A slice is made. -/
theorem At.sli (n : Nat) (hs : List Nat) (d len : Nat) (cs : Array Value) (ty : TypeId) (k : ∀ g, w.heap.size ≤ g → At P f r (i + n + 1) Q N ((d, .slice (some ⟨g, 0, none⟩) len len) :: F) w ((g, .cells cs ty (0, 0)) :: L) X)
    (hk : ∀ g T T', opL P f r i n L F hs T (newB P g T') = opR P f r i n L F hs T (d, .slice (some ⟨g, 0, none⟩) len len, .cells cs ty (0, 0)) := by intro g T T'; kernel_rfl) : At P f r i Q N F w L X :=
  At.new' n hs d _ _ k hk
/-- A row with other cells. -/
def setC (L : List (Nat × Obj)) (j : Nat) (cs : Array Value) : List (Nat × Obj) := match L[j]? with
  | some (g, .cells _ ty fr) => L.set j (g, .cells cs ty fr)
  | _ => L
/-- An operation that writes a row: the cells behind it, and the blocks that it touches. -/
def stB (P : Program) (L : List (Nat × Obj)) (j : Nat) (T : Array Value) (F : List (Nat × Value)) (o : Oper) : Option (Array Value × List Nat) := match o.dst, L[j]? with
  | none, some (_, .cells cs ty (0, 0)) => match symW P ty (execOp (opd F T) o) cs with
    | some (.skip, cs', l) => some (cs', l)
    | _ => none
  | _, _ => none
theorem Sx.only {W W' : World} (h : Sx w L X W) (j : Nat) {g : Nat} {o o' : Obj} (hj : L[j]? = some (g, o)) (hg : w.heap.size ≤ g) (ho : OnlyAt g W W') (hn : W'.heap[g]? = some o') : Sx w (L.set j (g, o')) X W' :=
  h.write j hj o' (h.below.trans ⟨ho.os, ho.tape, ho.output, Nat.le_of_eq ho.size.symm, fun b hb => ho.other b (by omega)⟩) (Nat.le_of_eq ho.size.symm) (fun b hb _ => ho.other b hb) hn
/-- A row is written. -/
theorem At.st (n : Nat) (hs : List Nat) (j : Nat) (cs : Array Value) (hg : w.heap.size ≤ gAt L j) (k : At P f r (i + n + 1) Q N F w (setC L j cs) X)
    (hk : ∀ T T', opL P f r i n L F hs T (stB P L j T') = opE P f r i n L F hs T (fun F o => (stB P L j T' F o).map fun q => (cs, q.2.map fun _ => gAt L j)) := by intro T T'; kernel_rfl)
    (h1 : ∀ T T', (opL P f r i n L F hs T (stB P L j T')).isSome = true := by intro T T'; kernel_rfl) : At P f r i Q N F w L X := by
  intro hN T W hF hS
  refine op_run2 hN hF hS h1 hk (fun T' F1 o y hF' hF1 hb hb' hw hdN => ?_)
  refine wpSeq_step fun K hK => ?_
  rw [if_pos hw]
  rw [hb] at hb'
  simp only [Option.map_some, Option.some.injEq] at hb'
  unfold stB at hb
  split at hb
  · rename_i g cs0 ty e1 e2
    split at hb
    · rename_i cs' l e3
      cases hb
      simp only [Prod.mk.injEq] at hb'
      obtain ⟨rfl, hl⟩ := hb'
      have hgj : gAt L j = g := by unfold gAt; rw [e2]
      obtain ⟨W', r1, r2, r3⟩ := symW_run (W := W) e3 (fun b hb => by
        rw [← hl] at hb
        obtain ⟨_, _, h⟩ := List.mem_map.1 hb
        exact h.symm.trans hgj) (hS.rows _ (List.mem_of_getElem? e2))
      unfold Oper.wp
      rw [opd_eq hF1, r1]
      show K ((⟨T', []⟩ : Act).put o.dst undef) _
      rw [e1]
      refine hK _ _ (k hN _ _ hF' ?_)
      unfold setC
      rw [e2]
      exact hS.only j e2 (hgj ▸ hg) r2 r3
    · cases hb
  · cases hb
/-- Nothing is left of a region. -/
theorem At.fin (k : ∀ T W, Fq N T F → Sx w L X W → Q .normal ⟨T, []⟩ W) (h : (rops f r).drop i = [] := by kernel_rfl) : At P f r i Q N F w L X := by
  intro _ T W hF hS
  rw [h]
  exact k T W hF hS
/-- .. and what is behind it is code. -/
theorem At.nx {c : Code} (k : Cd P c Q N F w L X) (h : (rops f r).drop i = [] := by kernel_rfl) : At P f r i (Exit.then (c.wp P Q) Q) N F w L X := At.fin (fun T W hF hS => k T W hF hS) h
/-- Something of what is known of the world is said in another way. -/
theorem At.as {L' : List (Nat × Obj)} {X' : List Xt} (h : ∀ W, Sx w L X W → Sx w L' X' W) (k : At P f r i Q N F w L' X') : At P f r i Q N F w L X := fun hN T W hF hS => k hN T W hF (h W hS)
theorem Cd.as {c : Code} {L' : List (Nat × Obj)} {X' : List Xt} (h : ∀ W, Sx w L X W → Sx w L' X' W) (k : Cd P c Q N F w L' X') : Cd P c Q N F w L X := fun T W hF hS => k T W hF (h W hS)
/-- A fact of the world at hand. -/
theorem At.fact {p : Prop} (h : ∀ W, Sx w L X W → p) (k : p → At P f r i Q N F w L X) : At P f r i Q N F w L X := fun hN T W hF hS => k (h W hS) hN T W hF hS
theorem Cd.fact {c : Code} {p : Prop} (h : ∀ W, Sx w L X W → p) (k : p → Cd P c Q N F w L X) : Cd P c Q N F w L X := fun T W hF hS => k (h W hS) T W hF hS
theorem Cd.rg (k : At P f r 0 Q N F w L X) (h : rdrawn f r = some false := by kernel_rfl) (hN : dstsOk N (rops f r) = true := by kernel_rfl) : Cd P (rgn f r) Q N F w L X := fun T W hF hS => rgn_plain h (k hN T W hF hS)
theorem Cd.seq {a b : Code} (k : Cd P a (Exit.then (b.wp P Q) Q) N F w L X) : Cd P (.seq a b) Q N F w L X := fun T W hF hS => wp_seq (k T W hF hS)
/-- A plain region, and code behind it. -/
theorem Cd.sr {c : Code} (k : At P f r 0 (Exit.then (c.wp P Q) Q) N F w L X) (h : rdrawn f r = some false := by kernel_rfl) (hN : dstsOk N (rops f r) = true := by kernel_rfl) : Cd P (.seq (rgn f r) c) Q N F w L X := .seq (.rg k h hN)
theorem eval_known {T : Array Value} {j : Nat} {v : Value} (hF : Fq N T F) (h : look F j = some v) : (⟨T, []⟩ : Act).eval (.tmp j) = v := hF.known _ _ h
theorem Cd.ct {a b : Code} {j : Nat} (k : Cd P a Q N F w L X) (h : look F j = some (.bool true) := by kernel_rfl) : Cd P (.cond (.tmp j) a b) Q N F w L X := fun T W hF hS => wp_cond_true (eval_known hF h) (k T W hF hS)
theorem Cd.cf {a b : Code} {j : Nat} (k : Cd P b Q N F w L X) (h : look F j = some (.bool false) := by kernel_rfl) : Cd P (.cond (.tmp j) a b) Q N F w L X := fun T W hF hS => wp_cond_false (eval_known hF h) (k T W hF hS)
theorem Cd.sk (k : ∀ T W, Fq N T F → Sx w L X W → Q .normal ⟨T, []⟩ W) : Cd P .skip Q N F w L X := fun T W hF hS => wp_skip (k T W hF hS)
theorem Cd.blk {c : Code} {id : Nat} (k : Cd P c (Exit.inBlock id Q) N F w L X) : Cd P (.block id c) Q N F w L X := fun T W hF hS => wp_block (k T W hF hS)
theorem Cd.ex {id : Nat} (k : ∀ T W, Fq N T F → Sx w L X W → Q (.exit id) ⟨T, []⟩ W) : Cd P (.exit id) Q N F w L X := fun T W hF hS => wp_exit (k T W hF hS)
/-- A slot is known in another way. -/
theorem At.eqv (j : Nat) (v v' : Value) (h : v = v') (k : At P f r i Q N ((j, v') :: F) w L X) (hj : look F j = some v := by kernel_rfl) : At P f r i Q N F w L X := by
  intro hN T W hF hS
  refine k hN T W ⟨hF.size, fun a u ha => ?_⟩ hS
  simp only [look] at ha
  cases e : Nat.beq j a with
  | true => rw [e] at ha; simp at ha; subst ha; subst h; rw [← Nat.eq_of_beq_eq_true e]; exact hF.known _ _ hj
  | false => rw [e] at ha; exact hF.known _ _ ha
theorem Cd.eqv {c : Code} (j : Nat) (v v' : Value) (h : v = v') (k : Cd P c Q N ((j, v') :: F) w L X) (hj : look F j = some v := by kernel_rfl) : Cd P c Q N F w L X := by
  intro T W hF hS
  refine k T W ⟨hF.size, fun a u ha => ?_⟩ hS
  simp only [look] at ha
  cases e : Nat.beq j a with
  | true => rw [e] at ha; simp at ha; subst ha; subst h; rw [← Nat.eq_of_beq_eq_true e]; exact hF.known _ _ hj
  | false => rw [e] at ha; exact hF.known _ _ ha
/-- What holds when a round has come to its end. -/
def again {ι : Type} (m : ι → Nat) (Fi : ι → List (Nat × Value)) (w : World) (Li : ι → List (Nat × Obj)) (Xi : ι → List Xt) (N : Nat) (i : ι) (a : Act) (W : World) : Prop := ∃ j, m j < m i ∧ ∃ T, a = ⟨T, []⟩ ∧ Fq N T (Fi j) ∧ Sx w (Li j) (Xi j) W
theorem Fq.sub {T : Array Value} {F' : List (Nat × Value)} (h : Fq N T F) (hk : F'.map (fun p => look F p.1) = F'.map (fun p => some p.2)) : Fq N T F' :=
  ⟨h.size, fun k v hv => h.known k v (List.map_inj_left.1 hk _ (look_mem _ _ _ hv))⟩
/-- A loop whose rounds have letters, and a number that falls. -/
theorem Cd.loop {c : Code} {ι : Type} (m : ι → Nat) (Fi : ι → List (Nat × Value)) (Li : ι → List (Nat × Obj)) (Xi : ι → List Xt) (i0 : ι) (hS0 : ∀ W, Sx w L X W → Sx w (Li i0) (Xi i0) W) (step : ∀ i, Cd P c (Exit.then (again m Fi w Li Xi N i) Q) N (Fi i) w (Li i) (Xi i))
    (hF0 : (Fi i0).map (fun p => look F p.1) = (Fi i0).map (fun p => some p.2) := by kernel_rfl) : Cd P (.loop c) Q N F w L X := by
  intro T W hF hS
  refine wp_loop_ghost (fun n a W => ∃ i, n = m i ∧ ∃ T, a = ⟨T, []⟩ ∧ Fq N T (Fi i) ∧ Sx w (Li i) (Xi i) W) (m i0) ⟨i0, rfl, T, rfl, hF.sub hF0, hS0 W hS⟩ ?_
  rintro n a W ⟨i, rfl, T, rfl, hF, hS⟩
  refine wp_mono (step i T W hF hS) ?_
  intro e a' W' h
  cases e with
  | normal =>
    obtain ⟨j, hlt, T', ha, h1, h2⟩ := h
    exact ⟨m j, hlt, j, rfl, T', ha, h1, h2⟩
  | _ => exact h
theorem again_of {ι : Type} {m : ι → Nat} {Fi : ι → List (Nat × Value)} {Li : ι → List (Nat × Obj)} {Xi : ι → List Xt} {i : ι} (j : ι) (hlt : m j < m i) (hS : ∀ W, Sx w L X W → Sx w (Li j) (Xi j) W) (hk : (Fi j).map (fun p => look F p.1) = (Fi j).map (fun p => some p.2) := by kernel_rfl) : ∀ T W, Fq N T F → Sx w L X W → Exit.then (again m Fi w Li Xi N i) Q .normal ⟨T, []⟩ W :=
  fun T W hF h => ⟨j, hlt, T, rfl, hF.sub hk, hS W h⟩
/-- An operation on two values that isn't reckoned. -/
def binB (T : Array Value) (F : List (Nat × Value)) (o : Oper) : Option (Nat × Bool × BinOp × Value × Value) := match o.dst, o.op with
  | some d, .binOp op _ x y _ => some (d, (match op with | .eql | .neq => false | _ => true), op, opd F T x, opd F T y)
  | _, _ => none
theorem At.bin (n : Nat) (hs : List Nat) (d : Nat) (op : BinOp) (x y v : Value) (hv : ∀ t W, (binOp op t x y).run P W = .ok v W) (k : At P f r (i + n + 1) Q N ((d, v) :: F) w L X)
    (hk : ∀ T T', opL P f r i n L F hs T (binB T') = opR P f r i n L F hs T (d, true, op, x, y) := by intro T T'; kernel_rfl) : At P f r i Q N F w L X := by
  intro hN T W hF hS
  refine op_run hN hF hS hk (fun T' F1 o hF' hF1 hb hw hdN => ?_)
  refine wpSeq_step fun K hK => ?_
  rw [if_pos hw]
  unfold binB at hb
  split at hb
  · rename_i d' op' t x' y' ty e1 e2
    simp only [Option.some.injEq, Prod.mk.injEq] at hb
    obtain ⟨rfl, hop, rfl, rfl, rfl⟩ := hb
    have hg : (eqGuard op' t x' y' (opd F1 T' x') (opd F1 T' y')).run P W = .ok () W := by
      unfold eqGuard
      cases op' <;> first | rfl | cases hop
    unfold Oper.wp
    rw [opd_eq hF1]
    unfold execOp
    simp only [e2, Sem.run_bind, hg, Result.andThen_ok, hv]
    show K ((⟨T', []⟩ : Act).put o.dst v) W
    rw [e1]
    exact hK _ _ (k hN _ W (hF'.put _ v (hdN _ e1)) hS)
  · cases hb
/-- An address in an array or a slice, at a place that isn't a literal. -/
def ixB (P : Program) (T : Array Value) (F : List (Nat × Value)) (o : Oper) : Option (Nat × Option Nat × Nat × Value × Value) := match o.dst, o.op with
  | some d, .indexAddr t x y => match P.underlying t with
    | some (.array len e) => match symR P #[] 0 (sizeOf e) with
      | some (s, []) => some (d, some len, s, opd F T x, opd F T y)
      | _ => none
    | some (.slice e) => match symR P #[] 0 (sizeOf e) with
      | some (s, []) => some (d, none, s, opd F T x, opd F T y)
      | _ => none
    | _ => none
  | _, _ => none
theorem At.ixa (n : Nat) (hs : List Nat) (d len s g o : Nat) (k' : IntKind) (m : Nat) (hm : m < len) (k : At P f r (i + n + 1) Q N ((d, po g (o + m * s)) :: F) w L X)
    (hk : ∀ T T', opL P f r i n L F hs T (ixB P T') = opR P f r i n L F hs T (d, some len, s, po g o, .int k' (m : Int)) := by intro T T'; kernel_rfl) : At P f r i Q N F w L X := by
  intro hN T W hF hS
  refine op_run hN hF hS hk (fun T' F1 op hF' hF1 hb hw hdN => ?_)
  refine wpSeq_step fun K hK => ?_
  rw [if_pos hw]
  unfold ixB at hb
  split at hb
  · rename_i d' t x' y' e1 e2
    split at hb
    · rename_i len' e hu
      split at hb
      · rename_i s' e3
        simp only [Option.some.injEq, Prod.mk.injEq] at hb
        obtain ⟨rfl, rfl, rfl, hx, hy⟩ := hb
        have hadd : (⟨g, o, none⟩ : Addr).add (m * s') = ⟨g, o + m * s', none⟩ := by unfold Addr.add; split <;> simp_all
        unfold Oper.wp
        rw [opd_eq hF1]
        unfold execOp
        simp [e2, hx, hy, Instr.indexAt, asIntOf, run_underlying hu, sym0_run e3, Instr.sureAddr, hm, hadd]
        show K ((⟨T', []⟩ : Act).put op.dst _) W
        rw [e1]
        exact hK _ _ (k hN _ W (hF'.put _ _ (hdN _ e1)) hS)
      · cases hb
    · split at hb
      · simp at hb
      · cases hb
    · cases hb
  · cases hb
theorem At.ixs (n : Nat) (hs : List Nat) (d s g o l c : Nat) (k' : IntKind) (m : Nat) (hm : m < l) (k : At P f r (i + n + 1) Q N ((d, po g (o + m * s)) :: F) w L X)
    (hk : ∀ T T', opL P f r i n L F hs T (ixB P T') = opR P f r i n L F hs T (d, none, s, .slice (some ⟨g, o, none⟩) l c, .int k' (m : Int)) := by intro T T'; kernel_rfl) : At P f r i Q N F w L X := by
  intro hN T W hF hS
  refine op_run hN hF hS hk (fun T' F1 op hF' hF1 hb hw hdN => ?_)
  refine wpSeq_step fun K hK => ?_
  rw [if_pos hw]
  unfold ixB at hb
  split at hb
  · rename_i d' t x' y' e1 e2
    split at hb
    · split at hb
      · simp at hb
      · cases hb
    · rename_i e hu
      split at hb
      · rename_i s' e3
        simp only [Option.some.injEq, Prod.mk.injEq] at hb
        obtain ⟨rfl, -, rfl, hx, hy⟩ := hb
        have hadd : (⟨g, o, none⟩ : Addr).add (m * s') = ⟨g, o + m * s', none⟩ := by unfold Addr.add; split <;> simp_all
        unfold Oper.wp
        rw [opd_eq hF1]
        unfold execOp
        simp [e2, hx, hy, Instr.indexAt, asIntOf, run_underlying hu, sym0_run e3, hm, hadd]
        show K ((⟨T', []⟩ : Act).put op.dst _) W
        rw [e1]
        exact hK _ _ (k hN _ W (hF'.put _ _ (hdN _ e1)) hS)
      · cases hb
    · cases hb
  · cases hb
/-- A cell is read at a place that isn't a literal. -/
def ldB (P : Program) (T : Array Value) (F : List (Nat × Value)) (o : Oper) : Option (Nat × Value × Bool) := match o.dst, o.op with
  | some d, .load t x => match P.underlying t with
    | some dd => some (d, opd F T x, match dd with | .struct _ | .array _ _ => false | _ => true)
    | none => none
  | _, _ => none
theorem At.ld (n : Nat) (hs : List Nat) (d g o : Nat) (v : Value) (hc : ∀ W, Sx w L X W → W.cell? ⟨g, o, none⟩ = some v) (k : At P f r (i + n + 1) Q N ((d, v) :: F) w L X)
    (hk : ∀ T T', opL P f r i n L F hs T (ldB P T') = opR P f r i n L F hs T (d, po g o, true) := by intro T T'; kernel_rfl) : At P f r i Q N F w L X := by
  intro hN T W hF hS
  refine op_run hN hF hS hk (fun T' F1 op hF' hF1 hb hw hdN => ?_)
  refine wpSeq_step fun K hK => ?_
  rw [if_pos hw]
  unfold ldB at hb
  split at hb
  · rename_i d' t x' e1 e2
    split at hb
    · rename_i dd hu
      simp only [Option.some.injEq, Prod.mk.injEq] at hb
      obtain ⟨rfl, hx, hdd⟩ := hb
      refine wp_ld e2 ((congrFun (opd_eq hF1) x').trans hx) hu (by cases dd <;> exact hdd) (hc W hS) ?_
      rw [e1]
      exact hK _ _ (k hN _ W (hF'.put _ v (hdN _ e1)) hS)
    · cases hb
  · cases hb
theorem run_shr {P : Program} {k k' : IntKind} {m : Int} {n : Nat} (t : TypeId) (W : World) : (binOp .shr t (.int k m) (.int k' (n : Int))).run P W = .ok (.int k (m.fdiv (2 ^ min n k.bits))) W := by
  simp [binOp, Op.shift]; omega
/-- Ways that meet again: what is behind them is walked once. -/
def joined {ι : Type} (F0 : ι → List (Nat × Value)) (w : World) (L0 : ι → List (Nat × Obj)) (X0 : ι → List Xt) (N : Nat) (a : Act) (W : World) : Prop := ∃ i, ∃ T, a = ⟨T, []⟩ ∧ Fq N T (F0 i) ∧ Sx w (L0 i) (X0 i) W
theorem Cd.seqj {a b : Code} {ι : Type} (F0 : ι → List (Nat × Value)) (L0 : ι → List (Nat × Obj)) (X0 : ι → List Xt) (rest : ∀ i, Cd P b Q N (F0 i) w (L0 i) (X0 i)) (arm : Cd P a (Exit.then (joined F0 w L0 X0 N) Q) N F w L X) : Cd P (.seq a b) Q N F w L X := by
  intro T W hF hS
  refine wp_seq (wp_mono (arm T W hF hS) ?_)
  intro e a' W' h
  cases e with
  | normal =>
    obtain ⟨i, T', rfl, h1, h2⟩ := h
    exact rest i T' W' h1 h2
  | _ => exact h
theorem join_of {ι : Type} {F0 : ι → List (Nat × Value)} {L0 : ι → List (Nat × Obj)} {X0 : ι → List Xt} (i : ι) (hS : ∀ W, Sx w L X W → Sx w (L0 i) (X0 i) W) (hk : (F0 i).map (fun p => look F p.1) = (F0 i).map (fun p => some p.2) := by kernel_rfl) : ∀ T W, Fq N T F → Sx w L X W → Exit.then (joined F0 w L0 X0 N) Q .normal ⟨T, []⟩ W :=
  fun T W hF h => ⟨i, T, rfl, hF.sub hk, hS W h⟩
/-- One result: its value, and the blocks that are read, each with what it is to be. -/
def resOne (P : Program) (F : List (Nat × Value)) (L : List (Nat × Obj)) (j : Nat) : ResultVar → Option (Value × List Nat × List Nat)
  | .tmp t => (look F t).map fun v => (v, [], [])
  | .cell a t => match look F a, L[j]? with
    | some v, some (g, .cells cs ty _) => match symR P cs ty (do loadVar t (← asAddr v)) with
      | some (x, l) => some (x, l, l.map fun _ => g)
      | none => none
    | _, _ => none
def resAll (P : Program) (F : List (Nat × Value)) (L : List (Nat × Obj)) : List Nat → List ResultVar → Option (List Value × List Nat × List Nat)
  | _, [] => some ([], [], [])
  | hs, x :: xs => match resOne P F L (hs.headD 0) x, resAll P F L hs.tail xs with
    | some (v, l, g), some (vs, l2, g2) => some (v :: vs, l ++ l2, g ++ g2)
    | _, _ => none
def resSem (T : Array Value) : ResultVar → Sem Value
  | .tmp t => pure (T.getD t undef)
  | .cell a t => do loadVar t (← asAddr (T.getD a undef))
theorem resOne_run {T : Array Value} {W : World} {j : Nat} {x : ResultVar} {v : Value} {l g : List Nat} (hF : Fq N T F) (hS : Sx w L X W) (h : resOne P F L j x = some (v, l, g)) (hl : l = g) :
    Sem.run P (resSem T x) W = .ok v W := by
  cases x with
  | tmp t =>
    simp only [resOne] at h
    cases e : look F t with
    | none => rw [e] at h; cases h
    | some u => rw [e] at h; cases h; simp only [resSem]; rw [hF.known _ _ e]; rfl
  | cell a t =>
    simp only [resOne] at h
    split at h
    · rename_i u gg cs ty fr e1 e2
      split at h
      · rename_i x' l' e3
        cases h
        simp only [resSem]
        rw [hF.known _ _ e1]
        exact symR_run (fr := fr) e3 (fun b hb => by
          rw [hl] at hb
          obtain ⟨_, _, h⟩ := List.mem_map.1 hb
          exact h.symm) (Or.inr (hS.rows _ (List.mem_of_getElem? e2)))
      · cases h
    · cases h
theorem resAll_len {xs : List ResultVar} : ∀ {hs : List Nat} {vs : List Value} {l g : List Nat}, resAll P F L hs xs = some (vs, l, g) → l.length = g.length := by
  induction xs with
  | nil => intro hs vs l g h; cases h; rfl
  | cons x xs ih =>
    intro hs vs l g h
    simp only [resAll] at h
    split at h
    · rename_i v l1 g1 vs2 l2 g2 e1 e2
      cases h
      have h2 := ih e2
      have h1 : l1.length = g1.length := by
        cases x with
        | tmp t => simp only [resOne] at e1; cases e : look F t <;> rw [e] at e1 <;> cases e1; rfl
        | cell a t =>
          simp only [resOne] at e1
          split at e1
          · split at e1
            · cases e1; simp
            · cases e1
          · cases e1
      simp [h1, h2]
    · cases h
theorem resAll_run {T : Array Value} {W : World} (hF : Fq N T F) (hS : Sx w L X W) : ∀ {xs : List ResultVar} {hs : List Nat} {vs : List Value} {l g : List Nat}, resAll P F L hs xs = some (vs, l, g) → l = g →
    Sem.run P (xs.mapM (resSem T)) W = .ok vs W
  | [], hs, vs, l, g, h, _ => by cases h; rfl
  | x :: xs, hs, vs, l, g, h, hl => by
    simp only [resAll] at h
    split at h
    · rename_i v l1 g1 vs2 l2 g2 e1 e2
      cases h
      have hlen := resAll_len e2
      obtain ⟨h1, h2⟩ := List.append_inj' hl hlen
      rw [List.mapM_cons]
      simp only [Sem.run_bind, resOne_run hF hS e1 h1, Result.andThen_ok, resAll_run hF hS e2 h2]
      rfl
    · cases h
def oneOf : List Value → Value
  | [v] => v
  | vs => .tuple vs.toArray
theorem results_run {fn : Func} {T : Array Value} {W : World} {hs : List Nat} {vs : List Value} {l g : List Nat} (hF : Fq N T F) (hS : Sx w L X W) (h : resAll P F L hs fn.results.toList = some (vs, l, g)) (hl : l = g) : (results fn T).run P W = .ok (oneOf vs) W := by
  have e : results fn T = (do let vs ← fn.results.mapM (resSem T); pure (if h : vs.size = 1 then vs[0] else .tuple vs)) := by
    unfold results
    congr 1
  rw [e, Sem.run_bind, Array.mapM_eq_mapM_toList, map_eq_pure_bind, Sem.run_bind, resAll_run hF hS h hl]
  simp only [Result.andThen_ok, Sem.run_pure]
  congr 1
  match vs with
  | [] => rfl
  | [v] => rfl
  | v :: u :: vs => simp [oneOf]
theorem r0 {fn : Func} {R : Ending → World → Prop} : ∀ a w, bodyPost P fn R .ret a w → bodyPost P fn R .ret a w := fun _ _ h => h
theorem rt {B : Act → World → Prop} {K : Act → World → Prop} (h : ∀ a w, B a w → Q .ret a w) : ∀ a w, B a w → Exit.then K Q .ret a w := h
theorem rb {B : Act → World → Prop} {id : Nat} (h : ∀ a w, B a w → Q .ret a w) : ∀ a w, B a w → Exit.inBlock id Q .ret a w := h
/-- The end of a function: what it answers. -/
theorem Cd.rv {fn : Func} {R : Ending → World → Prop} (hQ : ∀ a w, bodyPost P fn R .ret a w → Q .ret a w) (hs : List Nat) (v : Value) (h : ∀ W, Sx w L X W → R (.returned v) W)
    (hk : (resAll P F L hs fn.results.toList).map (fun q => (oneOf q.1, q.2.1)) = (resAll P F L hs fn.results.toList).map (fun q => (v, q.2.2)) := by kernel_rfl) (hs1 : (resAll P F L hs fn.results.toList).isSome = true := by kernel_rfl) : Cd P .ret Q N F w L X := by
  intro T W hF hS
  refine wp_ret (hQ _ _ ?_)
  cases e : resAll P F L hs fn.results.toList with
  | none => rw [e] at hs1; cases hs1
  | some q =>
    obtain ⟨vs, l, g⟩ := q
    rw [e] at hk
    simp only [Option.map_some, Option.some.injEq, Prod.mk.injEq] at hk
    obtain ⟨h1, h2⟩ := hk
    exact ⟨rfl, _, results_run hF hS e h2, h1 ▸ h W hS⟩
/-- A function's walk. -/
theorem enterQ {fid : FuncId} {fn : Func} {args : Array Value} {R : Ending → World → Prop} (N : Nat) (K : (Nat → Code) → Code) (hS : Sx w L X w) (hf : P.funcs[fid]? = some fn) (k : Cd P (K (rgn fn)) (bodyPost P fn R) N (args.toList.zipIdx.map fun p => (p.2, p.1)) w L X)
    (hb : fn.body = some (K (rgn fn)) := by kernel_rfl) (hN : args.size + (fn.ntmps - args.size) = N := by kernel_rfl) : Calls P fid args w R :=
  calls_of_wp hf hb (k _ w ⟨by rw [← hN]; simp, fun j v hj => by
    have hm := look_mem _ _ _ hj
    obtain ⟨p, hp, he⟩ := List.mem_map.1 hm
    cases he
    obtain ⟨h1, h2, h3⟩ := List.mem_zipIdx hp
    simp only [Nat.sub_zero] at h3
    have h2 : p.2 < args.size := by simpa using h2
    rw [Array.getD_eq_getD_getElem?, Array.getElem?_append_left h2, h3]
    simp [h2]⟩ hS)
end walk
end Go.Proofs.Ytbaifchbpnmkpaa
