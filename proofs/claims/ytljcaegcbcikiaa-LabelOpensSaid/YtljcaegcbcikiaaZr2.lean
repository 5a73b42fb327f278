/-
  Texts Hg, Hi, Hj, Hu, Hp, Ia, Ib, Id, Sp, Tb, Ta, Tc, Te, Tf, Th, Ya of the claim, merged. (Printed by shake.py.)
-/
import Derived.Test.YtljcaegcbcikiaaZr1
namespace Go.Proofs.Ytljcaegcbcikiaa
open Go.RowKit
/-- Eight words as cells, written out. -/
@[reducible] def st8 (st : List Nat) : Array Value := #[.int .u32 ((nth st 0 : Nat) : Int), .int .u32 ((nth st 1 : Nat) : Int), .int .u32 ((nth st 2 : Nat) : Int), .int .u32 ((nth st 3 : Nat) : Int), .int .u32 ((nth st 4 : Nat) : Int), .int .u32 ((nth st 5 : Nat) : Int), .int .u32 ((nth st 6 : Nat) : Int), .int .u32 ((nth st 7 : Nat) : Int)]
theorem agg8 (st : List Nat) (h : st.length = 8) : wcells .u32 st = st8 st := by
  match st, h with
  | [_, _, _, _, _, _, _, _], _ => rfl
/-- A hasher's row. -/
@[reducible] def hhrow (st : List Nat) (v : Value) (m : Nat) : Obj := .cells #[.int .u32 ((nth st 0 : Nat) : Int), .int .u32 ((nth st 1 : Nat) : Int), .int .u32 ((nth st 2 : Nat) : Int), .int .u32 ((nth st 3 : Nat) : Int), .int .u32 ((nth st 4 : Nat) : Int), .int .u32 ((nth st 5 : Nat) : Int), .int .u32 ((nth st 6 : Nat) : Int), .int .u32 ((nth st 7 : Nat) : Int), v, .int .u64 ((m : Nat) : Int)] 97
@[reducible] def hptr (g : Nat) : Value := .pointer (some ⟨g, 0, none⟩)
theorem HL_len : HL.length = 8 := rfl
set_option maxHeartbeats 1000000 in
theorem new_c (w : World) : Calls Try.prog 43 #[] w fun e w' => ∃ hg, e = .returned (hptr hg) ∧ Hid (w'.heap[hg]? = some (hhrow HL (.slice none 0 0) 0)) ∧ Hid (w.heap.size ≤ hg) ∧ Below w.heap.size w w' := by
  have CF : Hid (∀ W, Calls Try.prog 50 #[] W fun e w' => e = .returned (.agg #[.int .u32 1779033703, .int .u32 3144134277, .int .u32 1013904242, .int .u32 2773480762, .int .u32 1359893119, .int .u32 2600822924, .int .u32 528734635, .int .u32 1541459225]) ∧ Below W.heap.size W w') := fun W => by
    have := first_c W; rwa [← first_row] at this
  go_enter Try.func43, Try.ntmps43
  go_wp2_with fail
  refine (CF.out _).mono ?_
  rintro e W1 ⟨rfl, hb⟩
  have hs := hb.size
  have S1 := ((St.nil w).keep hb).alloc (hhrow HL (.slice none 0 0) 0) _ rfl
  clear hb
  go_wp2_with fail
  go_ret
  exact ⟨_, rfl, S1.get (List.Mem.head _), hs, S1.below⟩
/-- A piece: bytes in a block of S. -/
def PieceS (W : World) (S : Nat → Prop) (xv : Value) (ys : List Nat) : Prop :=
  ((∃ a c, xv = .slice a 0 c) ∧ ys = []) ∨ ∃ b o c, S b ∧ xv = .slice (some ⟨b, o, none⟩) ys.length c ∧ ∀ i, i < ys.length → W.cell? ⟨b, o + i, none⟩ = some (.int .u8 ((nth ys i : Nat) : Int))
/-- .. below B. -/
@[reducible] def PieceV (W : World) (B : Nat) (xv : Value) (ys : List Nat) : Prop := PieceS W (fun b => b < B) xv ys
theorem PieceS.src {W : World} {S : Nat → Prop} {xv : Value} {ys : List Nat} (h : PieceS W S xv ys) : SrcB W xv ys := by
  rcases h with ⟨⟨a, c, rfl⟩, rfl⟩ | ⟨b, o, c, -, rfl, h⟩
  · cases a with
    | none => exact srcB_nil W c
    | some a => exact Src.ofSlice (w := W) Try.underlying26 a 0 c _ rfl (fun j u hj => by simp [bcells] at hj) (fun u hu => by simp [bcells] at hu)
  · exact srcB_slice W b o c ys h
theorem PieceS.shape {W : World} {S : Nat → Prop} {xv : Value} {ys : List Nat} (h : PieceS W S xv ys) : ∃ a c, xv = .slice a ys.length c := by
  rcases h with ⟨⟨a, c, rfl⟩, rfl⟩ | ⟨b, o, c, -, rfl, -⟩
  · exact ⟨_, _, rfl⟩
  · exact ⟨_, _, rfl⟩
theorem PieceV.src {W : World} {B : Nat} {xv : Value} {ys : List Nat} (h : PieceV W B xv ys) : SrcB W xv ys := PieceS.src h
theorem PieceV.shape {W : World} {B : Nat} {xv : Value} {ys : List Nat} (h : PieceV W B xv ys) : ∃ a c, xv = .slice a ys.length c := PieceS.shape h
/-- Pieces, in a list of S. -/
structure PcsS (W : World) (S : Nat → Prop) (lv : Value) (pss : List (List Nat)) : Prop where
  le : ∀ b, S b → b < W.heap.size
  shape : ((∃ a c, lv = .slice a 0 c) ∧ pss = []) ∨ ∃ lb lo c, S lb ∧ lv = .slice (some ⟨lb, lo, none⟩) pss.length c ∧ ∀ i ys, pss[i]? = some ys → ∃ xv, W.cell? ⟨lb, lo + i, none⟩ = some xv ∧ PieceS W S xv ys
@[reducible] def Pcs (W : World) (B : Nat) (lv : Value) (pss : List (List Nat)) : Prop := PcsS W (fun b => b < B) lv pss
theorem Keeps.cell {F : Nat → Prop} {W W' : World} (k : Keeps F W W') {b o : Nat} (hb : b < W.heap.size) (hF : ¬ F b) : W'.cell? ⟨b, o, none⟩ = W.cell? ⟨b, o, none⟩ := World.cell?_of_block (a := ⟨b, o, none⟩) (k.block b hb hF)
theorem PieceS.keep {W W' : World} {S : Nat → Prop} {xv : Value} {ys : List Nat} {F : Nat → Prop} (h : PieceS W S xv ys) (hS : ∀ b, S b → b < W.heap.size) (k : Keeps F W W') (hF : ∀ b, S b → ¬ F b) : PieceS W' S xv ys := by
  rcases h with h | ⟨b, o, c, hb, rfl, h⟩
  · exact Or.inl h
  · exact Or.inr ⟨b, o, c, hb, rfl, fun i hi => (k.cell (hS b hb) (hF b hb)).trans (h i hi)⟩
theorem PieceV.keep {W W' : World} {B : Nat} {xv : Value} {ys : List Nat} {F : Nat → Prop} (h : PieceV W B xv ys) (hB : B ≤ W.heap.size) (k : Keeps F W W') (hF : ∀ b, b < B → ¬ F b) : PieceV W' B xv ys := PieceS.keep h (fun _ hb => Nat.lt_of_lt_of_le hb hB) k hF
theorem PcsS.keep {W W' : World} {S : Nat → Prop} {lv : Value} {pss : List (List Nat)} {F : Nat → Prop} (h : PcsS W S lv pss) (k : Keeps F W W') (hF : ∀ b, S b → ¬ F b) : PcsS W' S lv pss := by
  refine ⟨fun b hb => Nat.lt_of_lt_of_le (h.le b hb) k.size, ?_⟩
  have hle := h.le
  rcases h.shape with h1 | ⟨lb, lo, c, hb, rfl, h2⟩
  · exact Or.inl h1
  · refine Or.inr ⟨lb, lo, c, hb, rfl, fun i ys hi => ?_⟩
    obtain ⟨xv, h3, h4⟩ := h2 i ys hi
    exact ⟨xv, (k.cell (hle lb hb) (hF lb hb)).trans h3, h4.keep hle k hF⟩
theorem Pcs.keep {W W' : World} {B : Nat} {lv : Value} {pss : List (List Nat)} {F : Nat → Prop} (h : Pcs W B lv pss) (k : Keeps F W W') (hF : ∀ b, b < B → ¬ F b) : Pcs W' B lv pss := PcsS.keep h k hF
/-- A hasher that has had these bytes. v: its rest. -/
structure HasherV (W : World) (hg : Nat) (v : Value) (bs : List Nat) : Prop where
  row : W.heap[hg]? = some (hhrow (runB HL bs (bs.length / 64)) v bs.length)
  rest : RestV W v (bs.drop (64 * (bs.length / 64)))
/-- In the midst: n pieces are mixed in. -/
structure HMid (W : World) (hg : Nat) (v : Value) (bs : List Nat) (n : Nat) : Prop where
  le : 64 * n ≤ bs.length
  row : W.heap[hg]? = some (hhrow (runB HL bs n) v bs.length)
  rest : RestV W v (bs.drop (64 * n))
theorem HMid.done {W : World} {hg : Nat} {v : Value} {bs : List Nat} {n : Nat} (h : HMid W hg v bs n) (hl : bs.length < 64 * n + 64) : HasherV W hg v bs := by
  have hle := h.le
  have e : bs.length / 64 = n := by omega
  exact ⟨by rw [e]; exact h.row, by rw [e]; exact h.rest⟩
theorem runB_more (bs ys : List Nat) (n : Nat) (h : 64 * n ≤ bs.length) : runB HL (bs ++ ys) n = runB HL bs n := runB_congr HL _ _ n (fun i hi => nth_append_left _ _ _ (by omega))
theorem hrow_at {W : World} {hg : Nat} {st : List Nat} {v : Value} {m : Nat} (h : W.heap[hg]? = some (hhrow st v m)) : (W.cell? ⟨hg, 0, none⟩ = some (.int .u32 ((nth st 0 : Nat) : Int)) ∧ W.cell? ⟨hg, 1, none⟩ = some (.int .u32 ((nth st 1 : Nat) : Int)) ∧ W.cell? ⟨hg, 2, none⟩ = some (.int .u32 ((nth st 2 : Nat) : Int)) ∧ W.cell? ⟨hg, 3, none⟩ = some (.int .u32 ((nth st 3 : Nat) : Int)) ∧
    W.cell? ⟨hg, 4, none⟩ = some (.int .u32 ((nth st 4 : Nat) : Int)) ∧ W.cell? ⟨hg, 5, none⟩ = some (.int .u32 ((nth st 5 : Nat) : Int)) ∧ W.cell? ⟨hg, 6, none⟩ = some (.int .u32 ((nth st 6 : Nat) : Int)) ∧ W.cell? ⟨hg, 7, none⟩ = some (.int .u32 ((nth st 7 : Nat) : Int)) ∧ W.cell? ⟨hg, 8, none⟩ = some v ∧ W.cell? ⟨hg, 9, none⟩ = some (.int .u64 ((m : Nat) : Int))) ∧ ∀ i, W.frozen? ⟨hg, i, none⟩ = false :=
  ⟨⟨(cell_of_row _ _ _ _ _ _ h).trans rfl, (cell_of_row _ _ _ _ _ _ h).trans rfl, (cell_of_row _ _ _ _ _ _ h).trans rfl, (cell_of_row _ _ _ _ _ _ h).trans rfl, (cell_of_row _ _ _ _ _ _ h).trans rfl, (cell_of_row _ _ _ _ _ _ h).trans rfl, (cell_of_row _ _ _ _ _ _ h).trans rfl, (cell_of_row _ _ _ _ _ _ h).trans rfl, (cell_of_row _ _ _ _ _ _ h).trans rfl, (cell_of_row _ _ _ _ _ _ h).trans rfl⟩, fun i => frozen_of_row W hg i _ _ h⟩
theorem hrow_set9 {W : World} {hg : Nat} {st : List Nat} {v : Value} {m : Nat} (h : W.heap[hg]? = some (hhrow st v m)) (m' : Nat) : (W.setCell ⟨hg, 9, none⟩ (.int .u64 ((m' : Nat) : Int))).heap[hg]? = some (hhrow st v m') := heap_setCell_same W hg 9 _ _ (.int .u64 ((m' : Nat) : Int)) h
theorem hrow_set8 {W : World} {hg : Nat} {st : List Nat} {v : Value} {m : Nat} (h : W.heap[hg]? = some (hhrow st v m)) (v' : Value) : (W.setCell ⟨hg, 8, none⟩ v').heap[hg]? = some (hhrow st v' m) := heap_setCell_same W hg 8 _ _ v' h
theorem hrow_set07 {W : World} {hg : Nat} {st : List Nat} {v : Value} {m : Nat} (h : W.heap[hg]? = some (hhrow st v m)) (st' : List Nat) : ((((((((W.setCell ⟨hg, 0, none⟩ (.int .u32 ((nth st' 0 : Nat) : Int))).setCell ⟨hg, 1, none⟩ (.int .u32 ((nth st' 1 : Nat) : Int))).setCell ⟨hg, 2, none⟩ (.int .u32 ((nth st' 2 : Nat) : Int))).setCell ⟨hg, 3, none⟩ (.int .u32 ((nth st' 3 : Nat) : Int))).setCell ⟨hg, 4, none⟩ (.int .u32 ((nth st' 4 : Nat) : Int))).setCell ⟨hg, 5, none⟩ (.int .u32 ((nth st' 5 : Nat) : Int))).setCell ⟨hg, 6, none⟩ (.int .u32 ((nth st' 6 : Nat) : Int))).setCell ⟨hg, 7, none⟩ (.int .u32 ((nth st' 7 : Nat) : Int))).heap[hg]? = some (hhrow st' v m) := by
  have h0 : (W.setCell ⟨hg, 0, none⟩ (.int .u32 ((nth st' 0 : Nat) : Int))).heap[hg]? = some (.cells #[.int .u32 ((nth st' 0 : Nat) : Int), .int .u32 ((nth st 1 : Nat) : Int), .int .u32 ((nth st 2 : Nat) : Int), .int .u32 ((nth st 3 : Nat) : Int), .int .u32 ((nth st 4 : Nat) : Int), .int .u32 ((nth st 5 : Nat) : Int), .int .u32 ((nth st 6 : Nat) : Int), .int .u32 ((nth st 7 : Nat) : Int), v, .int .u64 ((m : Nat) : Int)] 97 (0, 0)) := heap_setCell_same _ hg 0 _ _ (.int .u32 ((nth st' 0 : Nat) : Int)) h
  have h1 : ((W.setCell ⟨hg, 0, none⟩ (.int .u32 ((nth st' 0 : Nat) : Int))).setCell ⟨hg, 1, none⟩ (.int .u32 ((nth st' 1 : Nat) : Int))).heap[hg]? = some (.cells #[.int .u32 ((nth st' 0 : Nat) : Int), .int .u32 ((nth st' 1 : Nat) : Int), .int .u32 ((nth st 2 : Nat) : Int), .int .u32 ((nth st 3 : Nat) : Int), .int .u32 ((nth st 4 : Nat) : Int), .int .u32 ((nth st 5 : Nat) : Int), .int .u32 ((nth st 6 : Nat) : Int), .int .u32 ((nth st 7 : Nat) : Int), v, .int .u64 ((m : Nat) : Int)] 97 (0, 0)) := heap_setCell_same _ hg 1 _ _ (.int .u32 ((nth st' 1 : Nat) : Int)) h0
  have h2 : (((W.setCell ⟨hg, 0, none⟩ (.int .u32 ((nth st' 0 : Nat) : Int))).setCell ⟨hg, 1, none⟩ (.int .u32 ((nth st' 1 : Nat) : Int))).setCell ⟨hg, 2, none⟩ (.int .u32 ((nth st' 2 : Nat) : Int))).heap[hg]? = some (.cells #[.int .u32 ((nth st' 0 : Nat) : Int), .int .u32 ((nth st' 1 : Nat) : Int), .int .u32 ((nth st' 2 : Nat) : Int), .int .u32 ((nth st 3 : Nat) : Int), .int .u32 ((nth st 4 : Nat) : Int), .int .u32 ((nth st 5 : Nat) : Int), .int .u32 ((nth st 6 : Nat) : Int), .int .u32 ((nth st 7 : Nat) : Int), v, .int .u64 ((m : Nat) : Int)] 97 (0, 0)) := heap_setCell_same _ hg 2 _ _ (.int .u32 ((nth st' 2 : Nat) : Int)) h1
  have h3 : ((((W.setCell ⟨hg, 0, none⟩ (.int .u32 ((nth st' 0 : Nat) : Int))).setCell ⟨hg, 1, none⟩ (.int .u32 ((nth st' 1 : Nat) : Int))).setCell ⟨hg, 2, none⟩ (.int .u32 ((nth st' 2 : Nat) : Int))).setCell ⟨hg, 3, none⟩ (.int .u32 ((nth st' 3 : Nat) : Int))).heap[hg]? = some (.cells #[.int .u32 ((nth st' 0 : Nat) : Int), .int .u32 ((nth st' 1 : Nat) : Int), .int .u32 ((nth st' 2 : Nat) : Int), .int .u32 ((nth st' 3 : Nat) : Int), .int .u32 ((nth st 4 : Nat) : Int), .int .u32 ((nth st 5 : Nat) : Int), .int .u32 ((nth st 6 : Nat) : Int), .int .u32 ((nth st 7 : Nat) : Int), v, .int .u64 ((m : Nat) : Int)] 97 (0, 0)) := heap_setCell_same _ hg 3 _ _ (.int .u32 ((nth st' 3 : Nat) : Int)) h2
  have h4 : (((((W.setCell ⟨hg, 0, none⟩ (.int .u32 ((nth st' 0 : Nat) : Int))).setCell ⟨hg, 1, none⟩ (.int .u32 ((nth st' 1 : Nat) : Int))).setCell ⟨hg, 2, none⟩ (.int .u32 ((nth st' 2 : Nat) : Int))).setCell ⟨hg, 3, none⟩ (.int .u32 ((nth st' 3 : Nat) : Int))).setCell ⟨hg, 4, none⟩ (.int .u32 ((nth st' 4 : Nat) : Int))).heap[hg]? = some (.cells #[.int .u32 ((nth st' 0 : Nat) : Int), .int .u32 ((nth st' 1 : Nat) : Int), .int .u32 ((nth st' 2 : Nat) : Int), .int .u32 ((nth st' 3 : Nat) : Int), .int .u32 ((nth st' 4 : Nat) : Int), .int .u32 ((nth st 5 : Nat) : Int), .int .u32 ((nth st 6 : Nat) : Int), .int .u32 ((nth st 7 : Nat) : Int), v, .int .u64 ((m : Nat) : Int)] 97 (0, 0)) := heap_setCell_same _ hg 4 _ _ (.int .u32 ((nth st' 4 : Nat) : Int)) h3
  have h5 : ((((((W.setCell ⟨hg, 0, none⟩ (.int .u32 ((nth st' 0 : Nat) : Int))).setCell ⟨hg, 1, none⟩ (.int .u32 ((nth st' 1 : Nat) : Int))).setCell ⟨hg, 2, none⟩ (.int .u32 ((nth st' 2 : Nat) : Int))).setCell ⟨hg, 3, none⟩ (.int .u32 ((nth st' 3 : Nat) : Int))).setCell ⟨hg, 4, none⟩ (.int .u32 ((nth st' 4 : Nat) : Int))).setCell ⟨hg, 5, none⟩ (.int .u32 ((nth st' 5 : Nat) : Int))).heap[hg]? = some (.cells #[.int .u32 ((nth st' 0 : Nat) : Int), .int .u32 ((nth st' 1 : Nat) : Int), .int .u32 ((nth st' 2 : Nat) : Int), .int .u32 ((nth st' 3 : Nat) : Int), .int .u32 ((nth st' 4 : Nat) : Int), .int .u32 ((nth st' 5 : Nat) : Int), .int .u32 ((nth st 6 : Nat) : Int), .int .u32 ((nth st 7 : Nat) : Int), v, .int .u64 ((m : Nat) : Int)] 97 (0, 0)) := heap_setCell_same _ hg 5 _ _ (.int .u32 ((nth st' 5 : Nat) : Int)) h4
  have h6 : (((((((W.setCell ⟨hg, 0, none⟩ (.int .u32 ((nth st' 0 : Nat) : Int))).setCell ⟨hg, 1, none⟩ (.int .u32 ((nth st' 1 : Nat) : Int))).setCell ⟨hg, 2, none⟩ (.int .u32 ((nth st' 2 : Nat) : Int))).setCell ⟨hg, 3, none⟩ (.int .u32 ((nth st' 3 : Nat) : Int))).setCell ⟨hg, 4, none⟩ (.int .u32 ((nth st' 4 : Nat) : Int))).setCell ⟨hg, 5, none⟩ (.int .u32 ((nth st' 5 : Nat) : Int))).setCell ⟨hg, 6, none⟩ (.int .u32 ((nth st' 6 : Nat) : Int))).heap[hg]? = some (.cells #[.int .u32 ((nth st' 0 : Nat) : Int), .int .u32 ((nth st' 1 : Nat) : Int), .int .u32 ((nth st' 2 : Nat) : Int), .int .u32 ((nth st' 3 : Nat) : Int), .int .u32 ((nth st' 4 : Nat) : Int), .int .u32 ((nth st' 5 : Nat) : Int), .int .u32 ((nth st' 6 : Nat) : Int), .int .u32 ((nth st 7 : Nat) : Int), v, .int .u64 ((m : Nat) : Int)] 97 (0, 0)) := heap_setCell_same _ hg 6 _ _ (.int .u32 ((nth st' 6 : Nat) : Int)) h5
  have h7 : ((((((((W.setCell ⟨hg, 0, none⟩ (.int .u32 ((nth st' 0 : Nat) : Int))).setCell ⟨hg, 1, none⟩ (.int .u32 ((nth st' 1 : Nat) : Int))).setCell ⟨hg, 2, none⟩ (.int .u32 ((nth st' 2 : Nat) : Int))).setCell ⟨hg, 3, none⟩ (.int .u32 ((nth st' 3 : Nat) : Int))).setCell ⟨hg, 4, none⟩ (.int .u32 ((nth st' 4 : Nat) : Int))).setCell ⟨hg, 5, none⟩ (.int .u32 ((nth st' 5 : Nat) : Int))).setCell ⟨hg, 6, none⟩ (.int .u32 ((nth st' 6 : Nat) : Int))).setCell ⟨hg, 7, none⟩ (.int .u32 ((nth st' 7 : Nat) : Int))).heap[hg]? = some (.cells #[.int .u32 ((nth st' 0 : Nat) : Int), .int .u32 ((nth st' 1 : Nat) : Int), .int .u32 ((nth st' 2 : Nat) : Int), .int .u32 ((nth st' 3 : Nat) : Int), .int .u32 ((nth st' 4 : Nat) : Int), .int .u32 ((nth st' 5 : Nat) : Int), .int .u32 ((nth st' 6 : Nat) : Int), .int .u32 ((nth st' 7 : Nat) : Int), v, .int .u64 ((m : Nat) : Int)] 97 (0, 0)) := heap_setCell_same _ hg 7 _ _ (.int .u32 ((nth st' 7 : Nat) : Int)) h6
  exact h7
theorem hrow_cells8 {W : World} {hg : Nat} {st : List Nat} {v : Value} {m : Nat} (h : W.heap[hg]? = some (hhrow st v m)) (st' : List Nat) : (W.setCells hg 0 (st8 st').toList).heap[hg]? = some (hhrow st' v m) := hrow_set07 h st'
theorem hrow_there {W : World} {hg : Nat} {st : List Nat} {v : Value} {m : Nat} (h : W.heap[hg]? = some (hhrow st v m)) (st' : List Nat) : W.there hg 0 (st8 st').size := fun j hj => by
  have hj8 : j < 8 := hj
  refine ⟨?_, frozen_of_row W hg _ _ _ h⟩
  rw [cell_of_row W hg (0 + j) _ _ _ h, Nat.zero_add, Array.getElem?_eq_getElem (show j < _ by simp; omega)]; rfl
theorem Keeps.setCells {F : Nat → Prop} {A : World} {g : Nat} (hF : F g ∨ A.heap.size ≤ g) : ∀ (l : List Value) (o : Nat) (W : World), Keeps F A W → Keeps F A (W.setCells g o l)
  | [], _, _, h => h
  | v :: l, o, _, h => Keeps.setCells hF l (o + 1) _ (h.setCell v hF)
theorem other_setCells {g b : Nat} (hne : b ≠ g) : ∀ (l : List Value) (o : Nat) (W : World), (W.setCells g o l).heap[b]? = W.heap[b]?
  | [], _, _ => rfl
  | v :: l, o, W => (other_setCells hne l (o + 1) _).trans (heap_setCell_other W ⟨g, o, none⟩ _ v hne)
/-- A rest lies in no hasher. -/
theorem RestV.ne {W : World} {hg : Nat} {st : List Nat} {v v' : Value} {m : Nat} {r : List Nat} (h : RestV W v r) (hr : W.heap[hg]? = some (hhrow st v' m)) : v.ownBlock ≠ some hg := by
  rcases h with ⟨rfl, -⟩ | ⟨g, off, cap, cur, rfl, hgg, -⟩
  · simp [Value.ownBlock]
  · intro e
    simp [Value.ownBlock] at e
    subst e
    have := hgg.symm.trans hr
    simp at this
theorem rest_shift {W : World} {g off cap : Nat} {cur : Array Value} {r : List Nat} (hg : W.heap[g]? = some (.cells cur 5 (0, 0))) (h1 : r.length ≤ cap) (h2 : off + cap ≤ cur.size) (h3 : ∀ i, i < r.length → cur[off + i]? = some (.int .u8 ((nth r i : Nat) : Int))) :
    RestV W (.slice (some ⟨g, off + 64, none⟩) (r.length - 64) (cap - 64)) (r.drop 64) ∨ cap < 64 := by
  by_cases hc : cap < 64
  · exact Or.inr hc
  · refine Or.inl (Or.inr ⟨g, off + 64, cap - 64, cur, by rw [List.length_drop], hg, by rw [List.length_drop]; omega, by omega, fun i hi => ?_⟩)
    rw [List.length_drop] at hi
    rw [nth_drop, Nat.add_assoc]; exact h3 (64 + i) (by omega)
theorem rest_empty {W : World} {g off : Nat} {cur : Array Value} {r : List Nat} (hg : W.heap[g]? = some (.cells cur 5 (0, 0))) (h1 : r.length ≤ 64) (h2 : off + 64 ≤ cur.size) : RestV W (.slice (some ⟨g, off, none⟩) (r.length - 64) 0) (r.drop 64) :=
  Or.inr ⟨g, off, 0, cur, by rw [List.length_drop], hg, by rw [List.length_drop]; omega, by omega, fun i hi => by rw [List.length_drop] at hi; omega⟩
/-- Where a hasher writes. -/
def HF (hg : Nat) (v : Value) (b : Nat) : Prop := b = hg ∨ v.ownBlock = some b
/-- What Add's outer loop holds: k pieces are added. -/
structure HAddInv (w : World) (B hg : Nat) (v0 : Value) (bs0 : List Nat) (pss : List (List Nat)) (k : Nat) (wr : World) : Prop where
  keeps : Keeps (HF hg v0) w wr
  now : ∃ v, HasherV wr hg v (bs0 ++ (pss.take k).flatten) ∧ ∀ b, v.ownBlock = some b → v0.ownBlock = some b ∨ w.heap.size ≤ b
/-- What its inner loop holds. -/
structure AddMid (w : World) (B hg : Nat) (v0 : Value) (bs : List Nat) (t : Nat) (wr : World) : Prop where
  keeps : Keeps (HF hg v0) w wr
  now : ∃ v n, HMid wr hg v bs n ∧ bs.length = 64 * n + t ∧ ∀ b, v.ownBlock = some b → v0.ownBlock = some b ∨ w.heap.size ≤ b
set_option maxRecDepth 100000 in
set_option maxHeartbeats 4000000 in
/-- Add. -/
theorem hadd_s (B : Nat) (S : Nat → Prop) (hg : Nat) (v0 lv : Value) (bs0 : List Nat) (pss : List (List Nat)) (w : World) (hh : HasherV w hg v0 bs0) (hp : PcsS w S lv pss) (hbg : ∀ b, S b → b ≠ hg) (hbv : ∀ b, v0.ownBlock = some b → ¬ S b) (hby : ∀ y, y ∈ bs0 ++ pss.flatten → y < 256)
    (hlen : (bs0 ++ pss.flatten).length ≤ 1000000000) (hpl : pss.length ≤ 1000000) :
    Calls Try.prog 44 #[hptr hg, lv] w fun e w' => e = .returned (.tuple #[]) ∧ Hid (HAddInv w B hg v0 bs0 pss pss.length w') := by
  have I0 : Hid (HAddInv w B hg v0 bs0 pss 0 w) := ⟨Keeps.refl _ _, v0, by simpa using hh, fun b hb => Or.inl hb⟩
  have HP := Lib.hid hp; have HBG := Lib.hid hbg; have HBV := Lib.hid hbv; have HBY := Lib.hid hby; have HLEN := Lib.hid hlen
  rcases hp.shape with ⟨⟨la, lc, rfl⟩, rfl⟩ | ⟨lb, lo, c, hlb, rfl, hel⟩
  · clear hh hp hbg hbv hby hlen
    go_enter Try.func44, Try.ntmps44
    go_wp2_with fail
    refine wp_loop_rounds 1 ?_
    rw [rounds_succ]; go_wp2
    exact Go.Great.bodyPost_end0 rfl rfl ⟨rfl, I0⟩
  · have HEL := Lib.hid hel
    have hpl' : (pss.length : Int) ≤ 1000000 := by omega
    clear hh hp hbg hbv hby hlen hel
    go_enter Try.func44, Try.ntmps44
    go_wp2_with fail
    go_loopw [8] (fun s wr => ∃ k : Nat, s = .int .i64 (k : Int) ∧ k ≤ pss.length ∧ Hid (HAddInv w B hg v0 bs0 pss k wr)) (fun s _ => (pss.length - intOf s).toNat)
    case atStart => exact ⟨0, rfl, Nat.zero_le _, I0⟩
    case round =>
      obtain ⟨k, rfl, hk, HI⟩ := hrel
      by_cases hkn : k = pss.length
      · have hge : ¬ (k : Int) < pss.length := by omega
        go_wp2_with fail
        exact Go.Great.bodyPost_end0 rfl rfl ⟨rfl, by rw [← hkn]; exact HI⟩
      · have hlt : (k : Int) < pss.length := by omega
        obtain ⟨ys, hys⟩ : ∃ ys, pss[k]? = some ys := ⟨pss[k]'(by omega), List.getElem?_eq_getElem (by omega)⟩
        obtain ⟨v, hv, hvn⟩ := HI.out.now
        have hnF : ∀ b, S b → ¬ HF hg v0 b := fun b hb hf => by
          rcases hf with hf | hf
          · exact HBG.out b hb hf
          · exact HBV.out b hf hb
        have hP2 := HP.out.keep HI.out.keeps hnF
        obtain ⟨xv, hxc, hxp⟩ : ∃ xv, wr.cell? ⟨lb, lo + k, none⟩ = some xv ∧ PieceS wr S xv ys := by
          rcases hP2.shape with ⟨-, h1⟩ | ⟨lb', lo', c', -, h1, h2⟩
          · exfalso; rw [h1] at hk hkn; simp at hk hkn; omega
          · simp at h1
            obtain ⟨⟨rfl, rfl⟩, rfl⟩ := h1
            exact h2 k ys hys
        obtain ⟨xa, xc, rfl⟩ := hxp.shape
        have htk : (pss.take (k + 1)).flatten = (pss.take k).flatten ++ ys := by
          rw [List.take_add_one, hys]; simp
        have hdr : pss.flatten = (pss.take (k + 1)).flatten ++ (pss.drop (k + 1)).flatten := by rw [← List.flatten_append, List.take_append_drop]
        have hlen1 : (bs0 ++ (pss.take k).flatten).length + ys.length ≤ 1000000000 := by
          have := HLEN.out
          rw [hdr, htk] at this
          simp only [List.length_append] at this ⊢
          omega
        have hby1 : ∀ y, y ∈ (bs0 ++ (pss.take k).flatten) ++ ys → y < 256 := fun y hy => HBY.out y (by
          rw [hdr, htk]
          simp only [List.mem_append] at hy ⊢
          rcases hy with (hy | hy) | hy
          · exact Or.inl hy
          · exact Or.inr (Or.inl (Or.inl hy))
          · exact Or.inr (Or.inl (Or.inr hy)))
        have hnext : bs0 ++ (pss.take (k + 1)).flatten = (bs0 ++ (pss.take k).flatten) ++ ys := by rw [htk, List.append_assoc]
        obtain ⟨bs, hbs⟩ : ∃ bs, bs = bs0 ++ (pss.take k).flatten := ⟨_, rfl⟩
        rw [← hbs] at hlen1 hby1 hnext hv
        have hrow1 := hv.row; have hrest1 := hv.rest
        obtain ⟨n, hn⟩ : ∃ n, n = bs.length / 64 := ⟨_, rfl⟩
        have hn64 : 64 * n ≤ bs.length := by omega
        rw [← hn] at hrow1 hrest1
        have hst := (runB_more bs ys n hn64).symm
        have hdrop : (bs ++ ys).drop (64 * n) = bs.drop (64 * n) ++ ys := List.drop_append_of_le_length hn64
        obtain ⟨r, hr⟩ : ∃ r, r = bs.drop (64 * n) := ⟨_, rfl⟩
        have hrl : r.length ≤ bs.length := by rw [hr, List.length_drop]; omega
        rw [← hr] at hdrop hrest1
        obtain ⟨st, hste⟩ : ∃ st, st = runB HL bs n := ⟨_, rfl⟩
        rw [← hste] at hrow1 hst
        obtain ⟨⟨c0, c1, c2, c3, c4, c5, c6, c7, c8, c9⟩, fz⟩ := hrow_at hrow1
        have f8 := fz 8; have f9 := fz 9
        have hne := hrest1.ne hrow1
        obtain ⟨va, vc, hve⟩ := hrest1.shape
        subst hve
        have hhb := lt_of_block hrow1
        have hlbb : lb < wr.heap.size := World.block_lt_of_cell? _ _ hxc
        have hne2 : lb ≠ hg := HBG.out lb hlb
        have hm9 : (bs.length : Int) ≤ 1000000000 := by omega
        have hy9 : (ys.length : Int) ≤ 1000000000 := by omega
        -- the world behind 'many'
        have hrow2 : (wr.setCell ⟨hg, 9, none⟩ (.int .u64 ((bs.length : Int) + (ys.length : Int)))).heap[hg]? = some (hhrow st (.slice va r.length vc) (bs.length + ys.length)) := by
          have := hrow_set9 hrow1 (bs.length + ys.length)
          rwa [show (((bs.length + ys.length : Nat)) : Int) = (bs.length : Int) + (ys.length : Int) by omega] at this
        have K1 : Keeps (fun b => b = hg) wr (wr.setCell ⟨hg, 9, none⟩ (.int .u64 ((bs.length : Int) + (ys.length : Int)))) := (Keeps.refl _ _).setCell _ (Or.inl rfl)
        have R1 := hrest1.keep K1 (fun g h1 h2 => hne (by rw [h1, h2]))
        have X1 := (hxp.keep hP2.le K1 (fun b hb h => HBG.out b hb h)).src
        have HR1 := Lib.hid R1; have HX1 := Lib.hid X1; have HROW2 := Lib.hid hrow2; have HK1 := Lib.hid K1
        have hk0 : (k : Int) ≤ 1000000 := by omega
        have HFST : Hid (st = runB HL (bs ++ ys) n) := hst
        have HBY1 := Lib.hid hby1; have HNEXT := Lib.hid hnext; have HDROP := Lib.hid hdrop; have HVN := Lib.hid hvn; have HNE := Lib.hid hne; have HN64 := Lib.hid hn64; have HRL : Hid (r.length + ys.length = (bs ++ ys).length - 64 * n) := by
          show r.length + ys.length = _
          rw [hr, List.length_drop, List.length_append]; omega
        clear hkn hys hv hvn hxp htk hdr hby1 hnext hbs hst hdrop hr hste hrow1 hrest1 c0 c1 c2 c3 c4 c5 c6 c7 fz hne R1 X1 hrow2 K1 hP2
        go_wp2_with (at_builtin; go_loud (refine wpList_app (by rfl) (.tmp 26) (.tmp 27) (by rfl) _ _ (by rfl) (by rfl) r ys HR1.out HX1.out (by omega) ?_; intro v2 W2 R2 K2 N2; obtain ⟨va2, vc2, e2⟩ := R2.shape; subst e2; have hrow3 := (K2.block hg (lt_of_block HROW2.out) HNE.out).trans HROW2.out; have hb3 := lt_of_block hrow3; have d8 := (hrow_at hrow3).1.2.2.2.2.2.2.2.2.1; have g8 := (hrow_at hrow3).2 8; have HR2 := Lib.hid R2; have HK2 := Lib.hid K2; have HN2 := Lib.hid N2; have HROW3 := Lib.hid hrow3; clear R2 K2 N2 hrow3))
        have AM : Hid (AddMid w B hg v0 (bs ++ ys) ((bs ++ ys).length - 64 * n) (W2.setCell ⟨hg, 8, none⟩ (.slice va2 (r.length + ys.length) vc2))) := by
          have HR2' : RestV W2 (.slice va2 (r.length + ys.length) vc2) (r ++ ys) := by rw [← List.length_append]; exact HR2.out
          have hsz : w.heap.size ≤ wr.heap.size := HI.out.keeps.size
          have hK : Keeps (HF hg v0) w W2 := by
            refine (HI.out.keeps.trans HK1.out (fun b hb => Or.inl (Or.inl hb))).trans HK2.out (fun b hb => ?_)
            rcases HVN.out b hb with h1 | h1
            · exact Or.inl (Or.inr h1)
            · exact Or.inr h1
          refine ⟨hK.setCell _ (Or.inl (Or.inl rfl)), .slice va2 (r.length + ys.length) vc2, n, ⟨by rw [List.length_append]; have := HN64.out; omega, ?_, ?_⟩, by rw [List.length_append]; have := HN64.out; omega, fun b hb => ?_⟩
          · rw [List.length_append, ← HFST.out]; exact hrow_set8 HROW3.out (.slice va2 (r.length + ys.length) vc2)
          · rw [HDROP.out]
            exact HR2'.keep ((Keeps.refl (fun b => b = hg) W2).setCell _ (Or.inl rfl)) (fun g h1 h2 => (HR2'.ne HROW3.out) (by rw [h1, h2]))
          · rcases HN2.out b (by rw [List.length_append]; exact hb) with h1 | h1
            · exact HVN.out b h1
            · exact Or.inr (by rw [h1]; simpa using hsz)
        clear HR1 HX1 HK1 HR2 HK2 HN2 HROW2 HROW3 HFST HDROP HRL c9 f8 f9 c8 d8 g8 hxc HVN HNE HN64 hn64 hn hrl
        obtain ⟨bz, hbz⟩ : ∃ bz, bz = bs ++ ys := ⟨_, rfl⟩
        have hbzl : bz.length ≤ 1000000000 := by rw [hbz, List.length_append]; exact hlen1
        rw [← hbz] at AM HBY1 HNEXT
        clear hbz hlen1
        go_loopg [] (bz.length - 64 * n) (fun t wr => Hid (AddMid w B hg v0 bz t wr))
        case atStart => exact AM
        case round =>
          have HJ := hrel
          obtain ⟨v, m, hm, hml, hvn⟩ := HJ.out.now
          have hmle := hm.le; have hmrow := hm.row; have hmrest := hm.rest
          obtain ⟨r, hr⟩ : ∃ r, r = bz.drop (64 * m) := ⟨_, rfl⟩
          have hrl : r.length = bz.length - 64 * m := by rw [hr, List.length_drop]
          rw [← hr] at hmrest
          have hrI : (r.length : Int) ≤ 1000000000 := by omega
          by_cases h64 : r.length < 64
          · have hlt64 : ¬ (64 : Int) ≤ r.length := by omega
            have hdone := Lib.hid (hm.done (by omega))
            obtain ⟨va, vc, rfl⟩ := hmrest.shape
            have c8 := (hrow_at hmrow).1.2.2.2.2.2.2.2.2.1
            have AI : Hid (HAddInv w B hg v0 bs0 pss (k + 1) _) := ⟨HJ.out.keeps, _, by rw [HNEXT.out]; exact hdone.out, hvn⟩
            clear hm hml hvn hmle hmrow hmrest hr hrl h64 hdone
            go_wp2_with fail
            go_roundw
            case rel => exact ⟨k + 1, by go_num, by omega, AI⟩
            case measure => simp [intOf]; omega
          · have hge64 : (64 : Int) ≤ r.length := by omega
            rcases hmrest with ⟨-, h0⟩ | ⟨g, off, cap, cur, rfl, hgg, h1, h2, h3⟩
            · exfalso; rw [h0] at h64; simp at h64
            have hcap : (64 : Int) ≤ cap := by omega
            obtain ⟨f, hf⟩ : ∃ f : Nat → Nat, f = fun i => nth bz (64 * m + i) := ⟨_, rfl⟩
            have hf256 : ∀ i, f i < 256 := fun i => by
              rw [hf]
              show nth bz (64 * m + i) < 256
              by_cases hi : 64 * m + i < bz.length
              · exact HBY1.out _ (nth_mem bz _ hi)
              · rw [nth_end bz _ (by omega)]; decide
            obtain ⟨st, hst⟩ : ∃ st, st = runB HL bz m := ⟨_, rfl⟩
            have hst8 : st.length = 8 := by rw [hst]; exact runB_len HL bz HL_len m
            have hstw : W32 st := by rw [hst]; exact runB_w HL bz HL_w m
            have hnx : runB HL bz (m + 1) = mixS st f := by rw [runB, hst, hf]
            rw [← hst] at hmrow
            have hn8 : (mixS st f).length = 8 := mixS_len st f
            obtain ⟨sn, hsn⟩ : ∃ sn, sn = mixS st f := ⟨_, rfl⟩
            have HNX : Hid (runB HL bz (m + 1) = sn) := by rw [hsn]; exact hnx
            have hne := RestV.ne (v := .slice (some ⟨g, off, none⟩) r.length cap) (r := r) (Or.inr ⟨g, off, cap, cur, rfl, hgg, h1, h2, h3⟩) hmrow
            have hghg : g ≠ hg := fun e => hne (by rw [e]; rfl)
            obtain ⟨⟨c0, c1, c2, c3, c4, c5, c6, c7, c8, -⟩, -⟩ := hrow_at hmrow
            have hhb := lt_of_block hmrow
            have HROW := Lib.hid hmrow
            have CMX : Hid (∀ W, W.heap[g]? = some (.cells cur 5 (0, 0)) → Calls Try.prog 51 #[.agg #[.int .u32 ((nth st 0 : Nat) : Int), .int .u32 ((nth st 1 : Nat) : Int), .int .u32 ((nth st 2 : Nat) : Int), .int .u32 ((nth st 3 : Nat) : Int), .int .u32 ((nth st 4 : Nat) : Int), .int .u32 ((nth st 5 : Nat) : Int), .int .u32 ((nth st 6 : Nat) : Int), .int .u32 ((nth st 7 : Nat) : Int)], .slice (some ⟨g, off, none⟩) 64 cap] W fun e w' => e = .returned (.agg #[.int .u32 ((nth sn 0 : Nat) : Int), .int .u32 ((nth sn 1 : Nat) : Int), .int .u32 ((nth sn 2 : Nat) : Int), .int .u32 ((nth sn 3 : Nat) : Int), .int .u32 ((nth sn 4 : Nat) : Int), .int .u32 ((nth sn 5 : Nat) : Int), .int .u32 ((nth sn 6 : Nat) : Int), .int .u32 ((nth sn 7 : Nat) : Int)]) ∧ Below W.heap.size W w') := fun W hk => by
              have hb' : Bt W g off 64 f := ⟨lt_of_block hk, fun i hi => (cell_of_row _ _ _ _ _ _ hk).trans (by rw [h3 i (by omega), hr, nth_drop, hf])⟩
              have := mix_c g off cap st f hf256 hst8 hstw W hb'
              rw [agg8 st hst8, ← hsn, agg8 sn (by rw [hsn]; exact hn8)] at this
              exact this
            have HML := Lib.hid hml; have HR0 := Lib.hid hr; have H3 := Lib.hid h3; have HRLX := Lib.hid hrl; have HVN2 := Lib.hid hvn; have HM2 := Lib.hid hmle
            clear hm hml hrl hvn hmle hmrow hr hf256 hst8 hstw hnx hn8 hne hst hsn hf
            have KS : Keeps (fun b => b = hg) wr wr.drew ∧ wr.drew.heap[g]? = some (.cells cur 5 (0, 0)) := ⟨(Keeps.refl _ _).drew, hgg⟩
            go_wp2_with fail
            obtain ⟨I, hI0⟩ : ∃ I : Array Value → (Nat → Bool) → Act → World → Prop, I = (fun T0 L act W => ∃ vq0 vq1 vq2 vq3 vq4 vq5 vq6 vq7 vq8 vq9 vq10 vq11 vq12, act = ⟨sets T0 [(37, vq0), (38, vq1), (39, vq2), (40, vq3), (41, vq4), (42, vq5), (43, vq6), (44, vq7), (45, vq8), (46, vq9), (47, vq10), (48, vq11), (49, vq12)], []⟩ ∧ (Keeps (fun b => b = hg) wr W ∧ W.heap[g]? = some (.cells cur 5 (0, 0))) ∧ (L 0 = true → vq0 = hptr hg) ∧ (L 1 = true → vq1 = hptr hg) ∧ (L 2 = true → vq2 = hptr hg) ∧ (L 3 = true → vq3 = hptr hg) ∧ (L 4 = true → vq4 = .agg #[.int .u32 ((nth st 0 : Nat) : Int), .int .u32 ((nth st 1 : Nat) : Int), .int .u32 ((nth st 2 : Nat) : Int), .int .u32 ((nth st 3 : Nat) : Int), .int .u32 ((nth st 4 : Nat) : Int), .int .u32 ((nth st 5 : Nat) : Int), .int .u32 ((nth st 6 : Nat) : Int), .int .u32 ((nth st 7 : Nat) : Int)]) ∧ (L 5 = true → vq5 = hptr hg) ∧ (L 6 = true → vq6 = hptr hg) ∧ (L 7 = true → vq7 = .pointer (some ⟨hg, 8, none⟩)) ∧ (L 8 = true → vq8 = .slice (some ⟨g, off, none⟩) r.length cap) ∧ (L 9 = true → vq9 = .slice (some ⟨g, off, none⟩) 64 cap) ∧ (L 10 = true → vq10 = .agg #[.int .u32 ((nth sn 0 : Nat) : Int), .int .u32 ((nth sn 1 : Nat) : Int), .int .u32 ((nth sn 2 : Nat) : Int), .int .u32 ((nth sn 3 : Nat) : Int), .int .u32 ((nth sn 4 : Nat) : Int), .int .u32 ((nth sn 5 : Nat) : Int), .int .u32 ((nth sn 6 : Nat) : Int), .int .u32 ((nth sn 7 : Nat) : Int)]) ∧ (L 11 = true → vq11 = hptr hg) ∧ (L 12 = true → vq12 = hptr hg) ∧ (L 13 = false → W.heap[hg]? = some (hhrow st (.slice (some ⟨g, off, none⟩) r.length cap) bz.length)) ∧ (L 13 = true → W.heap[hg]? = some (hhrow sn (.slice (some ⟨g, off, none⟩) r.length cap) bz.length)) ∧ (L 13 = true → L 4 = true) ∧ (L 13 = true → L 8 = true)) := ⟨_, rfl⟩
            have HI := Lib.hid hI0; clear hI0
            refine wp_region_frame (by kernel_rfl) (by kernel_rfl) I (fun T0 hT0 => ⟨?start, ?step, ?fin⟩)
            case start =>
              rw [HI.out]
              exact ⟨T0.getD 37 undef, T0.getD 38 undef, T0.getD 39 undef, T0.getD 40 undef, T0.getD 41 undef, T0.getD 42 undef, T0.getD 43 undef, T0.getD 44 undef, T0.getD 45 undef, T0.getD 46 undef, T0.getD 47 undef, T0.getD 48 undef, T0.getD 49 undef, by (refine Eq.trans ?_ (congrArg (fun T => Act.mk T []) (sets_self [37, 38, 39, 40, 41, 42, 43, 44, 45, 46, 47, 48, 49] T0).symm)); rw [hT0], KS, nofun, nofun, nofun, nofun, nofun, nofun, nofun, nofun, nofun, nofun, nofun, nofun, nofun, fun _ => HROW.out, nofun, nofun, nofun⟩
            case step =>
              refine ⟨?_, ?_, ?_, ?_, ?_, ?_, ?_, ?_, ?_, ?_, ?_, ?_, ?_, ?_, trivial⟩
              · intro L act W hI hno hdep
                rw [HI.out] at hI
                obtain ⟨vq0, vq1, vq2, vq3, vq4, vq5, vq6, vq7, vq8, vq9, vq10, vq11, vq12, hact, hS, hq0, hq1, hq2, hq3, hq4, hq5, hq6, hq7, hq8, hq9, hq10, hq11, hq12, oq13, nq13, dq13_4, dq13_8⟩ := hI
                subst hact
                rw [hT0]; simp only [sets, List.setIfInBounds_toArray, List.set_cons_zero, List.set_cons_succ]
                go_simp
                rw [HI.out]
                exact ⟨hptr hg, vq1, vq2, vq3, vq4, vq5, vq6, vq7, vq8, vq9, vq10, vq11, vq12, by simp only [sets, List.setIfInBounds_toArray, List.set_cons_zero, List.set_cons_succ], hS, fun _ => rfl, keepI hq1 rfl, keepI hq2 rfl, keepI hq3 rfl, keepI hq4 rfl, keepI hq5 rfl, keepI hq6 rfl, keepI hq7 rfl, keepI hq8 rfl, keepI hq9 rfl, keepI hq10 rfl, keepI hq11 rfl, keepI hq12 rfl, keepF oq13, keepI nq13 rfl, keepD dq13_4 rfl, keepD dq13_8 rfl⟩
              · intro L act W hI hno hdep
                rw [HI.out] at hI
                obtain ⟨vq0, vq1, vq2, vq3, vq4, vq5, vq6, vq7, vq8, vq9, vq10, vq11, vq12, hact, hS, hq0, hq1, hq2, hq3, hq4, hq5, hq6, hq7, hq8, hq9, hq10, hq11, hq12, oq13, nq13, dq13_4, dq13_8⟩ := hI
                subst hact
                rw [hT0]; simp only [sets, List.setIfInBounds_toArray, List.set_cons_zero, List.set_cons_succ]
                go_simp
                rw [HI.out]
                exact ⟨vq0, hptr hg, vq2, vq3, vq4, vq5, vq6, vq7, vq8, vq9, vq10, vq11, vq12, by simp only [sets, List.setIfInBounds_toArray, List.set_cons_zero, List.set_cons_succ], hS, keepI hq0 rfl, fun _ => rfl, keepI hq2 rfl, keepI hq3 rfl, keepI hq4 rfl, keepI hq5 rfl, keepI hq6 rfl, keepI hq7 rfl, keepI hq8 rfl, keepI hq9 rfl, keepI hq10 rfl, keepI hq11 rfl, keepI hq12 rfl, keepF oq13, keepI nq13 rfl, keepD dq13_4 rfl, keepD dq13_8 rfl⟩
              · intro L act W hI hno hdep
                rw [HI.out] at hI
                obtain ⟨vq0, vq1, vq2, vq3, vq4, vq5, vq6, vq7, vq8, vq9, vq10, vq11, vq12, hact, hS, hq0, hq1, hq2, hq3, hq4, hq5, hq6, hq7, hq8, hq9, hq10, hq11, hq12, oq13, nq13, dq13_4, dq13_8⟩ := hI
                subst hact
                obtain rfl := hq1 (hdep ⟨1, .data⟩ (by simp) rfl)
                rw [hT0]; simp only [sets, List.setIfInBounds_toArray, List.set_cons_zero, List.set_cons_succ]
                go_simp
                rw [HI.out]
                exact ⟨vq0, hptr hg, hptr hg, vq3, vq4, vq5, vq6, vq7, vq8, vq9, vq10, vq11, vq12, by simp only [sets, List.setIfInBounds_toArray, List.set_cons_zero, List.set_cons_succ], hS, keepI hq0 rfl, fun _ => rfl, fun _ => rfl, keepI hq3 rfl, keepI hq4 rfl, keepI hq5 rfl, keepI hq6 rfl, keepI hq7 rfl, keepI hq8 rfl, keepI hq9 rfl, keepI hq10 rfl, keepI hq11 rfl, keepI hq12 rfl, keepF oq13, keepI nq13 rfl, keepD dq13_4 rfl, keepD dq13_8 rfl⟩
              · intro L act W hI hno hdep
                rw [HI.out] at hI
                obtain ⟨vq0, vq1, vq2, vq3, vq4, vq5, vq6, vq7, vq8, vq9, vq10, vq11, vq12, hact, hS, hq0, hq1, hq2, hq3, hq4, hq5, hq6, hq7, hq8, hq9, hq10, hq11, hq12, oq13, nq13, dq13_4, dq13_8⟩ := hI
                subst hact
                obtain rfl := hq2 (hdep ⟨2, .data⟩ (by simp) rfl)
                rw [hT0]; simp only [sets, List.setIfInBounds_toArray, List.set_cons_zero, List.set_cons_succ]
                go_simp
                rw [HI.out]
                exact ⟨vq0, vq1, hptr hg, hptr hg, vq4, vq5, vq6, vq7, vq8, vq9, vq10, vq11, vq12, by simp only [sets, List.setIfInBounds_toArray, List.set_cons_zero, List.set_cons_succ], hS, keepI hq0 rfl, keepI hq1 rfl, fun _ => rfl, fun _ => rfl, keepI hq4 rfl, keepI hq5 rfl, keepI hq6 rfl, keepI hq7 rfl, keepI hq8 rfl, keepI hq9 rfl, keepI hq10 rfl, keepI hq11 rfl, keepI hq12 rfl, keepF oq13, keepI nq13 rfl, keepD dq13_4 rfl, keepD dq13_8 rfl⟩
              · intro L act W hI hno hdep
                rw [HI.out] at hI
                obtain ⟨vq0, vq1, vq2, vq3, vq4, vq5, vq6, vq7, vq8, vq9, vq10, vq11, vq12, hact, hS, hq0, hq1, hq2, hq3, hq4, hq5, hq6, hq7, hq8, hq9, hq10, hq11, hq12, oq13, nq13, dq13_4, dq13_8⟩ := hI
                subst hact
                obtain rfl := hq3 (hdep ⟨3, .data⟩ (by simp) rfl)
                rw [hT0]; simp only [sets, List.setIfInBounds_toArray, List.set_cons_zero, List.set_cons_succ]
                have hq := oq13 (noF dq13_4 hno)
                obtain ⟨⟨c0, c1, c2, c3, c4, c5, c6, c7, c8, c9⟩, -⟩ := hrow_at hq
                have hhb := lt_of_block hq
                go_simp
                rw [HI.out]
                exact ⟨vq0, vq1, vq2, hptr hg, .agg #[.int .u32 ((nth st 0 : Nat) : Int), .int .u32 ((nth st 1 : Nat) : Int), .int .u32 ((nth st 2 : Nat) : Int), .int .u32 ((nth st 3 : Nat) : Int), .int .u32 ((nth st 4 : Nat) : Int), .int .u32 ((nth st 5 : Nat) : Int), .int .u32 ((nth st 6 : Nat) : Int), .int .u32 ((nth st 7 : Nat) : Int)], vq5, vq6, vq7, vq8, vq9, vq10, vq11, vq12, by simp only [sets, List.setIfInBounds_toArray, List.set_cons_zero, List.set_cons_succ], hS, keepI hq0 rfl, keepI hq1 rfl, keepI hq2 rfl, fun _ => rfl, fun _ => rfl, keepI hq5 rfl, keepI hq6 rfl, keepI hq7 rfl, keepI hq8 rfl, keepI hq9 rfl, keepI hq10 rfl, keepI hq11 rfl, keepI hq12 rfl, keepF oq13, keepI nq13 rfl, keepD dq13_4 rfl, keepD dq13_8 rfl⟩
              · intro L act W hI hno hdep
                rw [HI.out] at hI
                obtain ⟨vq0, vq1, vq2, vq3, vq4, vq5, vq6, vq7, vq8, vq9, vq10, vq11, vq12, hact, hS, hq0, hq1, hq2, hq3, hq4, hq5, hq6, hq7, hq8, hq9, hq10, hq11, hq12, oq13, nq13, dq13_4, dq13_8⟩ := hI
                subst hact
                rw [hT0]; simp only [sets, List.setIfInBounds_toArray, List.set_cons_zero, List.set_cons_succ]
                go_simp
                rw [HI.out]
                exact ⟨vq0, vq1, vq2, vq3, vq4, hptr hg, vq6, vq7, vq8, vq9, vq10, vq11, vq12, by simp only [sets, List.setIfInBounds_toArray, List.set_cons_zero, List.set_cons_succ], hS, keepI hq0 rfl, keepI hq1 rfl, keepI hq2 rfl, keepI hq3 rfl, keepI hq4 rfl, fun _ => rfl, keepI hq6 rfl, keepI hq7 rfl, keepI hq8 rfl, keepI hq9 rfl, keepI hq10 rfl, keepI hq11 rfl, keepI hq12 rfl, keepF oq13, keepI nq13 rfl, keepD dq13_4 rfl, keepD dq13_8 rfl⟩
              · intro L act W hI hno hdep
                rw [HI.out] at hI
                obtain ⟨vq0, vq1, vq2, vq3, vq4, vq5, vq6, vq7, vq8, vq9, vq10, vq11, vq12, hact, hS, hq0, hq1, hq2, hq3, hq4, hq5, hq6, hq7, hq8, hq9, hq10, hq11, hq12, oq13, nq13, dq13_4, dq13_8⟩ := hI
                subst hact
                obtain rfl := hq5 (hdep ⟨5, .data⟩ (by simp) rfl)
                rw [hT0]; simp only [sets, List.setIfInBounds_toArray, List.set_cons_zero, List.set_cons_succ]
                go_simp
                rw [HI.out]
                exact ⟨vq0, vq1, vq2, vq3, vq4, hptr hg, hptr hg, vq7, vq8, vq9, vq10, vq11, vq12, by simp only [sets, List.setIfInBounds_toArray, List.set_cons_zero, List.set_cons_succ], hS, keepI hq0 rfl, keepI hq1 rfl, keepI hq2 rfl, keepI hq3 rfl, keepI hq4 rfl, fun _ => rfl, fun _ => rfl, keepI hq7 rfl, keepI hq8 rfl, keepI hq9 rfl, keepI hq10 rfl, keepI hq11 rfl, keepI hq12 rfl, keepF oq13, keepI nq13 rfl, keepD dq13_4 rfl, keepD dq13_8 rfl⟩
              · intro L act W hI hno hdep
                rw [HI.out] at hI
                obtain ⟨vq0, vq1, vq2, vq3, vq4, vq5, vq6, vq7, vq8, vq9, vq10, vq11, vq12, hact, hS, hq0, hq1, hq2, hq3, hq4, hq5, hq6, hq7, hq8, hq9, hq10, hq11, hq12, oq13, nq13, dq13_4, dq13_8⟩ := hI
                subst hact
                obtain rfl := hq6 (hdep ⟨6, .data⟩ (by simp) rfl)
                rw [hT0]; simp only [sets, List.setIfInBounds_toArray, List.set_cons_zero, List.set_cons_succ]
                go_simp
                rw [HI.out]
                exact ⟨vq0, vq1, vq2, vq3, vq4, vq5, hptr hg, .pointer (some ⟨hg, 8, none⟩), vq8, vq9, vq10, vq11, vq12, by simp only [sets, List.setIfInBounds_toArray, List.set_cons_zero, List.set_cons_succ], hS, keepI hq0 rfl, keepI hq1 rfl, keepI hq2 rfl, keepI hq3 rfl, keepI hq4 rfl, keepI hq5 rfl, fun _ => rfl, fun _ => rfl, keepI hq8 rfl, keepI hq9 rfl, keepI hq10 rfl, keepI hq11 rfl, keepI hq12 rfl, keepF oq13, keepI nq13 rfl, keepD dq13_4 rfl, keepD dq13_8 rfl⟩
              · intro L act W hI hno hdep
                rw [HI.out] at hI
                obtain ⟨vq0, vq1, vq2, vq3, vq4, vq5, vq6, vq7, vq8, vq9, vq10, vq11, vq12, hact, hS, hq0, hq1, hq2, hq3, hq4, hq5, hq6, hq7, hq8, hq9, hq10, hq11, hq12, oq13, nq13, dq13_4, dq13_8⟩ := hI
                subst hact
                obtain rfl := hq7 (hdep ⟨7, .data⟩ (by simp) rfl)
                rw [hT0]; simp only [sets, List.setIfInBounds_toArray, List.set_cons_zero, List.set_cons_succ]
                have hq := oq13 (noF dq13_8 hno)
                obtain ⟨⟨c0, c1, c2, c3, c4, c5, c6, c7, c8, c9⟩, -⟩ := hrow_at hq
                have hhb := lt_of_block hq
                go_simp
                rw [HI.out]
                exact ⟨vq0, vq1, vq2, vq3, vq4, vq5, vq6, .pointer (some ⟨hg, 8, none⟩), .slice (some ⟨g, off, none⟩) r.length cap, vq9, vq10, vq11, vq12, by simp only [sets, List.setIfInBounds_toArray, List.set_cons_zero, List.set_cons_succ], hS, keepI hq0 rfl, keepI hq1 rfl, keepI hq2 rfl, keepI hq3 rfl, keepI hq4 rfl, keepI hq5 rfl, keepI hq6 rfl, fun _ => rfl, fun _ => rfl, keepI hq9 rfl, keepI hq10 rfl, keepI hq11 rfl, keepI hq12 rfl, keepF oq13, keepI nq13 rfl, keepD dq13_4 rfl, keepD dq13_8 rfl⟩
              · intro L act W hI hno hdep
                rw [HI.out] at hI
                obtain ⟨vq0, vq1, vq2, vq3, vq4, vq5, vq6, vq7, vq8, vq9, vq10, vq11, vq12, hact, hS, hq0, hq1, hq2, hq3, hq4, hq5, hq6, hq7, hq8, hq9, hq10, hq11, hq12, oq13, nq13, dq13_4, dq13_8⟩ := hI
                subst hact
                obtain rfl := hq8 (hdep ⟨8, .data⟩ (by simp) rfl)
                rw [hT0]; simp only [sets, List.setIfInBounds_toArray, List.set_cons_zero, List.set_cons_succ]
                go_simp
                rw [HI.out]
                exact ⟨vq0, vq1, vq2, vq3, vq4, vq5, vq6, vq7, .slice (some ⟨g, off, none⟩) r.length cap, .slice (some ⟨g, off, none⟩) 64 cap, vq10, vq11, vq12, by simp only [sets, List.setIfInBounds_toArray, List.set_cons_zero, List.set_cons_succ], hS, keepI hq0 rfl, keepI hq1 rfl, keepI hq2 rfl, keepI hq3 rfl, keepI hq4 rfl, keepI hq5 rfl, keepI hq6 rfl, keepI hq7 rfl, fun _ => rfl, fun _ => rfl, keepI hq10 rfl, keepI hq11 rfl, keepI hq12 rfl, keepF oq13, keepI nq13 rfl, keepD dq13_4 rfl, keepD dq13_8 rfl⟩
              · intro L act W hI hno hdep
                rw [HI.out] at hI
                obtain ⟨vq0, vq1, vq2, vq3, vq4, vq5, vq6, vq7, vq8, vq9, vq10, vq11, vq12, hact, hS, hq0, hq1, hq2, hq3, hq4, hq5, hq6, hq7, hq8, hq9, hq10, hq11, hq12, oq13, nq13, dq13_4, dq13_8⟩ := hI
                subst hact
                obtain rfl := hq4 (hdep ⟨4, .data⟩ (by simp) rfl)
                obtain rfl := hq9 (hdep ⟨9, .data⟩ (by simp) rfl)
                rw [hT0]; simp only [sets, List.setIfInBounds_toArray, List.set_cons_zero, List.set_cons_succ]
                go_simp
                refine (CMX.out _ hS.2).mono ?_
                rintro e W2 ⟨rfl, hb⟩
                rw [HI.out]
                exact ⟨vq0, vq1, vq2, vq3, .agg #[.int .u32 ((nth st 0 : Nat) : Int), .int .u32 ((nth st 1 : Nat) : Int), .int .u32 ((nth st 2 : Nat) : Int), .int .u32 ((nth st 3 : Nat) : Int), .int .u32 ((nth st 4 : Nat) : Int), .int .u32 ((nth st 5 : Nat) : Int), .int .u32 ((nth st 6 : Nat) : Int), .int .u32 ((nth st 7 : Nat) : Int)], vq5, vq6, vq7, vq8, .slice (some ⟨g, off, none⟩) 64 cap, .agg #[.int .u32 ((nth sn 0 : Nat) : Int), .int .u32 ((nth sn 1 : Nat) : Int), .int .u32 ((nth sn 2 : Nat) : Int), .int .u32 ((nth sn 3 : Nat) : Int), .int .u32 ((nth sn 4 : Nat) : Int), .int .u32 ((nth sn 5 : Nat) : Int), .int .u32 ((nth sn 6 : Nat) : Int), .int .u32 ((nth sn 7 : Nat) : Int)], vq11, vq12, by simp only [sets, List.setIfInBounds_toArray, List.set_cons_zero, List.set_cons_succ], ⟨hS.1.trans (Keeps.of_below (F := fun _ => False) hb) (fun _ h => h.elim), keepH hb hS.2⟩, keepI hq0 rfl, keepI hq1 rfl, keepI hq2 rfl, keepI hq3 rfl, fun _ => rfl, keepI hq5 rfl, keepI hq6 rfl, keepI hq7 rfl, keepI hq8 rfl, fun _ => rfl, fun _ => rfl, keepI hq11 rfl, keepI hq12 rfl, keepF (fun h => keepH hb (oq13 h)), keepI (fun h => keepH hb (nq13 h)) rfl, keepD dq13_4 rfl, keepD dq13_8 rfl⟩
              · intro L act W hI hno hdep
                rw [HI.out] at hI
                obtain ⟨vq0, vq1, vq2, vq3, vq4, vq5, vq6, vq7, vq8, vq9, vq10, vq11, vq12, hact, hS, hq0, hq1, hq2, hq3, hq4, hq5, hq6, hq7, hq8, hq9, hq10, hq11, hq12, oq13, nq13, dq13_4, dq13_8⟩ := hI
                subst hact
                obtain rfl := hq0 (hdep ⟨0, .data⟩ (by simp) rfl)
                rw [hT0]; simp only [sets, List.setIfInBounds_toArray, List.set_cons_zero, List.set_cons_succ]
                go_simp
                rw [HI.out]
                exact ⟨hptr hg, vq1, vq2, vq3, vq4, vq5, vq6, vq7, vq8, vq9, vq10, hptr hg, vq12, by simp only [sets, List.setIfInBounds_toArray, List.set_cons_zero, List.set_cons_succ], hS, fun _ => rfl, keepI hq1 rfl, keepI hq2 rfl, keepI hq3 rfl, keepI hq4 rfl, keepI hq5 rfl, keepI hq6 rfl, keepI hq7 rfl, keepI hq8 rfl, keepI hq9 rfl, keepI hq10 rfl, fun _ => rfl, keepI hq12 rfl, keepF oq13, keepI nq13 rfl, keepD dq13_4 rfl, keepD dq13_8 rfl⟩
              · intro L act W hI hno hdep
                rw [HI.out] at hI
                obtain ⟨vq0, vq1, vq2, vq3, vq4, vq5, vq6, vq7, vq8, vq9, vq10, vq11, vq12, hact, hS, hq0, hq1, hq2, hq3, hq4, hq5, hq6, hq7, hq8, hq9, hq10, hq11, hq12, oq13, nq13, dq13_4, dq13_8⟩ := hI
                subst hact
                obtain rfl := hq11 (hdep ⟨11, .data⟩ (by simp) rfl)
                rw [hT0]; simp only [sets, List.setIfInBounds_toArray, List.set_cons_zero, List.set_cons_succ]
                go_simp
                rw [HI.out]
                exact ⟨vq0, vq1, vq2, vq3, vq4, vq5, vq6, vq7, vq8, vq9, vq10, hptr hg, hptr hg, by simp only [sets, List.setIfInBounds_toArray, List.set_cons_zero, List.set_cons_succ], hS, keepI hq0 rfl, keepI hq1 rfl, keepI hq2 rfl, keepI hq3 rfl, keepI hq4 rfl, keepI hq5 rfl, keepI hq6 rfl, keepI hq7 rfl, keepI hq8 rfl, keepI hq9 rfl, keepI hq10 rfl, fun _ => rfl, fun _ => rfl, keepF oq13, keepI nq13 rfl, keepD dq13_4 rfl, keepD dq13_8 rfl⟩
              · intro L act W hI hno hdep
                rw [HI.out] at hI
                obtain ⟨vq0, vq1, vq2, vq3, vq4, vq5, vq6, vq7, vq8, vq9, vq10, vq11, vq12, hact, hS, hq0, hq1, hq2, hq3, hq4, hq5, hq6, hq7, hq8, hq9, hq10, hq11, hq12, oq13, nq13, dq13_4, dq13_8⟩ := hI
                subst hact
                obtain rfl := hq12 (hdep ⟨12, .data⟩ (by simp) rfl)
                obtain rfl := hq10 (hdep ⟨10, .data⟩ (by simp) rfl)
                have hg1 := oq13 hno
                rw [hT0]; simp only [sets, List.setIfInBounds_toArray, List.set_cons_zero, List.set_cons_succ]
                with_reducible refine wp_store_mid 94 (Operand.tmp 49) (Operand.tmp 47) rfl hg 0 (st8 sn) ?_ ?_ (hrow_there hg1 sn) (by kernel_rfl) (by simp [Value.oneCell']) ?_
                · rfl
                · rfl
                rw [HI.out]
                exact ⟨vq0, vq1, vq2, vq3, vq4, vq5, vq6, vq7, vq8, vq9, .agg #[.int .u32 ((nth sn 0 : Nat) : Int), .int .u32 ((nth sn 1 : Nat) : Int), .int .u32 ((nth sn 2 : Nat) : Int), .int .u32 ((nth sn 3 : Nat) : Int), .int .u32 ((nth sn 4 : Nat) : Int), .int .u32 ((nth sn 5 : Nat) : Int), .int .u32 ((nth sn 6 : Nat) : Int), .int .u32 ((nth sn 7 : Nat) : Int)], vq11, hptr hg, by simp only [sets, Act.put, List.setIfInBounds_toArray, List.set_cons_zero, List.set_cons_succ], ⟨Keeps.setCells (F := fun b => b = hg) (Or.inl rfl) _ _ _ hS.1, (other_setCells hghg _ _ _).trans hS.2⟩, keepI hq0 rfl, keepI hq1 rfl, keepI hq2 rfl, keepI hq3 rfl, keepI hq4 rfl, keepI hq5 rfl, keepI hq6 rfl, keepI hq7 rfl, keepI hq8 rfl, keepI hq9 rfl, fun _ => rfl, keepI hq11 rfl, fun _ => rfl, alsoF, fun _ => hrow_cells8 hg1 sn, fun _ => alsoD (hdep ⟨4, .phase⟩ (by simp) rfl), fun _ => alsoD (hdep ⟨8, .phase⟩ (by simp) rfl)⟩
            case fin =>
              intro L act W hall hI
              rw [HI.out] at hI
              obtain ⟨vq0, vq1, vq2, vq3, vq4, vq5, vq6, vq7, vq8, vq9, vq10, vq11, vq12, hact, hS, hq0, hq1, hq2, hq3, hq4, hq5, hq6, hq7, hq8, hq9, hq10, hq11, hq12, oq13, nq13, dq13_4, dq13_8⟩ := hI
              subst hact
              obtain rfl := hq0 (hall 0 (by decide))
              obtain rfl := hq1 (hall 1 (by decide))
              obtain rfl := hq2 (hall 2 (by decide))
              obtain rfl := hq3 (hall 3 (by decide))
              obtain rfl := hq4 (hall 4 (by decide))
              obtain rfl := hq5 (hall 5 (by decide))
              obtain rfl := hq6 (hall 6 (by decide))
              obtain rfl := hq7 (hall 7 (by decide))
              obtain rfl := hq8 (hall 8 (by decide))
              obtain rfl := hq9 (hall 9 (by decide))
              obtain rfl := hq10 (hall 10 (by decide))
              obtain rfl := hq11 (hall 11 (by decide))
              obtain rfl := hq12 (hall 12 (by decide))
              have thh := Lib.hid (nq13 (hall 13 (by decide)))
              clear hq0 hq1 hq2 hq3 hq4 hq5 hq6 hq7 hq8 hq9 hq10 hq11 hq12 oq13 nq13 dq13_4 dq13_8 hall
              rw [hT0]; simp only [sets, List.setIfInBounds_toArray, List.set_cons_zero, List.set_cons_succ]
              clear hT0 HI
              have c8 := (hrow_at thh.out).1.2.2.2.2.2.2.2.2.1
              have f8 := (hrow_at thh.out).2 8
              have hhb := lt_of_block thh.out
              have hKW : Keeps (HF hg v0) w W := HJ.out.keeps.trans hS.1 (fun b h => Or.inl (Or.inl h))
              have hdr2 : bz.drop (64 * (m + 1)) = r.drop 64 := by rw [HR0.out, List.drop_drop]; congr 1
              have hgW : ∀ u : Value, (W.setCell ⟨hg, 8, none⟩ u).heap[g]? = some (.cells cur 5 (0, 0)) := fun u => (heap_setCell_other W ⟨hg, 8, none⟩ _ u hghg).trans hS.2
              have AMN : ∀ u : Value, u.ownBlock = some g → RestV (W.setCell ⟨hg, 8, none⟩ u) u (r.drop 64) → AddMid w B hg v0 bz (bz.length - 64 * (m + 1)) (W.setCell ⟨hg, 8, none⟩ u) := fun u hu hr' => by
                have h5 := HML.out; have h6 := HRLX.out
                refine ⟨hKW.setCell _ (Or.inl (Or.inl rfl)), u, m + 1, ⟨by omega, ?_, by rw [hdr2]; exact hr'⟩, by omega, fun b hb => HVN2.out b (by rw [← hb, hu]; rfl)⟩
                rw [HNX.out]; exact hrow_set8 thh.out u
              have HAMN := Lib.hid AMN
              have HME : Hid (bz.length - 64 * (m + 1) < gk) := by show _ < _; have h5 := HML.out; have h6 := HRLX.out; omega
              clear AMN hdr2 hKW
              by_cases hc64 : cap = 64
              · have hf1 := Lib.hid (HAMN.out (.slice (some ⟨g, off, none⟩) (r.length - 64) 0) rfl (rest_empty (hgW _) (by omega) (by omega)))
                clear hgW
                go_wp2_with fail
                go_roundg (bz.length - 64 * (m + 1))
                case measure => exact HME.out
                case rel => exact hf1
              · have hf1 := Lib.hid (HAMN.out (.slice (some ⟨g, off + 64, none⟩) (r.length - 64) (cap - 64)) rfl ((rest_shift (hgW _) h1 h2 H3.out).resolve_right (by omega)))
                clear hgW
                go_wp2_with fail
                go_roundg (bz.length - 64 * (m + 1))
                case measure => exact HME.out
                case rel => exact hf1
/-- Add, its pieces below the hasher. -/
theorem add_h (B hg : Nat) (v0 lv : Value) (bs0 : List Nat) (pss : List (List Nat)) (w : World) (hh : HasherV w hg v0 bs0) (hp : Pcs w B lv pss) (hbg : B ≤ hg) (hbv : ∀ b, v0.ownBlock = some b → B ≤ b) (hby : ∀ y, y ∈ bs0 ++ pss.flatten → y < 256)
    (hlen : (bs0 ++ pss.flatten).length ≤ 1000000000) (hpl : pss.length ≤ 1000000) :
    Calls Try.prog 44 #[hptr hg, lv] w fun e w' => e = .returned (.tuple #[]) ∧ Hid (HAddInv w B hg v0 bs0 pss pss.length w') :=
  hadd_s B _ hg v0 lv bs0 pss w hh hp (fun b hb e => by have hb' : b < B := hb; omega) (fun b hv hb => by have hb' : b < B := hb; have := hbv b hv; omega) hby hlen hpl
end Go.Proofs.Ytljcaegcbcikiaa
namespace Go.Proofs.Ytljcaegcbcikiaa
open Go.RowKit
/-- What Sum holds while it writes what comes behind: z so far. -/
structure PadInv (w : World) (v : Value) (z : List Nat) (wr : World) : Prop where
  below : Below w.heap.size w wr
  out : wr.heap[w.heap.size]? = some (Obj.cells (wcells .u8 (List.replicate 32 0)) 33 (0, 0))
  rest : RestV wr v z
  own : ∀ b, v.ownBlock = some b → w.heap.size < b
theorem PadInv.app {w wr W2 : World} {v v2 : Value} {z zz : List Nat} (h : PadInv w v z wr) (R : RestV W2 v2 zz) (K : Keeps (fun b => v.ownBlock = some b) wr W2) (Nn : ∀ b, v2.ownBlock = some b → v.ownBlock = some b ∨ b = wr.heap.size) : PadInv w v2 zz W2 := by
  have hlt := lt_of_block h.out
  refine ⟨?_, (K.block _ hlt (fun e => by have := h.own _ e; omega)).trans h.out, R, fun b hb => ?_⟩
  · exact h.below.trans ⟨K.os, K.tape, K.output, K.size, fun b hb => K.block b (Nat.lt_of_lt_of_le hb h.below.size) (fun e => by have := h.own _ e; omega)⟩
  · rcases Nn b hb with h1 | h1
    · exact h.own b h1
    · rw [h1]; exact hlt
theorem PadInv.alloc {w wr : World} {v : Value} {z : List Nat} (h : PadInv w v z wr) (o : Obj) : PadInv w v z (wr.alloc o) :=
  ⟨h.below.alloc h.below.size o, (Below.heap_alloc wr o _ (lt_of_block h.out)).trans h.out, h.rest.keep (F := fun _ => False) (Keeps.of_below ((Below.refl _ _).alloc (Nat.le_refl _) o)) (fun _ _ h => h), h.own⟩
theorem one_src (W : World) (b : Nat) (y : Nat) (h : W.cell? ⟨b, 0, none⟩ = some (.int .u8 ((y : Nat) : Int))) : SrcB W (.slice (some ⟨b, 0, none⟩) 1 1) [y] := srcB_slice W b 0 1 [y] (fun i hi => by
  obtain rfl : i = 0 := by simpa using hi
  exact h)
theorem be8_take (n k : Nat) (h : k < 8) : (be8 n).take (k + 1) = (be8 n).take k ++ [n / 2 ^ (56 - 8 * k) % 256] := by
  rw [List.take_add_one]
  congr 1
  unfold be8
  rw [List.getElem?_map, List.getElem?_range h]; rfl
theorem be8_len (n : Nat) : (be8 n).length = 8 := by simp [be8]
/-- What Sum's block loop holds: k pieces are mixed in. -/
structure BlkInv (w : World) (G6 : Nat) (s0 pd : List Nat) (v : Value) (k : Nat) (wr : World) : Prop where
  below : Below w.heap.size w wr
  out : wr.heap[w.heap.size]? = some (Obj.cells (wcells .u8 (List.replicate 32 0)) 33 (0, 0))
  cur : wr.heap[G6]? = some (.cells (wcells .u32 (runB s0 pd k)) 94 (0, 0))
  rest : RestV wr v (pd.drop (64 * k))
/-- What its last loop holds: the bytes of i words. -/
structure OutInv (w : World) (G7 : Nat) (fs : List Nat) (i : Nat) (wr : World) : Prop where
  below : Below w.heap.size w wr
  out : wr.heap[w.heap.size]? = some (Obj.cells (wcells .u8 (List.replicate 32 0)) 33 (0, 0))
  row : ∃ l : List Nat, l.length = 32 ∧ (∀ j, j < 4 * i → nth l j = nth (outB fs) j) ∧ wr.heap[G7]? = some (.cells (wcells .u8 l) 33 (0, 0))
theorem St.cons' {w W : World} {L : List (Nat × Obj)} (_ : St w L w) (hb : Below w.heap.size w W) {g : Nat} {o : Obj} (hg : W.heap[g]? = some o) : St w [(g, o)] W := ⟨hb, fun p hp => by
  rcases List.mem_cons.1 hp with rfl | hp
  · exact hg
  · cases hp⟩
theorem sha_tail (bs : List Nat) (n : Nat) (hn : n = bs.length / 64) (hl : bs.length ≤ 1000000000) : outB (runB (runB HL bs n) (bs.drop (64 * n) ++ [128] ++ List.replicate (pads (bs.drop (64 * n)).length) 0 ++ be8 (8 * bs.length)) ((bs.drop (64 * n) ++ [128] ++ List.replicate (pads (bs.drop (64 * n)).length) 0 ++ be8 (8 * bs.length)).length / 64)) = sha bs := by
  have h64 : 64 * n ≤ bs.length := by omega
  have hdl : (bs.drop (64 * n)).length = bs.length - 64 * n := List.length_drop
  have hpe : pads (bs.drop (64 * n)).length = pads bs.length := by rw [hdl]; unfold pads; omega
  have hmod : 8 * bs.length % 18446744073709551616 = 8 * bs.length := Nat.mod_eq_of_lt (by omega)
  have hT : (padded bs).drop (64 * n) = bs.drop (64 * n) ++ [128] ++ List.replicate (pads (bs.drop (64 * n)).length) 0 ++ be8 (8 * bs.length) := by
    unfold padded
    rw [hmod, hpe, List.append_assoc, List.append_assoc, List.append_assoc, List.append_assoc, List.drop_append_of_le_length h64]
  rw [← hT]
  have hlen := padded_len bs
  have hTl : ((padded bs).drop (64 * n)).length = (padded bs).length - 64 * n := List.length_drop
  unfold sha
  congr 1
  rw [show (padded bs).length / 64 = n + ((padded bs).drop (64 * n)).length / 64 by rw [hTl]; omega, runB_add]
  congr 1
  refine runB_congr HL _ _ n (fun i hi => ?_)
  unfold padded
  rw [List.append_assoc, List.append_assoc, nth_append_left _ _ _ (by omega)]
theorem index_s0 (a b c d e f g h : Nat) (w : World) : (Instr.index 94 (.agg (wcells .u32 [a, b, c, d, e, f, g, h])) (.int .i64 ((0 : Nat) : Int))).run Try.prog w = .ok (.int .u32 ((a : Nat) : Int)) w := by kernel_rfl
theorem index_s1 (a b c d e f g h : Nat) (w : World) : (Instr.index 94 (.agg (wcells .u32 [a, b, c, d, e, f, g, h])) (.int .i64 ((1 : Nat) : Int))).run Try.prog w = .ok (.int .u32 ((b : Nat) : Int)) w := by kernel_rfl
theorem index_s2 (a b c d e f g h : Nat) (w : World) : (Instr.index 94 (.agg (wcells .u32 [a, b, c, d, e, f, g, h])) (.int .i64 ((2 : Nat) : Int))).run Try.prog w = .ok (.int .u32 ((c : Nat) : Int)) w := by kernel_rfl
theorem index_s3 (a b c d e f g h : Nat) (w : World) : (Instr.index 94 (.agg (wcells .u32 [a, b, c, d, e, f, g, h])) (.int .i64 ((3 : Nat) : Int))).run Try.prog w = .ok (.int .u32 ((d : Nat) : Int)) w := by kernel_rfl
theorem index_s4 (a b c d e f g h : Nat) (w : World) : (Instr.index 94 (.agg (wcells .u32 [a, b, c, d, e, f, g, h])) (.int .i64 ((4 : Nat) : Int))).run Try.prog w = .ok (.int .u32 ((e : Nat) : Int)) w := by kernel_rfl
theorem index_s5 (a b c d e f g h : Nat) (w : World) : (Instr.index 94 (.agg (wcells .u32 [a, b, c, d, e, f, g, h])) (.int .i64 ((5 : Nat) : Int))).run Try.prog w = .ok (.int .u32 ((f : Nat) : Int)) w := by kernel_rfl
theorem index_s6 (a b c d e f g h : Nat) (w : World) : (Instr.index 94 (.agg (wcells .u32 [a, b, c, d, e, f, g, h])) (.int .i64 ((6 : Nat) : Int))).run Try.prog w = .ok (.int .u32 ((g : Nat) : Int)) w := by kernel_rfl
theorem index_s7 (a b c d e f g h : Nat) (w : World) : (Instr.index 94 (.agg (wcells .u32 [a, b, c, d, e, f, g, h])) (.int .i64 ((7 : Nat) : Int))).run Try.prog w = .ok (.int .u32 ((h : Nat) : Int)) w := by kernel_rfl
theorem index_st (l : List Nat) (hl : l.length = 8) (i : Nat) (hi : i < 8) (w : World) : (Instr.index 94 (.agg (wcells .u32 l)) (.int .i64 (i : Int))).run Try.prog w = .ok (.int .u32 ((nth l i : Nat) : Int)) w := by
  match l, hl with
  | [a, b, c, d, e, f, g, h], _ =>
    match i, hi with
    | 0, _ => exact index_s0 a b c d e f g h w
    | 1, _ => exact index_s1 a b c d e f g h w
    | 2, _ => exact index_s2 a b c d e f g h w
    | 3, _ => exact index_s3 a b c d e f g h w
    | 4, _ => exact index_s4 a b c d e f g h w
    | 5, _ => exact index_s5 a b c d e f g h w
    | 6, _ => exact index_s6 a b c d e f g h w
    | 7, _ => exact index_s7 a b c d e f g h w
theorem outB_at (fs : List Nat) (i j : Nat) (hi : i < 8) (hj : j < 4) : nth (outB fs) (4 * i + j) = nth fs i / 2 ^ (24 - 8 * j) % 256 := by
  unfold outB
  rw [nth_range _ _ _ (by omega), show (4 * i + j) / 4 = i by omega, show (4 * i + j) % 4 = j by omega]
theorem OutInv.step {w wr : World} {G7 : Nat} {fs : List Nat} {i : Nat} (h : OutInv w G7 fs i wr) (hi : i < 8) (hG : w.heap.size < G7) (xw : Nat) (hx : nth fs i = xw) :
    OutInv w G7 fs (i + 1) ((((wr.setCell ⟨G7, 4 * i, none⟩ (.int .u8 ((xw : Int) / 16777216 % 256))).setCell ⟨G7, 4 * i + 1, none⟩ (.int .u8 ((xw : Int) / 65536 % 256))).setCell ⟨G7, 4 * i + 2, none⟩ (.int .u8 ((xw : Int) / 256 % 256))).setCell ⟨G7, 4 * i + 3, none⟩ (.int .u8 ((xw : Int) % 256))) := by
  have e0 : (xw : Int) / 16777216 % 256 = ((nth (outB fs) (4 * i + 0) : Nat) : Int) := by rw [outB_at fs i 0 hi (by omega), hx]; simp
  have e1 : (xw : Int) / 65536 % 256 = ((nth (outB fs) (4 * i + 1) : Nat) : Int) := by rw [outB_at fs i 1 hi (by omega), hx]; simp
  have e2 : (xw : Int) / 256 % 256 = ((nth (outB fs) (4 * i + 2) : Nat) : Int) := by rw [outB_at fs i 2 hi (by omega), hx]; simp
  have e3 : (xw : Int) % 256 = ((nth (outB fs) (4 * i + 3) : Nat) : Int) := by rw [outB_at fs i 3 hi (by omega), hx]; simp
  rw [e0, e1, e2, e3]
  obtain ⟨l, hl, hp, hr⟩ := h.row
  have other : ∀ (W : World) (o : Nat) (v : Value), W.heap[w.heap.size]? = some (Obj.cells (wcells .u8 (List.replicate 32 0)) 33 (0, 0)) → (W.setCell ⟨G7, o, none⟩ v).heap[w.heap.size]? = some (Obj.cells (wcells .u8 (List.replicate 32 0)) 33 (0, 0)) := fun W o v hW => (heap_setCell_other W ⟨G7, o, none⟩ _ v (by show w.heap.size ≠ G7; omega)).trans hW
  have hB : w.heap.size ≤ G7 := by omega
  refine ⟨(((h.below.setCell hB _).setCell hB _).setCell hB _).setCell hB _, other _ _ _ (other _ _ _ (other _ _ _ (other _ _ _ h.out))), (((l.set (4 * i) (nth (outB fs) (4 * i + 0))).set (4 * i + 1) (nth (outB fs) (4 * i + 1))).set (4 * i + 2) (nth (outB fs) (4 * i + 2))).set (4 * i + 3) (nth (outB fs) (4 * i + 3)), by simpa using hl, fun j hj => ?_, set_w (set_w (set_w (set_w hr _ _) _ _) _ _) _ _⟩
  rw [nth_set _ _ _ _ (by simp; omega), nth_set _ _ _ _ (by simp; omega), nth_set _ _ _ _ (by simp; omega), nth_set _ _ _ _ (by omega)]
  split
  · next e => rw [e]
  · split
    · next e => rw [e]
    · split
      · next e => rw [e]
      · split
        · next e => rw [← e]; rfl
        · exact hp j (by omega)
theorem RestV.notin {W : World} {g : Nat} {v : Value} {r : List Nat} {cs : Array Value} {t : TypeId} {fr : Nat × Nat} (h : RestV W v r) (hr : W.heap[g]? = some (.cells cs t fr)) (ht : t ≠ 5) : v.ownBlock ≠ some g := by
  rcases h with ⟨rfl, -⟩ | ⟨g', off, cap, cur, rfl, hgg, -⟩
  · simp [Value.ownBlock]
  · intro e
    simp [Value.ownBlock] at e
    subst e
    have := hgg.symm.trans hr
    simp at this
    exact ht this.2.1.symm
set_option maxRecDepth 100000 in
set_option maxHeartbeats 4000000 in
theorem sum_h (hg : Nat) (v0 : Value) (bs : List Nat) (w : World) (hh : HasherV w hg v0 bs) (hby : ∀ y, y ∈ bs → y < 256) (hlen : bs.length ≤ 1000000000) :
    Calls Try.prog 45 #[hptr hg] w fun e w' => e = .returned (.agg (wcells .u8 (sha bs))) ∧ Below w.heap.size w w' := by
  have HH := Lib.hid hh; have HBY := Lib.hid hby; have HLEN := Lib.hid hlen
  have hhrow := hh.row
  have hhb := lt_of_block hhrow
  obtain ⟨va0, vc0, hve⟩ := hh.rest.shape
  subst hve
  obtain ⟨n, hn⟩ : ∃ n, n = bs.length / 64 := ⟨_, rfl⟩
  have hn64 : 64 * n ≤ bs.length := by omega
  have hrest := hh.rest
  rw [← hn] at hhrow hrest
  obtain ⟨r, hr⟩ : ∃ r, r = bs.drop (64 * n) := ⟨_, rfl⟩
  have hrl : r.length < 64 := by rw [hr, List.length_drop]; omega
  rw [← hr] at hrest hhrow
  have c8 := (hrow_at hhrow).1.2.2.2.2.2.2.2.2.1
  have c9 := (hrow_at hhrow).1.2.2.2.2.2.2.2.2.2
  have I0 : Hid (PadInv w (.slice (some ⟨w.heap.size + 1, 0, none⟩) 0 0) [] ((w.alloc (Obj.cells (wcells .u8 (List.replicate 32 0)) 33 (0, 0))).alloc (.cells #[] 5))) := by
    have S := ((St.nil w).alloc (Obj.cells (wcells .u8 (List.replicate 32 0)) 33 (0, 0)) _ rfl).alloc (.cells #[] 5) (w.heap.size + 1) (by simp)
    refine ⟨S.below, S.get (List.Mem.tail _ (List.Mem.head _)), Or.inr ⟨w.heap.size + 1, 0, 0, #[], rfl, S.get (List.Mem.head _), Nat.le_refl _, Nat.le_refl _, fun i hi => absurd hi (by simp)⟩, fun b hb => ?_⟩
    simp [Value.ownBlock] at hb; omega
  have X0 : Hid (SrcB ((w.alloc (Obj.cells (wcells .u8 (List.replicate 32 0)) 33 (0, 0))).alloc (.cells #[] 5)) (.slice va0 r.length vc0) r) := (hrest.keep (F := fun _ => False) (Keeps.of_below (((Below.refl _ _).alloc (Nat.le_refl _) _).alloc (by simp) _)) (fun _ _ h => h)).src
  have hrI : (r.length : Int) < 64 := by omega
  have HR := Lib.hid hr; have HN := Lib.hid hn; have HN64 := Lib.hid hn64; have HROW := Lib.hid hhrow
  clear hh hby hlen hr hn hn64 hhrow hrest
  go_enter Try.func45, Try.ntmps45
  go_wp2_with (at_builtin; go_loud (first | (refine wpList_app (by rfl) (.tmp 10) (.tmp 14) (by rfl) _ _ (by rfl) (by rfl) [] r I0.out.rest X0.out (by simp; omega) ?_; intro v1 W1 R1 K1 N1; obtain ⟨va1, vc1, e1⟩ := R1.shape; subst e1; have I1 := Lib.hid (I0.out.app R1 K1 N1); clear R1 K1 N1) | (have I1a := Lib.hid (I1.out.alloc (.cells #[.int .u8 128] 5)); have X1 := Lib.hid (one_src (W1.alloc (.cells #[.int .u8 128] 5)) W1.heap.size 128 ((cell_of_row _ _ _ _ _ _ (heap_alloc_last _ _)).trans rfl)); rw [List.nil_append] at I1a; refine wpList_app (by rfl) (.tmp 16) (.tmp 17) (by rfl) _ _ (by rfl) (by rfl) r [128] I1a.out.rest X1.out (by simp; omega) ?_; intro v2 W2 R2 K2 N2; obtain ⟨va2, vc2, e2⟩ := R2.shape; subst e2; have I2 := Lib.hid (I1a.out.app R2 K2 N2); clear R2 K2 N2)))
  clear I0 X0 I1 I1a X1
  obtain ⟨P, hP⟩ : ∃ P, P = pads r.length := ⟨_, rfl⟩
  have HPD := Lib.hid hP
  have hPl : P < 64 := by rw [hP]; unfold pads; omega
  clear hP
  have hr0 : Hid ((r ++ [128]).length = r.length + 1) := by show _ = _; simp
  have I2' : Hid (PadInv w (.slice va2 (r.length + 1) vc2) (r ++ [128] ++ List.replicate 0 0) W2) := by
    rw [List.replicate_zero, List.append_nil, ← hr0.out]; exact I2.out
  clear I2
  go_loopg [3] P (fun t s3 wr => ∃ j Ln : Nat, ∃ a c, s3 = .slice a Ln c ∧ Ln = r.length + 1 + j ∧ j + t = P ∧ Hid (PadInv w s3 (r ++ [128] ++ List.replicate j 0) wr))
  case atStart => exact ⟨0, r.length + 1, va2, vc2, by simp, rfl, by omega, I2'⟩
  case round =>
    obtain ⟨j, Ln, a, c, rfl, hLn, hj, HJ⟩ := hrel
    have hLb : (Ln : Int) ≤ 200 := by omega
    by_cases ht : j = P
    · have h56 : (Ln : Int) % 64 = 56 := by
        have h1 := pads_56 r.length; rw [← HPD.out] at h1; omega
      obtain ⟨zb, hzb⟩ : ∃ zb, zb = r ++ [128] ++ List.replicate j 0 := ⟨_, rfl⟩
      rw [← hzb] at HJ
      have hzl : zb.length = Ln := by rw [hzb, hLn]; simp; omega
      have HZB : Hid (zb = r ++ [128] ++ List.replicate P 0) := by rw [hzb, ht]; exact rfl
      have HZL := Lib.hid hzl
      have H56 : Hid (Ln % 64 = 56) := by show _ = _; omega
      have c9' := (hrow_at ((HJ.out.below.block hg hhb).trans HROW.out)).1.2.2.2.2.2.2.2.2.2
      have hbl : (bs.length : Int) ≤ 1000000000 := by have := HLEN.out; omega
      have hh2 : hg < wr.heap.size := Nat.lt_of_lt_of_le hhb HJ.out.below.size
      have HJ0 : Hid (PadInv w (.slice a Ln c) (zb ++ (be8 (8 * bs.length)).take 0) wr) := by rw [List.take_zero, List.append_nil]; exact HJ
      clear hzb hzl hLn ht hj
      go_wp2_with fail
      clear h56
      go_loopw [3, 31] (fun s3 s31 wr => ∃ k Mn : Nat, ∃ a c, s31 = .int .i64 (k : Int) ∧ k ≤ 8 ∧ s3 = .slice a Mn c ∧ Mn = Ln + k ∧ Hid (PadInv w s3 (zb ++ (be8 (8 * bs.length)).take k) wr)) (fun _ s31 _ => (8 - intOf s31).toNat)
      case atStart => exact ⟨0, Ln, a, c, rfl, by omega, rfl, rfl, HJ0⟩
      case round =>
        obtain ⟨k, Mn, a, c, rfl, hk, rfl, hMn, HK⟩ := hrel
        have hMb : (Mn : Int) ≤ 300 := by omega
        by_cases hk8 : k = 8
        · have hge : ¬ (k : Int) < 8 := by omega
          obtain ⟨pd, hpd⟩ : ∃ pd, pd = zb ++ be8 (8 * bs.length) := ⟨_, rfl⟩
          have hz8 : zb ++ (be8 (8 * bs.length)).take k = pd := by rw [hk8, hpd, List.take_of_length_le (by rw [be8_len]; omega)]
          have hM64 : Hid (Mn % 64 = 0) := by show _ = _; have := H56.out; omega
          have hpdl : Hid (pd.length = Mn) := by show _ = _; rw [hpd, List.length_append, HZL.out, be8_len]; omega
          rw [hz8] at HK
          have HPDE : Hid (pd = r ++ [128] ++ List.replicate P 0 ++ be8 (8 * bs.length)) := by rw [hpd, HZB.out]; exact rfl
          have HPD256 : Hid (∀ y, y ∈ pd → y < 256) := fun y hy => by
            rw [HPDE.out] at hy
            simp only [List.mem_append, List.mem_cons, List.not_mem_nil, or_false, List.mem_replicate] at hy
            rcases hy with ((hy | rfl) | ⟨-, rfl⟩) | hy
            · rw [HR.out] at hy; exact HBY.out y (List.mem_of_mem_drop hy)
            · decide
            · decide
            · simp only [be8, List.mem_map] at hy; obtain ⟨i, -, rfl⟩ := hy; exact Nat.mod_lt _ (by decide)
          obtain ⟨s0, hs0⟩ : ∃ s0, s0 = runB HL bs n := ⟨_, rfl⟩
          have HS0 := Lib.hid hs0
          have hs08 : Hid (s0.length = 8) := by rw [hs0]; exact runB_len HL bs HL_len n
          have hs0w : Hid (W32 s0) := by rw [hs0]; exact runB_w HL bs HL_w n
          have hrw := (HK.out.below.block hg hhb).trans HROW.out
          rw [← hs0] at hrw
          obtain ⟨⟨c0, c1, c2, c3, c4, c5, c6, c7, -, -⟩, -⟩ := hrow_at hrw
          have hh3 : hg < wr.heap.size := lt_of_block hrw
          have K0 : Hid (BlkInv w wr.heap.size s0 pd (.slice a Mn c) 0 (wr.alloc (.cells (st8 s0) 94))) := by
            have hk2 := HK.out.alloc (.cells (st8 s0) 94)
            exact ⟨hk2.below, hk2.out, by rw [← agg8 s0 hs08.out]; exact lastH _ _ _ rfl, hk2.rest⟩
          have hG6 : w.heap.size < wr.heap.size := lt_of_block HK.out.out
          obtain ⟨G6, hG6e⟩ : ∃ G6, wr.heap.size = G6 := ⟨_, rfl⟩
          clear hk8 hz8 hpd hs0 hrw hMn
          go_wp2_with fail
          rw [hG6e] at K0 hG6
          (try rw [hG6e])
          go_loopg [3] Mn (fun t s3 wr => ∃ k Kn : Nat, ∃ a c, s3 = .slice a Kn c ∧ Kn + 64 * k = Mn ∧ t = Kn ∧ Hid (BlkInv w G6 s0 pd s3 k wr))
          case atStart => exact ⟨0, Mn, a, c, rfl, rfl, rfl, K0⟩
          case round =>
            obtain ⟨q, Kn, a, c, rfl, hq, hqt, HL3⟩ := hrel
            have hKb : (Kn : Int) ≤ 300 := by omega
            by_cases hK0 : Kn = 0
            · have hle0 : ¬ (0 : Int) < Kn := by omega
              have hq2 : q = Mn / 64 := by omega
              have hcur := HL3.out.cur
              obtain ⟨fs, hfs⟩ : ∃ fs, fs = runB s0 pd q := ⟨_, rfl⟩
              have hfs8 : fs.length = 8 := by rw [hfs]; exact runB_len s0 pd hs08.out q
              have hfsw : W32 fs := by rw [hfs]; exact runB_w s0 pd hs0w.out q
              have HFS : Hid (fs = runB s0 pd (pd.length / 64)) := by rw [hpdl.out, ← hq2]; exact hfs
              rw [← hfs] at hcur
              have hSl : w.heap.size < wr.heap.size := lt_of_block HL3.out.out
              have SL : Hid (St w [(wr.heap.size, Obj.cells (wcells .u8 (List.replicate 32 0)) 33 (0, 0)), (w.heap.size, Obj.cells (wcells .u8 (List.replicate 32 0)) 33 (0, 0)), (G6, Obj.cells (wcells .u32 fs) 94 (0, 0))] (wr.alloc (.cells (wcells .u8 (List.replicate 32 0)) 33))) :=
                (((St.nil w).cons' HL3.out.below hcur).cons HL3.out.out).alloc _ _ rfl
              have HF8 := Lib.hid hfs8; have HFW := Lib.hid hfsw
              obtain ⟨G7, hG7e⟩ : ∃ G7, wr.heap.size = G7 := ⟨_, rfl⟩
              rw [hG7e] at SL hSl
              have O0 : Hid (OutInv w G7 fs 0 (wr.alloc (.cells (wcells .u8 (List.replicate 32 0)) 33))) :=
                ⟨SL.out.below, SL.out.get (List.Mem.tail _ (List.Mem.head _)), _, List.length_replicate .., fun j hj => absurd hj (by omega), SL.out.get (List.Mem.head _)⟩
              clear hcur hfs hfs8 hfsw hq2 hq hqt hK0
              go_wp2_with (refine wpList_load_row rfl 94 (.tmp 6) rfl G6 rfl 94 (wcells .u32 fs) (0, 0) _ (SL.out.get (List.Mem.tail _ (List.Mem.tail _ (List.Mem.head _)))) Try.underlying94 rfl (by rw [wcells_size, HF8.out]; kernel_rfl) ?_)
              go_loopw [58] (fun s wr => ∃ i : Nat, s = .int .i64 (i : Int) ∧ i ≤ 8 ∧ Hid (OutInv w G7 fs i wr)) (fun s _ => (8 - intOf s).toNat)
              case atStart => exact ⟨0, rfl, by omega, O0⟩
              case round =>
                obtain ⟨i, rfl, hi, HO⟩ := hrel
                by_cases hi8 : i = 8
                · have hge8 : ¬ (i : Int) < 8 := by omega
                  obtain ⟨l, hl, hp, hrw⟩ := HO.out.row
                  have hle : l = outB fs := nth_ext _ _ (by rw [hl, outB_len]) (fun j hj => hp j (by omega))
                  have HLE := Lib.hid hle; have HLL := Lib.hid hl; have HRW := Lib.hid hrw
                  clear hle hl hp hrw hi8
                  go_wp2_with (first
                    | (refine wpList_load_row rfl 33 (.tmp 7) rfl G7 rfl 33 (wcells .u8 l) (0, 0) _ HRW.out Try.underlying33 rfl (by rw [wcells_size, HLL.out]; kernel_rfl) ?_)
                    | (refine wpList_store_row rfl 33 (.tmp 2) (.tmp 89) rfl w.heap.size (wcells .u8 l) rfl rfl 33 (wcells .u8 (List.replicate 32 0)) HO.out.out (by rw [wcells_size, HLL.out]; kernel_rfl) (by rw [wcells_size, wcells_size, HLL.out, List.length_replicate]) (wcells_one _ _) ?_))
                  refine bodyPost_ret (results_cell_row rfl _ _ w.heap.size 33 (wcells .u8 l) (0, 0) _ rfl (setRow_heap _ _ _ _ _ _ HO.out.out) Try.underlying33 rfl (by rw [wcells_size, HLL.out]; kernel_rfl)) rfl ?_
                  exact ⟨by rw [HLE.out, HFS.out, HS0.out, HPDE.out, HPD.out, HR.out, sha_tail bs n HN.out HLEN.out], below_setRow HO.out.below (Nat.le_refl _) _⟩
                · have hlt8 : (i : Int) < 8 := by omega
                  have hix := index_st fs HF8.out i (by omega) wr
                  obtain ⟨l, hl, hp, hrw⟩ := HO.out.row
                  have fz := frozen_of_row wr G7 (4 * i) _ _ hrw; have fz1 := frozen_of_row wr G7 (4 * i + 1) _ _ hrw; have fz2 := frozen_of_row wr G7 (4 * i + 2) _ _ hrw; have fz3 := frozen_of_row wr G7 (4 * i + 3) _ _ hrw
                  have d0 := cell_w hrw (4 * i) (by omega); have d1 := cell_w hrw (4 * i + 1) (by omega); have d2 := cell_w hrw (4 * i + 2) (by omega); have d3 := cell_w hrw (4 * i + 3) (by omega)
                  have hG7b := lt_of_block hrw
                  obtain ⟨xw, hxw⟩ : ∃ xw, nth fs i = xw := ⟨_, rfl⟩
                  rw [hxw] at hix
                  clear hl hp hrw
                  have hOS := Lib.hid (HO.out.step (show i < 8 by omega) hSl xw hxw)
                  clear hxw
                  go_wp2_with fail
                  go_roundw
                  case rel => exact ⟨i + 1, by go_num, by omega, hOS.out⟩
                  case measure => simp [intOf]; omega
            · have hlt0 : (0 : Int) < Kn := by omega
              have h64 : 64 ≤ Kn := by have := hM64.out; omega
              have hge64 : (64 : Int) ≤ Kn := by omega
              have hcur := HL3.out.cur
              have hnot := HL3.out.rest.notin hcur (by decide)
              have hdl : (pd.drop (64 * q)).length = Kn := by rw [List.length_drop, hpdl.out]; omega
              obtain ⟨r3, hr3⟩ : ∃ r3, r3 = pd.drop (64 * q) := ⟨_, rfl⟩
              have hrest3 := HL3.out.rest
              rw [← hr3] at hrest3 hdl
              rcases hrest3 with ⟨-, h0⟩ | ⟨gv, off, cap, cr, hve, hgg, h1, h2, h3⟩
              · exfalso; rw [h0] at hdl; simp at hdl; omega
              simp only [Value.slice.injEq] at hve
              obtain ⟨rfl, -, rfl⟩ := hve
              have hcap : (64 : Int) ≤ c := by omega
              have hgvG : gv ≠ G6 := fun e => hnot (by rw [e]; rfl)
              obtain ⟨f, hf⟩ : ∃ f : Nat → Nat, f = fun i => nth pd (64 * q + i) := ⟨_, rfl⟩
              have hf256 : ∀ i, f i < 256 := fun i => by
                rw [hf]
                show nth pd (64 * q + i) < 256
                by_cases hi : 64 * q + i < pd.length
                · exact HPD256.out _ (nth_mem pd _ hi)
                · rw [nth_end pd _ (by omega)]; decide
              obtain ⟨SK, hSK⟩ : ∃ SK, SK = runB s0 pd q := ⟨_, rfl⟩
              have hSK8 : SK.length = 8 := by rw [hSK]; exact runB_len s0 pd hs08.out q
              have hSKw : W32 SK := by rw [hSK]; exact runB_w s0 pd hs0w.out q
              have hnx : runB s0 pd (q + 1) = mixS SK f := by rw [runB, hSK, hf]
              have hn8 : (mixS SK f).length = 8 := mixS_len SK f
              obtain ⟨SN, hSN⟩ : ∃ SN, SN = mixS SK f := ⟨_, rfl⟩
              have HNX : Hid (runB s0 pd (q + 1) = SN) := by rw [hSN]; exact hnx
              rw [← hSK] at hcur
              rw [← hSN] at hn8
              have HK8 := Lib.hid hSK8; have HN8 := Lib.hid hn8
              obtain ⟨LB, hLB0⟩ : ∃ LB, LB = [(w.heap.size, Obj.cells (wcells .u8 (List.replicate 32 0)) 33 (0, 0)), (gv, Obj.cells cr 5 (0, 0))] := ⟨_, rfl⟩
              have SB : St w LB wr := by
                rw [hLB0]
                exact (((St.nil w).cons' HL3.out.below hgg)).cons HL3.out.out
              have mout : (w.heap.size, Obj.cells (wcells .u8 (List.replicate 32 0)) 33 (0, 0)) ∈ LB := by rw [hLB0]; exact List.Mem.head _
              have mgv : (gv, Obj.cells cr 5 (0, 0)) ∈ LB := by rw [hLB0]; exact List.Mem.tail _ (List.Mem.head _)
              have hLB : Hid (∀ q, q ∈ LB → q.1 ≠ G6) := by
                rw [hLB0]; intro p hp
                rcases List.mem_cons.1 hp with rfl | hp
                · show w.heap.size ≠ _; omega
                · rcases List.mem_cons.1 hp with rfl | hp
                  · exact hgvG
                  · cases hp
              have CMX : Hid (∀ W, W.heap[gv]? = some (.cells cr 5 (0, 0)) → Calls Try.prog 51 #[.agg (wcells .u32 SK), .slice (some ⟨gv, off, none⟩) 64 c] W fun e w' => e = .returned (.agg (wcells .u32 SN)) ∧ Below W.heap.size W w') := fun W hk => by
                have hb' : Bt W gv off 64 f := ⟨lt_of_block hk, fun i hi => (cell_of_row _ _ _ _ _ _ hk).trans (by rw [h3 i (by omega), hr3, nth_drop, hf])⟩
                have := mix_c gv off c SK f hf256 hSK8 hSKw W hb'
                rwa [← hSN] at this
              have HCUR := Lib.hid hcur; have HR3 := Lib.hid hr3; have H3 := Lib.hid h3; have HDL := Lib.hid hdl; have HQ := Lib.hid hq; have HA : Hid (r3.length ≤ c ∧ off + c ≤ cr.size) := ⟨h1, h2⟩
              clear hcur hnot hr3 h3 hf hf256 hSK8 hSKw hnx hn8 hSN hSK hLB0 hdl hq
              go_wp2_with fail
              obtain ⟨I, hI0⟩ : ∃ I : Array Value → (Nat → Bool) → Act → World → Prop, I = (fun T0 L act W => ∃ vq0 vq1 vq2 vq3, act = ⟨sets T0 [(53, vq0), (54, vq1), (55, vq2), (56, vq3)], []⟩ ∧ St w LB W ∧ (L 0 = true → vq0 = .agg (wcells .u32 SK)) ∧ (L 1 = true → vq1 = .slice (some ⟨gv, off, none⟩) Kn c) ∧ (L 2 = true → vq2 = .slice (some ⟨gv, off, none⟩) 64 c) ∧ (L 3 = true → vq3 = .agg (wcells .u32 SN)) ∧ (L 4 = false → W.heap[G6]? = some (.cells (wcells .u32 SK) 94 (0, 0))) ∧ (L 4 = true → W.heap[G6]? = some (.cells (wcells .u32 SN) 94 (0, 0))) ∧ (L 4 = true → L 0 = true)) := ⟨_, rfl⟩
              have HI := Lib.hid hI0; clear hI0
              refine wp_region_frame (by kernel_rfl) (by kernel_rfl) I (fun T0 hT0 => ⟨?start, ?step, ?fin⟩)
              case start =>
                rw [HI.out]
                exact ⟨T0.getD 53 undef, T0.getD 54 undef, T0.getD 55 undef, T0.getD 56 undef, by (refine Eq.trans ?_ (congrArg (fun T => Act.mk T []) (sets_self [53, 54, 55, 56] T0).symm)); rw [hT0], SB.drew, nofun, nofun, nofun, nofun, fun _ => HCUR.out, nofun, nofun⟩
              case step =>
                refine ⟨?_, ?_, ?_, ?_, ?_, trivial⟩
                · intro L act W hI hno hdep
                  rw [HI.out] at hI
                  obtain ⟨vq0, vq1, vq2, vq3, hact, hS, hq0, hq1, hq2, hq3, oq4, nq4, dq4_0⟩ := hI
                  subst hact
                  rw [hT0]; simp only [sets, List.setIfInBounds_toArray, List.set_cons_zero, List.set_cons_succ]
                  have hq0 := oq4 (noF dq4_0 hno)
                  with_reducible refine wp_load_row 94 (Operand.tmp 6) rfl G6 ?_ 94 (wcells .u32 SK) (0, 0) _ hq0 Try.underlying94 rfl (by rw [wcells_size, HK8.out]; kernel_rfl) ?_
                  · rfl
                  rw [HI.out]
                  exact ⟨.agg (wcells .u32 SK), vq1, vq2, vq3, by simp only [sets, Act.put, List.setIfInBounds_toArray, List.set_cons_zero, List.set_cons_succ], hS, fun _ => rfl, keepI hq1 rfl, keepI hq2 rfl, keepI hq3 rfl, keepF oq4, keepI nq4 rfl, keepD dq4_0 rfl⟩
                · intro L act W hI hno hdep
                  rw [HI.out] at hI
                  obtain ⟨vq0, vq1, vq2, vq3, hact, hS, hq0, hq1, hq2, hq3, oq4, nq4, dq4_0⟩ := hI
                  subst hact
                  rw [hT0]; simp only [sets, List.setIfInBounds_toArray, List.set_cons_zero, List.set_cons_succ]
                  go_simp
                  rw [HI.out]
                  exact ⟨vq0, .slice (some ⟨gv, off, none⟩) Kn c, vq2, vq3, by simp only [sets, List.setIfInBounds_toArray, List.set_cons_zero, List.set_cons_succ], hS, keepI hq0 rfl, fun _ => rfl, keepI hq2 rfl, keepI hq3 rfl, keepF oq4, keepI nq4 rfl, keepD dq4_0 rfl⟩
                · intro L act W hI hno hdep
                  rw [HI.out] at hI
                  obtain ⟨vq0, vq1, vq2, vq3, hact, hS, hq0, hq1, hq2, hq3, oq4, nq4, dq4_0⟩ := hI
                  subst hact
                  obtain rfl := hq1 (hdep ⟨1, .data⟩ (by simp) rfl)
                  rw [hT0]; simp only [sets, List.setIfInBounds_toArray, List.set_cons_zero, List.set_cons_succ]
                  go_simp
                  rw [HI.out]
                  exact ⟨vq0, .slice (some ⟨gv, off, none⟩) Kn c, .slice (some ⟨gv, off, none⟩) 64 c, vq3, by simp only [sets, List.setIfInBounds_toArray, List.set_cons_zero, List.set_cons_succ], hS, keepI hq0 rfl, fun _ => rfl, fun _ => rfl, keepI hq3 rfl, keepF oq4, keepI nq4 rfl, keepD dq4_0 rfl⟩
                · intro L act W hI hno hdep
                  rw [HI.out] at hI
                  obtain ⟨vq0, vq1, vq2, vq3, hact, hS, hq0, hq1, hq2, hq3, oq4, nq4, dq4_0⟩ := hI
                  subst hact
                  obtain rfl := hq0 (hdep ⟨0, .data⟩ (by simp) rfl)
                  obtain rfl := hq2 (hdep ⟨2, .data⟩ (by simp) rfl)
                  rw [hT0]; simp only [sets, List.setIfInBounds_toArray, List.set_cons_zero, List.set_cons_succ]
                  go_simp
                  refine (CMX.out _ (hS.get mgv)).mono ?_
                  rintro e W2 ⟨rfl, hb⟩
                  rw [HI.out]
                  exact ⟨.agg (wcells .u32 SK), vq1, .slice (some ⟨gv, off, none⟩) 64 c, .agg (wcells .u32 SN), by simp only [sets, List.setIfInBounds_toArray, List.set_cons_zero, List.set_cons_succ], (hS.keep hb), fun _ => rfl, keepI hq1 rfl, fun _ => rfl, fun _ => rfl, keepF (fun h => keepH hb (oq4 h)), keepI (fun h => keepH hb (nq4 h)) rfl, keepD dq4_0 rfl⟩
                · intro L act W hI hno hdep
                  rw [HI.out] at hI
                  obtain ⟨vq0, vq1, vq2, vq3, hact, hS, hq0, hq1, hq2, hq3, oq4, nq4, dq4_0⟩ := hI
                  subst hact
                  obtain rfl := hq3 (hdep ⟨3, .data⟩ (by simp) rfl)
                  have hg := oq4 hno
                  rw [hT0]; simp only [sets, List.setIfInBounds_toArray, List.set_cons_zero, List.set_cons_succ]
                  with_reducible refine wp_store_row 94 (Operand.tmp 6) (Operand.tmp 56) rfl G6 (wcells .u32 SN) ?_ ?_ 94 (wcells .u32 SK) hg (by rw [wcells_size, HN8.out]; kernel_rfl) (by rw [wcells_size, wcells_size, HN8.out, HK8.out]) (wcells_one _ _) ?_
                  · rfl
                  · rfl
                  rw [HI.out]
                  exact ⟨vq0, vq1, vq2, .agg (wcells .u32 SN), by simp only [sets, Act.put, List.setIfInBounds_toArray, List.set_cons_zero, List.set_cons_succ], (hS.setRow (by omega) hLB.out _), keepI hq0 rfl, keepI hq1 rfl, keepI hq2 rfl, fun _ => rfl, alsoF, fun _ => setRow_heap W _ _ _ _ _ hg, fun _ => alsoD (hdep ⟨0, .phase⟩ (by simp) rfl)⟩
              case fin =>
                intro L act W hall hI
                rw [HI.out] at hI
                obtain ⟨vq0, vq1, vq2, vq3, hact, hS, hq0, hq1, hq2, hq3, oq4, nq4, dq4_0⟩ := hI
                subst hact
                obtain rfl := hq0 (hall 0 (by decide))
                obtain rfl := hq1 (hall 1 (by decide))
                obtain rfl := hq2 (hall 2 (by decide))
                obtain rfl := hq3 (hall 3 (by decide))
                have tgh := Lib.hid (nq4 (hall 4 (by decide)))
                clear hq0 hq1 hq2 hq3 oq4 nq4 dq4_0 hall
                rw [hT0]; simp only [sets, List.setIfInBounds_toArray, List.set_cons_zero, List.set_cons_succ]
                clear hT0 HI
                have hcaseA : ∀ u : Value, u = u → RestV W u (r3.drop 64) → BlkInv w G6 s0 pd u (q + 1) W := fun u _ hr' => by
                  refine ⟨hS.below, hS.get mout, by rw [HNX.out]; exact tgh.out, ?_⟩
                  rw [show pd.drop (64 * (q + 1)) = r3.drop 64 by rw [HR3.out, List.drop_drop]; congr 1]; exact hr'
                have HCA := Lib.hid hcaseA
                have hr3l : r3.length = Kn := HDL.out
                have hgW := hS.get mgv
                by_cases hc64 : c = 64
                · have hf1 : Hid (BlkInv w G6 s0 pd (.slice (some ⟨gv, off, none⟩) (Kn - 64) 0) (q + 1) W) := by
                    have := rest_empty (off := off) (r := r3) hgW (by have := HA.out.1; omega) (by have := HA.out.2; omega)
                    rw [hr3l] at this
                    exact HCA.out _ rfl this
                  clear hcaseA hr3l hgW
                  go_wp2_with fail
                  go_roundg (Kn - 64)
                  case measure => omega
                  case rel => exact ⟨q + 1, Kn - 64, _, _, rfl, by have := HQ.out; omega, rfl, hf1⟩
                · have hf1 : Hid (BlkInv w G6 s0 pd (.slice (some ⟨gv, off + 64, none⟩) (Kn - 64) (c - 64)) (q + 1) W) := by
                    have := (rest_shift (off := off) (cap := c) (r := r3) hgW HA.out.1 HA.out.2 H3.out).resolve_right (by omega)
                    rw [hr3l] at this
                    exact HCA.out _ rfl this
                  clear hcaseA hr3l hgW
                  go_wp2_with fail
                  go_roundg (Kn - 64)
                  case measure => omega
                  case rel => exact ⟨q + 1, Kn - 64, _, _, rfl, by have := HQ.out; omega, rfl, hf1⟩
        · have hlt : (k : Int) < 8 := by omega
          obtain ⟨y, hy0⟩ : ∃ y, 8 * bs.length / 2 ^ (56 - 8 * k) % 256 = y := ⟨_, rfl⟩
          have hy : 8 * (bs.length : Int) / 2 ^ (56 - 8 * k) % 256 = (y : Int) := by rw [← hy0]; simp
          have J1 := Lib.hid (HK.out.alloc (.cells #[.int .u8 (y : Int)] 5))
          have X1 := Lib.hid (one_src (wr.alloc (.cells #[.int .u8 (y : Int)] 5)) wr.heap.size y ((cell_of_row _ _ _ _ _ _ (heap_alloc_last _ _)).trans rfl))
          have hlen1 : (zb ++ (be8 (8 * bs.length)).take k).length = Mn := by rw [hMn, List.length_append, HZL.out, List.length_take, be8_len]; omega
          have J1r : RestV (wr.alloc (.cells #[.int .u8 (y : Int)] 5)) (.slice a Mn c) (zb ++ (be8 (8 * bs.length)).take k) := J1.out.rest
          have HJ1r := Lib.hid J1r
          obtain ⟨zk, hzk⟩ : ∃ zk, zk = zb ++ (be8 (8 * bs.length)).take k := ⟨_, rfl⟩
          have hzk2 : zb ++ (be8 (8 * bs.length)).take (k + 1) = zk ++ [y] := by rw [be8_take _ _ (by omega), hy0, hzk, List.append_assoc]
          rw [← hzk] at J1 hlen1 HJ1r
          have HZK := Lib.hid hzk2; have HMN := Lib.hid hMn
          clear hy0 hMn J1r hzk hzk2
          go_wp2_with (at_builtin; go_loud (first | (refine wpList_app (by rfl) (.tmp 34) (.tmp 41) (by rfl) _ _ (by rfl) (by rfl) zk [y] HJ1r.out X1.out (by simp; omega) ?_; intro v3 W3 R3 K3 N3; obtain ⟨va3, vc3, e3⟩ := R3.shape; subst e3; have J2 := Lib.hid (J1.out.app R3 K3 N3); clear R3 K3 N3)))
          have J3 : Hid (PadInv w (.slice va3 (Mn + 1) vc3) (zb ++ (be8 (8 * bs.length)).take (k + 1)) W3) := by
            have := J2.out
            rw [HZK.out]
            rwa [List.length_append, hlen1] at this
          go_roundw
          case rel => exact ⟨k + 1, Mn + 1, va3, vc3, by go_num, by omega, rfl, by have := HMN.out; omega, J3⟩
          case measure => simp [intOf]; omega
    · obtain ⟨m, hm⟩ : ∃ m : Nat, Ln % 64 = m := ⟨_, rfl⟩
      have h56 : (Ln : Int) % 64 = m := by omega
      have hm56 : ¬ (m : Int) = 56 := by
        have h1 : P = (119 - r.length % 64) % 64 := HPD.out
        omega
      have J1 := Lib.hid (HJ.out.alloc (.cells #[.int .u8 0] 5))
      have X1 := Lib.hid (one_src (wr.alloc (.cells #[.int .u8 0] 5)) wr.heap.size 0 ((cell_of_row _ _ _ _ _ _ (heap_alloc_last _ _)).trans rfl))
      have hlen1 : (r ++ [128] ++ List.replicate j 0).length = Ln := by rw [hLn]; simp; omega
      have HLN := Lib.hid hLn
      have J1r : RestV (wr.alloc (.cells #[.int .u8 0] 5)) (.slice a Ln c) (r ++ [128] ++ List.replicate j 0) := J1.out.rest
      have HJ1r := Lib.hid J1r
      clear hm hLn J1r
      go_wp2_with (at_builtin; go_loud (first | (refine wpList_app (by rfl) (.tmp 23) (.tmp 24) (by rfl) _ _ (by rfl) (by rfl) (r ++ [128] ++ List.replicate j 0) [0] HJ1r.out X1.out (by simp; omega) ?_; intro v3 W3 R3 K3 N3; obtain ⟨va3, vc3, e3⟩ := R3.shape; subst e3; have J2 := Lib.hid (J1.out.app R3 K3 N3); clear R3 K3 N3)))
      have J3 : Hid (PadInv w (.slice va3 (r.length + (j + 1 + 1)) vc3) (r ++ [128] ++ List.replicate (j + 1) 0) W3) := by
        have := J2.out
        have e0 : r ++ [128] ++ List.replicate j 0 ++ [0] = r ++ [128] ++ List.replicate (j + 1) 0 := by rw [List.replicate_succ', List.append_assoc]
        have el : (r ++ [128] ++ List.replicate (j + 1) 0).length = r.length + (j + 1 + 1) := by simp only [List.length_append, List.length_cons, List.length_nil, List.length_replicate]; omega
        rw [e0, el] at this
        exact this
      go_roundg (P - (j + 1))
      case measure => omega
      case rel => exact ⟨j + 1, r.length + (j + 1 + 1), va3, vc3, rfl, by omega, by omega, J3⟩
end Go.Proofs.Ytljcaegcbcikiaa
namespace Go.Proofs.Ytljcaegcbcikiaa
open Go.RowKit
theorem PieceV.mono {W : World} {B B' : Nat} {xv : Value} {ys : List Nat} (h : PieceV W B xv ys) (hB : B ≤ B') : PieceV W B' xv ys := h.imp id (fun ⟨b, o, c, h1, h2, h3⟩ => ⟨b, o, c, Nat.lt_of_lt_of_le h1 hB, h2, h3⟩)
theorem Pcs.mono {W : World} {B B' : Nat} {lv : Value} {pss : List (List Nat)} (h : Pcs W B lv pss) (hB : B ≤ B') (hW : B' ≤ W.heap.size) : Pcs W B' lv pss :=
  ⟨fun b hb => Nat.lt_of_lt_of_le hb hW, h.shape.imp id (fun ⟨lb, lo, c, h1, h2, h3⟩ => ⟨lb, lo, c, Nat.lt_of_lt_of_le h1 hB, h2, fun i ys hi => by
    obtain ⟨xv, h4, h5⟩ := h3 i ys hi
    exact ⟨xv, h4, PieceV.mono h5 hB⟩⟩)⟩
set_option maxRecDepth 100000 in
set_option maxHeartbeats 2000000 in
theorem sum_c (lv : Value) (pss : List (List Nat)) (w : World) (hp : Pcs w w.heap.size lv pss) (hby : ∀ y, y ∈ pss.flatten → y < 256) (hlen : pss.flatten.length ≤ 1000000000) (hpl : pss.length ≤ 1000000) :
    Calls Try.prog 36 #[lv] w fun e w' => e = .returned (.agg (wcells .u8 (sha pss.flatten))) ∧ Below w.heap.size w w' := by
  have HP := Lib.hid hp; have HBY := Lib.hid hby; have HLEN := Lib.hid hlen; have HPL := Lib.hid hpl
  have hw32 := sha_len pss.flatten
  obtain ⟨dg, hdg⟩ : ∃ dg, dg = sha pss.flatten := ⟨_, rfl⟩
  have HDG := Lib.hid hdg
  rw [← hdg] at hw32 ⊢
  have HW32 := Lib.hid hw32
  have S0 := (St.nil w).alloc (.cells (wcells .u8 (List.replicate 32 0)) 33) _ rfl
  clear hp hby hlen hpl hdg hw32
  go_enter Try.func36, Try.ntmps36
  go_wp2_with fail
  refine (new_c _).mono ?_
  rintro e W1 ⟨hg, rfl, hhrow, hge, hb⟩
  have hge' : w.heap.size < hg := by have := hge.out; simp at this; omega
  have S1 := S0.keep hb
  have P1 := HP.out.keep (Keeps.of_below (F := fun _ => False) S1.below) (fun _ _ h => h)
  have hh : HasherV W1 hg (.slice none 0 0) [] := ⟨hhrow.out, Or.inl ⟨rfl, rfl⟩⟩
  have A1 := Lib.hid (add_h w.heap.size hg (.slice none 0 0) lv [] pss W1 hh P1 (by omega) (fun b hb => by simp [Value.ownBlock] at hb) (by simpa using HBY.out) (by simpa using HLEN.out) HPL.out)
  have hhb := lt_of_block hhrow.out
  clear hb P1 hh
  go_wp2_with fail
  refine A1.out.mono ?_
  rintro e W2 ⟨rfl, HI⟩
  have S2 : St w [(w.heap.size, Obj.cells (wcells .u8 (List.replicate 32 0)) 33 (0, 0))] W2 := by
    have k := HI.out.keeps
    refine ⟨S1.below.trans ⟨k.os, k.tape, k.output, k.size, fun b hb => k.block b (Nat.lt_of_lt_of_le hb S1.below.size) (fun hf => ?_)⟩, fun p hpm => ?_⟩
    · rcases hf with h1 | h1
      · omega
      · simp [Value.ownBlock] at h1
    · rcases List.mem_cons.1 hpm with rfl | hpm
      · exact (k.block _ (lt_of_block (S1.get (List.Mem.head _))) (fun hf => by
          rcases hf with h1 | h1
          · have h1' : w.heap.size = hg := h1; omega
          · simp [Value.ownBlock] at h1)).trans (S1.get (List.Mem.head _))
      · cases hpm
  obtain ⟨v, hv, -⟩ := HI.out.now
  rw [List.take_of_length_le (Nat.le_refl _), List.nil_append] at hv
  have CS := Lib.hid (sum_h hg v pss.flatten W2 hv HBY.out HLEN.out)
  rw [← HDG.out] at CS
  clear hv HI A1
  go_wp2_with fail
  refine CS.out.mono ?_
  rintro e W3 ⟨rfl, hb⟩
  have S3 := S2.keep hb
  clear hb
  go_wp2_with (refine wpList_store_row rfl 33 (.tmp 2) (.tmp 9) rfl w.heap.size (wcells .u8 dg) rfl rfl 33 (wcells .u8 (List.replicate 32 0)) (S3.get (List.Mem.head _)) (by rw [wcells_size, HW32.out]; kernel_rfl) (by rw [wcells_size, wcells_size, HW32.out, List.length_replicate]) (wcells_one _ _) ?_)
  refine bodyPost_ret (results_cell_row rfl _ _ w.heap.size 33 (wcells .u8 dg) (0, 0) _ rfl (setRow_heap _ _ _ _ _ _ (S3.get (List.Mem.head _))) Try.underlying33 rfl (by rw [wcells_size, HW32.out]; kernel_rfl)) rfl ?_
  exact ⟨rfl, below_setRow S3.below (Nat.le_refl _) _⟩
/-- A hash in a row of its own, as one piece. -/
theorem piece_hash {W : World} {g B : Nat} {l : List Nat} {t : TypeId} (h : W.heap[g]? = some (.cells (wcells .u8 l) t (0, 0))) (hl : l.length = 32) (hB : g < B) : PieceV W B (.slice (some ⟨g, 0, none⟩) 32 32) l :=
  Or.inr ⟨g, 0, 32, hB, by rw [hl], fun i hi => by rw [Nat.zero_add]; exact cell_w h i hi⟩
/-- One piece in a list of its own. -/
theorem pcs_one {W : World} {B g : Nat} {xv : Value} {l : List Nat} {t : TypeId} (hg : W.heap[g]? = some (.cells #[xv] t (0, 0))) (hB : g < B) (hle : B ≤ W.heap.size) (hp : PieceV W B xv l) : Pcs W B (.slice (some ⟨g, 0, none⟩) 1 1) [l] :=
  ⟨fun b hb => Nat.lt_of_lt_of_le hb hle, Or.inr ⟨g, 0, 1, hB, rfl, fun i ys hi => by
    cases i with
    | zero => simp at hi; subst hi; exact ⟨xv, (cell_of_row _ _ _ _ _ _ hg).trans rfl, hp⟩
    | succ i => simp at hi⟩⟩
set_option maxRecDepth 100000 in
set_option maxHeartbeats 2000000 in
theorem twice_c (lv : Value) (pss : List (List Nat)) (w : World) (hp : Pcs w w.heap.size lv pss) (hby : ∀ y, y ∈ pss.flatten → y < 256) (hlen : pss.flatten.length ≤ 1000000000) (hpl : pss.length ≤ 1000000) :
    Calls Try.prog 46 #[lv] w fun e w' => e = .returned (.agg (wcells .u8 (sha (sha pss.flatten)))) ∧ Below w.heap.size w w' := by
  have S0 := (St.nil w).alloc (.cells (wcells .u8 (List.replicate 32 0)) 33) _ rfl
  have P1 := hp.keep (Keeps.of_below (F := fun _ => False) S0.below) (fun _ _ h => h)
  have CS1 := Lib.hid (sum_c lv pss _ (P1.mono S0.below.size (Nat.le_refl _)) hby hlen hpl)
  have hw32 := sha_len pss.flatten
  obtain ⟨d1, hd1⟩ : ∃ d, d = sha pss.flatten := ⟨_, rfl⟩
  rw [← hd1] at CS1 hw32 ⊢
  have hd1b : Hid (∀ y, y ∈ d1 → y < 256) := by rw [hd1]; exact sha_lt _
  have hw32' := sha_len d1
  obtain ⟨d2, hd2⟩ : ∃ d, d = sha d1 := ⟨_, rfl⟩
  have HD2 := Lib.hid hd2
  rw [← hd2] at hw32' ⊢
  have HW1 := Lib.hid hw32; have HW2 := Lib.hid hw32'
  clear hp hby hlen hpl P1 hd1 hd2 hw32 hw32'
  go_enter Try.func46, Try.ntmps46
  go_wp2_with fail
  refine CS1.out.mono ?_
  rintro e W1 ⟨rfl, hb⟩
  have S1 := (S0.keep hb)
  have S2 := S1.alloc (.cells (wcells .u8 (List.replicate 32 0)) 33) _ rfl
  clear hb
  have hs0 : w.heap.size < W1.heap.size := lt_of_block (S1.get (List.Mem.head _))
  go_wp2_with (refine wpList_store_row rfl 33 (.tmp 3) (.tmp 5) rfl W1.heap.size (wcells .u8 d1) rfl rfl 33 (wcells .u8 (List.replicate 32 0)) (S2.get (List.Mem.head _)) (by rw [wcells_size, HW1.out]; kernel_rfl) (by rw [wcells_size, wcells_size, HW1.out, List.length_replicate]) (wcells_one _ _) ?_)
  have S3 : St w [(W1.heap.size, Obj.cells (wcells .u8 d1) 33 (0, 0)), (w.heap.size, Obj.cells (wcells .u8 (List.replicate 32 0)) 33 (0, 0))] ((W1.alloc (.cells (wcells .u8 (List.replicate 32 0)) 33)).setRow W1.heap.size (wcells .u8 d1)) :=
    ((S1.alloc0 (.cells (wcells .u8 (List.replicate 32 0)) 33)).setRow (by omega) (fun q hq => by
      rcases List.mem_cons.1 hq with rfl | hq
      · show w.heap.size ≠ _; omega
      · cases hq) _).cons (setRow_heap _ _ _ _ _ _ (S2.get (List.Mem.head _)))
  have S4 := S3.alloc (.cells #[.slice (some ⟨W1.heap.size, 0, none⟩) 32 32] 26) (W1.heap.size + 1) (by simp [World.setRow])
  have P2 := pcs_one (B := W1.heap.size + 2) (S4.get (List.Mem.head _)) (by omega) (by simp [World.setRow]) (piece_hash (S4.get (List.Mem.tail _ (List.Mem.head _))) HW1.out (by omega))
  have CS2 := sum_c _ [d1] _ (P2.mono (by simp [World.setRow]) (Nat.le_refl _)) (by simpa using hd1b.out) (by simp [HW1.out]) (by simp)
  rw [List.flatten_cons, List.flatten_nil, List.append_nil, ← HD2.out] at CS2
  refine CS2.mono ?_
  rintro e W2 ⟨rfl, hb⟩
  have S5 := S4.keep hb
  have h5 := S5.get (List.Mem.tail _ (List.Mem.tail _ (List.Mem.head _)))
  have H5 := Lib.hid h5
  clear hb CS2 P2 h5
  go_wp2_with (refine wpList_store_row rfl 33 (.tmp 2) (.tmp 8) rfl w.heap.size (wcells .u8 d2) rfl rfl 33 (wcells .u8 (List.replicate 32 0)) H5.out (by rw [wcells_size, HW2.out]; kernel_rfl) (by rw [wcells_size, wcells_size, HW2.out, List.length_replicate]) (wcells_one _ _) ?_)
  refine bodyPost_ret (results_cell_row rfl _ _ w.heap.size 33 (wcells .u8 d2) (0, 0) _ rfl (setRow_heap _ _ _ _ _ _ H5.out) Try.underlying33 rfl (by rw [wcells_size, HW2.out]; kernel_rfl)) rfl ?_
  exact ⟨rfl, below_setRow S5.below (Nat.le_refl _) _⟩
end Go.Proofs.Ytljcaegcbcikiaa
namespace Go.Proofs.Ytljcaegcbcikiaa
open Go.RowKit
/-- The row of a hash in memory. -/
def hobj (l : List Nat) : Obj := .cells (wcells .u8 l) 33 (0, 0)
def zobj : Obj := .cells (wcells .u8 (List.replicate 32 0)) 33 (0, 0)
/-- .. and goes into it. -/
theorem wpList_puth {ops : Array Oper} {rest : List Oper} {o : Oper} {a : Act} {W : World} {Q : Exit → Act → World → Prop} (hgd : o.guard = none) (x y : Operand) (ho : o.op = .store 33 x y)
    (g : Nat) (hx : a.eval x = .pointer (some ⟨g, 0, none⟩)) (l l0 : List Nat) (hl : l.length = 32) (hl0 : l0.length = 32) (hy : a.eval y = .agg (wcells .u8 l)) (hg : W.heap[g]? = some (hobj l0)) (h : wpList Try.prog ops Q rest (a.put o.dst undef) (W.setRow g (wcells .u8 l))) : wpList Try.prog ops Q (o :: rest) a W :=
  wpList_store_row hgd 33 x y ho g (wcells .u8 l) hx hy 33 (wcells .u8 l0) hg (by rw [wcells_size, hl]; kernel_rfl) (by rw [wcells_size, wcells_size, hl, hl0]) (wcells_one _ _) h
theorem set_hash {W : World} {g : Nat} {l l0 : List Nat} (hg : W.heap[g]? = some (hobj l0)) : (W.setRow g (wcells .u8 l)).heap[g]? = some (hobj l) := setRow_heap W g _ _ _ _ hg
/-- Are two rows the same? -/
def heq (a b : List Nat) : Bool := decide (a = b)
theorem St.puth {w W : World} {L : List (Nat × Obj)} {g : Nat} {l0 : List Nat} (h : St w L W) (hge : w.heap.size ≤ g) (hg : W.heap[g]? = some (hobj l0)) (hne : ∀ p, p ∈ L → p.1 ≠ g) (l : List Nat) : St w ((g, hobj l) :: L) (W.setRow g (wcells .u8 l)) :=
  (h.setRow hge hne _).cons (set_hash hg)
theorem St.ne {w W : World} {L : List (Nat × Obj)} (h : St w L W) {p : Nat × Obj} (hp : p ∈ L) {g : Nat} (hg : g = W.heap.size) : p.1 ≠ g := by have := lt_of_block (h.rows p hp); omega
/-- A variable is made, and a hash goes into it. -/
theorem St.newh {w W : World} {L : List (Nat × Obj)} (h : St w L W) (l : List Nat) : St w ((W.heap.size, hobj l) :: L) ((W.alloc zobj).setRow W.heap.size (wcells .u8 l)) :=
  (h.alloc0 zobj).puth h.below.size (lastH W zobj _ rfl) (fun p hp => by have := lt_of_block (h.rows p hp); omega) l
end Go.Proofs.Ytljcaegcbcikiaa
namespace Go.Proofs.Ytljcaegcbcikiaa
open Go.RowKit
/-- What Padded holds while it writes: z so far. -/
structure PadR (w : World) (v : Value) (z : List Nat) (wr : World) : Prop where
  below : Below w.heap.size w wr
  rest : RestV wr v z
  own : ∀ b, v.ownBlock = some b → w.heap.size ≤ b
theorem PadR.app {w wr W2 : World} {v v2 : Value} {z zz : List Nat} (h : PadR w v z wr) (R : RestV W2 v2 zz) (K : Keeps (fun b => v.ownBlock = some b) wr W2) (Nn : ∀ b, v2.ownBlock = some b → v.ownBlock = some b ∨ b = wr.heap.size) : PadR w v2 zz W2 := by
  refine ⟨?_, R, fun b hb => ?_⟩
  · exact h.below.trans ⟨K.os, K.tape, K.output, K.size, fun b hb => K.block b (Nat.lt_of_lt_of_le hb h.below.size) (fun e => by have := h.own _ e; omega)⟩
  · rcases Nn b hb with h1 | h1
    · exact h.own b h1
    · rw [h1]; exact h.below.size
theorem PadR.alloc {w wr : World} {v : Value} {z : List Nat} (h : PadR w v z wr) (o : Obj) : PadR w v z (wr.alloc o) :=
  ⟨h.below.alloc h.below.size o, h.rest.keep (F := fun _ => False) (Keeps.of_below ((Below.refl _ _).alloc (Nat.le_refl _) o)) (fun _ _ h => h), h.own⟩
theorem PadR.new (w : World) : PadR w (.slice (some ⟨w.heap.size, 0, none⟩) 0 0) [] (w.alloc (.cells #[] 5)) := by
  have S := (St.nil w).alloc (.cells #[] 5) _ rfl
  refine ⟨S.below, Or.inr ⟨w.heap.size, 0, 0, #[], rfl, S.get (List.Mem.head _), Nat.le_refl _, Nat.le_refl _, fun i hi => absurd hi (by simp)⟩, fun b hb => ?_⟩
  simp [Value.ownBlock] at hb; omega
end Go.Proofs.Ytljcaegcbcikiaa
namespace Go.Proofs.Ytljcaegcbcikiaa
open Go.RowKit
/-- The row of a short one in memory. -/
def sobj (l : List Nat) : Obj := .cells (wcells .u8 l) 23 (0, 0)
theorem nth_take (l : List Nat) (k i : Nat) (h : i < k) : nth (l.take k) i = nth l i := by
  unfold nth; rw [List.getD_eq_getElem?_getD, List.getD_eq_getElem?_getD, List.getElem?_take, if_pos h]
theorem array_at20 (a : Addr) (c : Nat) (w : World) : (Instr.arrayAt 23 (.slice (some a) 20 c)).run Try.prog w = .ok (.pointer (some a)) w := by kernel_rfl
set_option maxRecDepth 100000 in
set_option maxHeartbeats 2000000 in
theorem short_c (lv : Value) (pss : List (List Nat)) (w : World) (hp : Pcs w w.heap.size lv pss) (hby : ∀ y, y ∈ pss.flatten → y < 256) (hlen : pss.flatten.length ≤ 1000000000) (hpl : pss.length ≤ 1000000) :
    Calls Try.prog 37 #[lv] w fun e w' => e = .returned (.agg (wcells .u8 ((sha (sha pss.flatten)).take 20))) ∧ Below w.heap.size w w' := by
  have S0 := (St.nil w).alloc (sobj (List.replicate 20 0)) _ rfl
  have P1 := hp.keep (Keeps.of_below (F := fun _ => False) S0.below) (fun _ _ h => h)
  have CS1 := Lib.hid (twice_c lv pss _ (P1.mono S0.below.size (Nat.le_refl _)) hby hlen hpl)
  have hl1 := sha_len (sha pss.flatten)
  obtain ⟨d, hd⟩ : ∃ d, d = sha (sha pss.flatten) := ⟨_, rfl⟩
  rw [← hd] at CS1 hl1 ⊢
  have hl2 : (d.take 20).length = 20 := by rw [List.length_take, hl1]; decide
  have HL1 := Lib.hid hl1
  have xarr := array_at20
  clear hp hby hlen hpl P1 hd
  go_enter Try.func37, Try.ntmps37
  go_wp2_with fail
  refine CS1.out.mono ?_
  rintro e W1 ⟨rfl, hb⟩
  have S1 := S0.keep hb
  have S2 := S1.newh d
  have Z1 := Lib.hid (lastH W1 zobj _ rfl)
  obtain ⟨V, hV⟩ : ∃ V, V = (W1.alloc zobj).setRow W1.heap.size (wcells .u8 d) := ⟨_, rfl⟩
  rw [← hV] at S2
  have HV := Lib.hid hV
  have hrg : V.rangeAt W1.heap.size 0 (wcells .u8 (d.take 20)).toList := part_of_row (S2.get (List.Mem.head _)) _ (by
    have e : (wcells .u8 (d.take 20)).toList = (wcells .u8 d).toList.take 20 := by simp [wcells]
    rw [e, List.drop_zero, List.length_take, Array.length_toList, wcells_size, hl1]; rfl)
  have HRG := Lib.hid hrg
  have HG := Lib.hid (S2.get (List.Mem.tail _ (List.Mem.head _)))
  obtain ⟨s, hs⟩ : ∃ s, s = d.take 20 := ⟨_, rfl⟩
  rw [← hs] at HRG hl2
  have HS := Lib.hid hs
  have HL2 := Lib.hid hl2
  clear hb S1 hV S0 hrg hl2 hs
  go_wp2_with (first
    | (refine wpList_puth rfl (.tmp 3) (.tmp 5) rfl W1.heap.size rfl d (List.replicate 32 0) HL1.out (by simp) rfl Z1.out ?_; refine Eq.mp (congrArg (fun v => wpList _ _ _ _ _ v) HV.out) ?_)
    | (refine wpList_load_mid rfl 23 (.tmp 7) rfl W1.heap.size 0 rfl (wcells .u8 s).toList _ HRG.out Try.underlying23 rfl (by rw [Array.length_toList, wcells_size, HL2.out]; kernel_rfl) ?_; rw [Array.toArray_toList])
    | (refine wpList_store_row rfl 23 (.tmp 2) (.tmp 8) rfl w.heap.size (wcells .u8 s) rfl rfl 23 (wcells .u8 (List.replicate 20 0)) HG.out (by rw [wcells_size, HL2.out]; kernel_rfl) (by rw [wcells_size, wcells_size, HL2.out, List.length_replicate]) (wcells_one _ _) ?_))
  refine bodyPost_ret (results_cell_row rfl _ _ w.heap.size 23 (wcells .u8 s) (0, 0) _ rfl (setRow_heap _ _ _ _ _ _ HG.out) Try.underlying23 rfl (by rw [wcells_size, HL2.out]; kernel_rfl)) rfl ?_
  exact ⟨by rw [HS.out], below_setRow S2.below (Nat.le_refl _) _⟩
/-- What the loop of the document's Short holds. -/
structure ShInv (w : World) (g3 g4 : Nat) (d : List Nat) (k : Nat) (wr : World) : Prop where
  below : Below w.heap.size w wr
  res : wr.heap[w.heap.size]? = some (sobj (List.replicate 20 0))
  src : wr.heap[g3]? = some (hobj d)
  row : ∃ l : List Nat, l.length = 20 ∧ (∀ j, j < k → nth l j = nth d j) ∧ wr.heap[g4]? = some (sobj l)
theorem ShInv.step {w wr : World} {g3 g4 : Nat} {d : List Nat} {k : Nat} (h : ShInv w g3 g4 d k wr) (hk : k < 20) (h3 : g3 ≠ g4) (h4 : w.heap.size < g4) : ShInv w g3 g4 d (k + 1) (wr.setCell ⟨g4, k, none⟩ (.int .u8 ((nth d k : Nat) : Int))) := by
  obtain ⟨l, hl, hp, hr⟩ := h.row
  refine ⟨h.below.setCell (by show w.heap.size ≤ g4; omega) _, (heap_setCell_other _ _ _ _ (by show w.heap.size ≠ g4; omega)).trans h.res, (heap_setCell_other _ _ _ _ (by show g3 ≠ g4; exact h3)).trans h.src, l.set k (nth d k), by simpa using hl, fun j hj => ?_, set_w hr k _⟩
  rw [nth_set _ _ _ _ (by omega)]
  split
  · next e => rw [e]
  · exact hp j (by omega)
end Go.Proofs.Ytljcaegcbcikiaa
namespace Go.Proofs.Ytljcaegcbcikiaa
open Go.RowKit
theorem RestV.piece {W : World} {v : Value} {bs : List Nat} (h : RestV W v bs) : PieceV W W.heap.size v bs := by
  rcases h with ⟨rfl, rfl⟩ | ⟨g, off, cap, cur, rfl, hg, h1, h2, h3⟩
  · exact Or.inl ⟨⟨_, _, rfl⟩, rfl⟩
  · exact Or.inr ⟨g, off, cap, lt_of_block hg, rfl, fun i hi => (cell_of_row _ _ _ _ _ _ hg).trans (h3 i hi)⟩
theorem PadR.keep {w W W' : World} {v : Value} {z : List Nat} (h : PadR w v z W) (hb : Below W.heap.size W W') : PadR w v z W' :=
  ⟨below_step h.below hb, h.rest.keep (F := fun _ => False) (Keeps.of_below hb) (fun _ _ h => h), h.own⟩
/-- Pieces in a row of their own. -/
theorem pcs_row {W : World} {g : Nat} {xs : List Value} {t : TypeId} {pss : List (List Nat)} (hg : W.heap[g]? = some (.cells xs.toArray t (0, 0))) (hl : xs.length = pss.length) (hp : ∀ (i : Nat) (x : Value) (ys : List Nat), xs[i]? = some x → pss[i]? = some ys → PieceV W W.heap.size x ys) :
    Pcs W W.heap.size (.slice (some ⟨g, 0, none⟩) pss.length pss.length) pss :=
  ⟨fun _ h => h, Or.inr ⟨g, 0, pss.length, lt_of_block hg, rfl, fun i ys hi => by
    have hlt : i < pss.length := (List.getElem?_eq_some_iff.1 hi).1
    obtain ⟨x, hx⟩ : ∃ x, xs[i]? = some x := ⟨xs[i]'(by omega), List.getElem?_eq_getElem (by omega)⟩
    exact ⟨x, by rw [Nat.zero_add, cell_of_row _ _ _ _ _ _ hg, List.getElem?_toArray, hx], hp i x ys hx hi⟩⟩⟩
theorem pcs1 {W : World} {g : Nat} {x : Value} {t : TypeId} {a : List Nat} (hg : W.heap[g]? = some (.cells #[x] t (0, 0))) (hp : PieceV W W.heap.size x a) : Pcs W W.heap.size (.slice (some ⟨g, 0, none⟩) 1 1) [a] :=
  pcs_row (xs := [x]) (pss := [a]) hg rfl (fun i y ys hy hys => by
    match i with
    | 0 => simp at hy hys; subst hy hys; exact hp
    | i + 1 => simp at hys)
theorem pcs2 {W : World} {g : Nat} {x y : Value} {t : TypeId} {a b : List Nat} (hg : W.heap[g]? = some (.cells #[x, y] t (0, 0))) (hp : PieceV W W.heap.size x a) (hq : PieceV W W.heap.size y b) : Pcs W W.heap.size (.slice (some ⟨g, 0, none⟩) 2 2) [a, b] :=
  pcs_row (xs := [x, y]) (pss := [a, b]) hg rfl (fun i z ys hy hys => by
    match i with
    | 0 => simp at hy hys; subst hy hys; exact hp
    | 1 => simp at hy hys; subst hy hys; exact hq
    | i + 2 => simp at hys)
theorem pcs3 {W : World} {g : Nat} {x y z : Value} {t : TypeId} {a b c : List Nat} (hg : W.heap[g]? = some (.cells #[x, y, z] t (0, 0))) (hp : PieceV W W.heap.size x a) (hq : PieceV W W.heap.size y b) (hr : PieceV W W.heap.size z c) : Pcs W W.heap.size (.slice (some ⟨g, 0, none⟩) 3 3) [a, b, c] :=
  pcs_row (xs := [x, y, z]) (pss := [a, b, c]) hg rfl (fun i u ys hy hys => by
    match i with
    | 0 => simp at hy hys; subst hy hys; exact hp
    | 1 => simp at hy hys; subst hy hys; exact hq
    | 2 => simp at hy hys; subst hy hys; exact hr
    | i + 3 => simp at hys)
end Go.Proofs.Ytljcaegcbcikiaa
namespace Go.Proofs.Ytljcaegcbcikiaa
open Go.RowKit
theorem bytes_elem : Try.prog.elem 26 = 5 := by kernel_rfl
theorem bytes_slice : Try.prog.underlying 26 = some (.slice (Try.prog.elem 26)) := by rw [bytes_elem]; exact Try.underlying26
theorem byte_size (w : World) : (Go.sizeOf (Try.prog.elem 26)).run Try.prog w = .ok 1 w := by rw [bytes_elem]; exact Try.sizeOf5 w
/-- A string of bytes. -/
def nst (l : List Nat) : ByteArray := ⟨(l.map UInt8.ofNat).toArray⟩
theorem bln_nst (l : List Nat) (h : ∀ y, y ∈ l → y < 256) : (nst l).data.toList.map UInt8.toNat = l := by
  unfold nst
  simp only [List.map_map]
  rw [show (List.map (UInt8.toNat ∘ UInt8.ofNat) l) = List.map id l from List.map_congr_left (fun x hx => by
    have := h x hx
    simp; omega), List.map_id]
theorem run_str {W : World} {S : Nat → Prop} {v : Value} {bs : List Nat} (h : PieceS W S v bs) : (convert 26 9 v).run Try.prog W = .ok (.string (nst bs)) W := by
  rcases h with ⟨⟨a, c, rfl⟩, rfl⟩ | ⟨b, o, c, -, rfl, h⟩
  · cases a with
    | none => exact Lib.run_convert_nil_bytes W _ _ 5 c Try.underlying26 Try.underlying5 Try.underlying9
    | some a =>
      rw [run_convert_bytes_string W 26 9 5 (some a) 0 c Try.underlying26 Try.underlying5 Try.underlying9]
      simp [Conv.bytesToString, loadCells, nst]
      rfl
  · rw [run_convert_bytes_arg W 26 5 Try.underlying26 Try.underlying5 b o bs.length c (bs.map Int.ofNat) (by simp) (fun i hi => by
      rw [h i hi, List.getD_eq_getElem?_getD, List.getElem?_map, nth_get bs i hi]; rfl) 9 Try.underlying9]
    congr 2
    apply ByteArray.ext
    apply Array.toList_inj.1
    rw [strOfNums_data]
    simp [nst]
end Go.Proofs.Ytljcaegcbcikiaa
namespace Go.Proofs.Ytljcaegcbcikiaa
open Go.RowKit
theorem cell_same {W W' : World} {b o : Nat} (h : W'.heap[b]? = W.heap[b]?) : W'.cell? ⟨b, o, none⟩ = W.cell? ⟨b, o, none⟩ := World.cell?_of_block (a := ⟨b, o, none⟩) h
theorem PieceS.stays {W W' : World} {S : Nat → Prop} {v : Value} {bs : List Nat} (h : PieceS W S v bs) (hb : ∀ b, S b → b < W.heap.size) (hk : ∀ b, S b → b < W.heap.size → W'.heap[b]? = W.heap[b]?) : PieceS W' S v bs := by
  rcases h with h | ⟨b, o, c, h1, rfl, h⟩
  · exact Or.inl h
  · exact Or.inr ⟨b, o, c, h1, rfl, fun i hi => (cell_same (hk b h1 (hb b h1))).trans (h i hi)⟩
/-- A piece below B. -/
def xpc (B : Nat) (v : Value) (bs : List Nat) : Xt := ⟨false, fun b => b < B, fun W => B ≤ W.heap.size ∧ PieceV W B v bs, fun _ _ hk hs h => ⟨Nat.le_trans h.1 hs, PieceS.stays h.2 (fun _ hb => Nat.lt_of_lt_of_le hb h.1) hk⟩⟩
/-- A piece in blocks of S. -/
def xps (S : Nat → Prop) (v : Value) (bs : List Nat) : Xt := ⟨false, S, fun W => (∀ b, S b → b < W.heap.size) ∧ PieceS W S v bs, fun _ _ hk hs h => ⟨fun b hb => Nat.lt_of_lt_of_le (h.1 b hb) hs, PieceS.stays h.2 h.1 hk⟩⟩
theorem PcsS.stays {W W' : World} {S : Nat → Prop} {v : Value} {pss : List (List Nat)} (h : PcsS W S v pss) (hk : ∀ b, S b → b < W.heap.size → W'.heap[b]? = W.heap[b]?) (hs : W.heap.size ≤ W'.heap.size) : PcsS W' S v pss := by
  refine ⟨fun b hb => Nat.lt_of_lt_of_le (h.le b hb) hs, ?_⟩
  have hle := h.le
  rcases h.shape with h1 | ⟨lb, lo, c, hb, rfl, h2⟩
  · exact Or.inl h1
  · refine Or.inr ⟨lb, lo, c, hb, rfl, fun i ys hi => ?_⟩
    obtain ⟨xv, h3, h4⟩ := h2 i ys hi
    exact ⟨xv, (cell_same (hk lb hb (hle lb hb))).trans h3, PieceS.stays h4 hle hk⟩
/-- Pieces in a list, in blocks of S. -/
def xpcs (S : Nat → Prop) (v : Value) (pss : List (List Nat)) : Xt := ⟨false, S, fun W => PcsS W S v pss, fun _ _ hk hs h => PcsS.stays h hk hs⟩
theorem PieceS.mono {W : World} {S S' : Nat → Prop} {v : Value} {bs : List Nat} (h : PieceS W S v bs) (hS : ∀ b, S b → S' b) : PieceS W S' v bs := h.imp id (fun ⟨b, o, c, h1, h2, h3⟩ => ⟨b, o, c, hS b h1, h2, h3⟩)
theorem PcsS.mono {W : World} {S S' : Nat → Prop} {v : Value} {pss : List (List Nat)} (h : PcsS W S v pss) (hS : ∀ b, S b → S' b) (hle : ∀ b, S' b → b < W.heap.size) : PcsS W S' v pss :=
  ⟨hle, h.shape.imp id (fun ⟨lb, lo, c, h1, h2, h3⟩ => ⟨lb, lo, c, hS _ h1, h2, fun i ys hi => by
    obtain ⟨xv, h4, h5⟩ := h3 i ys hi
    exact ⟨xv, h4, h5.mono hS⟩⟩)⟩
theorem Sx.pc {w W : World} {L : List (Nat × Obj)} {X : List Xt} (h : Sx w L X W) (i : Nat) {B : Nat} {v : Value} {bs : List Nat} (hi : X[i]? = some (xpc B v bs)) : PieceV W W.heap.size v bs :=
  have k : B ≤ W.heap.size ∧ PieceV W B v bs := h.x i hi
  PieceV.mono k.2 k.1
theorem Sx.ps {w W : World} {L : List (Nat × Obj)} {X : List Xt} (h : Sx w L X W) (i : Nat) {S : Nat → Prop} {v : Value} {bs : List Nat} (hi : X[i]? = some (xps S v bs)) : PieceV W W.heap.size v bs :=
  have k : (∀ b, S b → b < W.heap.size) ∧ PieceS W S v bs := h.x i hi
  PieceS.mono k.2 k.1
theorem Sx.pcs {w W : World} {L : List (Nat × Obj)} {X : List Xt} (h : Sx w L X W) (i : Nat) {S : Nat → Prop} {v : Value} {pss : List (List Nat)} (hi : X[i]? = some (xpcs S v pss)) : Pcs W W.heap.size v pss :=
  have k : PcsS W S v pss := h.x i hi
  PcsS.mono k k.le (fun _ h => h)
theorem RestV.stays {W W' : World} {v : Value} {bs : List Nat} (h : RestV W v bs) (hk : ∀ b, v.ownBlock = some b → b < W.heap.size → W'.heap[b]? = W.heap[b]?) : RestV W' v bs := by
  rcases h with h | ⟨g, off, cap, cur, rfl, hg, h1, h2, h3⟩
  · exact Or.inl h
  · exact Or.inr ⟨g, off, cap, cur, rfl, (hk g rfl (lt_of_block hg)).trans hg, h1, h2, h3⟩
theorem RestV.lt {W : World} {v : Value} {bs : List Nat} (h : RestV W v bs) : ∀ b, v.ownBlock = some b → b < W.heap.size := fun b hb => by
  rcases h with ⟨rfl, -⟩ | ⟨g, off, cap, cur, rfl, hg, -⟩
  · cases hb
  · simp [Value.ownBlock] at hb; subst hb; exact lt_of_block hg
/-- A slice of bytes of one's own. -/
def xown (w : World) (v : Value) (bs : List Nat) : Xt := ⟨true, fun b => v.ownBlock = some b, fun W => RestV W v bs ∧ ∀ b, v.ownBlock = some b → w.heap.size ≤ b, fun _ _ hk _ h => ⟨RestV.stays h.1 hk, h.2⟩⟩
theorem Sx.own {w W : World} {L : List (Nat × Obj)} {X : List Xt} (h : Sx w L X W) (i : Nat) {v : Value} {bs : List Nat} (hi : X[i]? = some (xown w v bs)) : RestV W v bs := (show RestV W v bs ∧ _ from h.x i hi).1
theorem Sx.ownpc {w W : World} {L : List (Nat × Obj)} {X : List Xt} (h : Sx w L X W) (i : Nat) {v : Value} {bs : List Nat} (hi : X[i]? = some (xown w v bs)) : PieceV W W.heap.size v bs := (h.own i hi).piece
theorem Sx.app {w W W' : World} {L : List (Nat × Obj)} {X : List Xt} (h : Sx w L X W) (i : Nat) {v v' : Value} {bs zs : List Nat} (hi : X[i]? = some (xown w v bs)) (R : RestV W' v' zs) (K : Keeps (fun b => v.ownBlock = some b) W W') (Nn : ∀ b, v'.ownBlock = some b → v.ownBlock = some b ∨ b = W.heap.size) : Sx w L (X.set i (xown w v' zs)) W' := by
  have ho : RestV W v bs ∧ ∀ b, v.ownBlock = some b → w.heap.size ≤ b := h.x i hi
  refine h.writeX i hi rfl rfl ⟨R, fun b hb => ?_⟩ (fun b hb => ?_) (fun b hb => R.lt b hb) (fun b hb => ho.2 b hb) K.os K.tape K.output K.size K.block
  · rcases Nn b hb with h1 | h1
    · exact ho.2 b h1
    · rw [h1]; exact h.below.size
  · rcases Nn b hb with h1 | h1
    · exact Or.inl h1
    · exact Or.inr (by omega)
/-- What a call has given: a slice of bytes of its own. -/
theorem Sx.gave {w W W' : World} {L : List (Nat × Obj)} {X : List Xt} (h : Sx w L X W) {v : Value} {bs : List Nat} (p : PadR W v bs W') : Sx w L (xown w v bs :: X) W' :=
  h.madeX p.below _ ⟨p.rest, fun b hb => Nat.le_trans h.below.size (p.own b hb)⟩ (fun b hb => p.own b hb) (fun b hb => p.rest.lt b hb)
/-- What a function gives back. -/
theorem Sx.padr {w W : World} {L : List (Nat × Obj)} {X : List Xt} (h : Sx w L X W) (i : Nat) {v : Value} {bs : List Nat} (hi : X[i]? = some (xown w v bs)) : PadR w v bs W :=
  have ho : RestV W v bs ∧ ∀ b, v.ownBlock = some b → w.heap.size ≤ b := h.x i hi
  ⟨h.below, ho.1, ho.2⟩
/-- append(s, x...), as a step. -/
theorem wp_app {o : Oper} {a : Act} {K : Act → World → Prop} {Q : Exit → Act → World → Prop} {w W : World} {L : List (Nat × Obj)} {X : List Xt} (S : Sx w L X W) (i : Nat) (s x : Operand)
    (ho : o.op = .call { callee := .builtin .append, args := #[s, x], argTypes := #[26, 26] }) {v xv : Value} (hsv : a.eval s = v) (hxv : a.eval x = xv) {bs ys : List Nat} (hi : X[i]? = some (xown w v bs)) (hs : SrcB W xv ys) (hn : bs.length + ys.length ≤ 70368744177664)
    (h : ∀ v' W', Sx w L (X.set i (xown w v' (bs ++ ys))) W' → K (a.put o.dst v') W') : o.wp Try.prog a W K Q := by
  obtain ⟨v', W', hr, h2, h3, h4⟩ := run_app o.type W v xv bs ys (S.own i hi) hs hn
  unfold Oper.wp execOp
  simp only [ho, resolve, invoke, builtin, Sem.run_bind, Sem.run_pure, Result.andThen_ok, List.map_toArray, List.map_cons, List.map_nil, hsv, hxv, hr]
  exact h _ _ (S.app i hi h2 h3 h4)
/-- A row of bytes that a region has made, as a source. -/
theorem src_row {W : World} {g n c : Nat} {cs : Array Value} {l : List Nat} {t : TypeId} (h : W.heap[g]? = some (.cells cs t (0, 0))) (hl : cs.toList = bcells l) (hn : n = l.length) : SrcB W (.slice (some ⟨g, 0, none⟩) n c) l := by
  subst hn
  refine srcB_slice W g 0 c l (fun i hi => (cell_of_row _ _ _ _ _ _ h).trans ?_)
  have := bcells_get l i hi
  rw [← hl] at this
  rw [Nat.zero_add]; simpa using this
/-- A row of no bytes is a slice of one's own. -/
theorem Sx.empty {w W : World} {L : List (Nat × Obj)} {X : List Xt} (h : Sx w L X W) : Sx w L (xown w (.slice (some ⟨W.heap.size, 0, none⟩) 0 0) [] :: X) (W.alloc (.cells #[] 5)) := h.gave (PadR.new W)
/-- b[lo:hi]. -/
theorem piece_cut {W : World} {S : Nat → Prop} {a : Option Addr} {n c : Nat} {bs : List Nat} (h : PieceS W S (.slice a n c) bs) (lo hi : Nat) (h1 : lo ≤ hi) (h2 : hi ≤ bs.length) (hc : bs.length ≤ c) :
    ∃ a', sliced a lo hi c 1 = .slice a' (hi - lo) (c - lo) ∧ PieceS W S (.slice a' (hi - lo) (c - lo)) ((bs.drop lo).take (hi - lo)) := by
  have hl : ((bs.drop lo).take (hi - lo)).length = hi - lo := by rw [List.length_take, List.length_drop]; omega
  refine ⟨_, rfl, ?_⟩
  by_cases h0 : hi = lo
  · subst h0
    refine Or.inl ⟨⟨_, _, by rw [Nat.sub_self]⟩, by rw [Nat.sub_self]; rfl⟩
  · rcases h with ⟨-, h3⟩ | ⟨b, o, c', hb, h3, h4⟩
    · exfalso; rw [h3] at h2; simp at h2; omega
    · injection h3 with e1 e2 e3
      subst e1
      rw [if_neg (by omega)]
      refine Or.inr ⟨b, o + lo, c - lo, hb, ?_, fun i hi' => ?_⟩
      · have : (⟨b, o, none⟩ : Addr).add (lo * 1) = ⟨b, o + lo, none⟩ := by unfold Addr.add; split <;> simp_all
        simp only [Option.map_some, this, hl]
      · rw [hl] at hi'
        rw [nth_take _ _ _ hi', nth_drop, Nat.add_assoc]; exact h4 (lo + i) (by omega)
section cuts
variable {o : Oper} {a : Act} {K : Act → World → Prop} {Q : Exit → Act → World → Prop} {W : World} {S : Nat → Prop} {A : Option Addr} {n c : Nat} {bs : List Nat} {x y z : Operand} {k k' : IntKind}
end cuts
/-- A piece of one byte or more lies somewhere. -/
theorem Sx.lies {w W : World} {L : List (Nat × Obj)} {X : List Xt} (h : Sx w L X W) (i : Nat) {q : Xt} (hi : X[i]? = some q) {B : Nat} {A : Option Addr} {n c : Nat} {bs : List Nat} (hq : q = xpc B (.slice A n c) bs) (h0 : 0 < bs.length) : ∃ b o, A = some ⟨b, o, none⟩ := by
  subst hq
  rcases h.pc i hi with ⟨-, h1⟩ | ⟨b, o, c', -, h1, -⟩
  · rw [h1] at h0; simp at h0
  · injection h1 with e; exact ⟨b, o, e⟩
theorem PieceS.at {W : World} {S : Nat → Prop} {b o n c : Nat} {bs : List Nat} (h : PieceS W S (.slice (some ⟨b, o, none⟩) n c) bs) (k a : Nat) (hk : k < bs.length) (ha : a = o + k) : W.cell? ⟨b, a, none⟩ = some (.int .u8 ((nth bs k : Nat) : Int)) := by
  subst ha
  rcases h with ⟨-, h1⟩ | ⟨b', o', c', -, h1, h2⟩
  · rw [h1] at hk; simp at hk
  · injection h1 with e; injection e with e; injection e with e1 e2; subst e1 e2; exact h2 k hk
/-- What is sliced off hangs on the same blocks. -/
theorem Sx.cutpc {w W : World} {L : List (Nat × Obj)} {X : List Xt} (h : Sx w L X W) (i : Nat) {B : Nat} {v v' : Value} {bs bs' : List Nat} (hi : X[i]? = some (xpc B v bs)) (hp : PieceS W (fun b => b < B) v' bs') : Sx w L (xpc B v' bs' :: X) W :=
  h.dup i hi rfl _ rfl (fun _ h => h) ⟨(show B ≤ W.heap.size ∧ _ from h.x i hi).1, hp⟩
theorem Sx.pcS {w W : World} {L : List (Nat × Obj)} {X : List Xt} (h : Sx w L X W) (i : Nat) {B : Nat} {v : Value} {bs : List Nat} (hi : X[i]? = some (xpc B v bs)) : PieceS W (fun b => b < B) v bs := (show B ≤ W.heap.size ∧ PieceV W B v bs from h.x i hi).2
theorem Sx.psS {w W : World} {L : List (Nat × Obj)} {X : List Xt} (h : Sx w L X W) (i : Nat) {S : Nat → Prop} {v : Value} {bs : List Nat} (hi : X[i]? = some (xps S v bs)) : PieceS W S v bs := (show (∀ b, S b → b < W.heap.size) ∧ PieceS W S v bs from h.x i hi).2
end Go.Proofs.Ytljcaegcbcikiaa
namespace Go.Proofs.Ytljcaegcbcikiaa
open Go.RowKit
theorem PadR.nil' {w W : World} {bs : List Nat} (h : Below w.heap.size w W) (he : bs = []) : PadR w (.slice none 0 0) bs W := ⟨h, Or.inl ⟨rfl, he⟩, fun b hb => by cases hb⟩
theorem Sx.ofpc {w : World} {v : Value} {bs : List Nat} (h : PieceV w w.heap.size v bs) : Sx w [] [xpc w.heap.size v bs] w := (Sx.nil w).addX _ ⟨Nat.le_refl _, h⟩ (fun _ h => by cases h) (fun _ h => h) (fun _ h => by cases h)
set_option maxRecDepth 100000 in
set_option maxHeartbeats 4000000 in
theorem clone_c (v : Value) (bs : List Nat) (w : World) (hp : PieceV w w.heap.size v bs) (hlen : bs.length ≤ 1000000000) :
    Calls Try.prog 15 #[v] w fun e w' => ∃ v', e = .returned v' ∧ PadR w v' bs w' := by
  obtain ⟨a, c, rfl⟩ := hp.shape
  have S0 := Sx.ofpc hp
  cases a with
  | none =>
    have he : bs = [] := by rcases hp with h | ⟨b, o, c', _, h, _⟩; exact h.2; injection h with h; cases h
    have HE := Lib.hid he
    clear he
    clear hp
    have sk : Try.f15.body = some (.seq (rgn Try.f15 0) (.seq (.seq (rgn Try.f15 1) (.cond (.tmp 4) (.seq (rgn Try.f15 2) .ret) .skip)) (.seq (rgn Try.f15 3) .ret))) := by kernel_rfl
    refine enter 8 [(0, .slice none (bs.length) (c))] Try.func15 sk (by rfl) rfl S0 (fun T W hF hS => ?_)
    clear sk S0
    refine wp_seq ?_
    conv => arg 2; whnf
    refine wp_region_lit ?_
    refine so_p hF (.slice none 0 0) (fun K hK => wp_assign rfl rfl hK) ?_; clear hF T; intro T hF
    refine wpList_nil ?_
    refine then_normal ?_
    refine wp_seq ?_
    refine wp_seq ?_
    conv => arg 2; whnf
    refine wp_region_lit ?_
    refine so_mv hF 1 ?_; clear hF T; intro T hF
    refine so_pure hF rfl (wanted_none rfl _) (by decide) rfl (.bool true) (fun K hK => ?_) ?_
    next =>
     have f3 := hF.ev 0 rfl
     have hn : (Op.equalIn 10000 26 (.slice none bs.length c) (.slice none 0 0)).run Try.prog W = .ok true W := Lib.run_equalIn_slice_nil W 9999 _ _ _ _ _ _ _ Try.underlying26
     go_simp
     exact hK.out
    clear hF
    clear T
    intro T hF
    refine wpList_nil ?_
    refine then_normal ?_
    refine wp_cond_true (hF.op 0 rfl) ?_
    refine wp_seq ?_
    conv => arg 2; whnf
    refine wp_region_lit ?_
    replace hF : Fr 8 ⟨T, []⟩ [] := hF.pick []
    refine so_p hF (.slice none 0 0) (fun K hK => wp_assign rfl rfl hK) ?_; clear hF T; intro T hF
    refine wpList_nil ?_
    refine then_normal ?_
    refine wp_ret ?_
    refine then_ret ?_
    refine bodyPost_ret (v := .slice none 0 0) (results_t1 Try.results15 (hF.ev 0 rfl)) rfl ?_
    exact ⟨_, rfl, PadR.nil' hS.below HE.out⟩
  | some a =>
    clear hp
    have sk : Try.f15.body = some (.seq (rgn Try.f15 0) (.seq (.seq (rgn Try.f15 1) (.cond (.tmp 4) (.seq (rgn Try.f15 2) .ret) .skip)) (.seq (rgn Try.f15 3) .ret))) := by kernel_rfl
    refine enter 8 [(0, .slice (some a) (bs.length) (c))] Try.func15 sk (by rfl) rfl S0 (fun T W hF hS => ?_)
    clear sk S0
    refine wp_seq ?_
    conv => arg 2; whnf
    refine wp_region_lit ?_
    refine so_p hF (.slice none 0 0) (fun K hK => wp_assign rfl rfl hK) ?_; clear hF T; intro T hF
    refine wpList_nil ?_
    refine then_normal ?_
    refine wp_seq ?_
    refine wp_seq ?_
    conv => arg 2; whnf
    refine wp_region_lit ?_
    refine so_mv hF 1 ?_; clear hF T; intro T hF
    refine so_pure hF rfl (wanted_none rfl _) (by decide) rfl (.bool false) (fun K hK => ?_) ?_
    next =>
     have f3 := hF.ev 0 rfl
     have hn : (Op.equalIn 10000 26 (.slice (some a) bs.length c) (.slice none 0 0)).run Try.prog W = .ok false W := Lib.run_equalIn_slice_nil W 9999 _ _ _ _ _ _ _ Try.underlying26
     go_simp
     exact hK.out
    clear hF
    clear T
    intro T hF
    refine wpList_nil ?_
    refine then_normal ?_
    refine wp_cond_false (hF.op 0 rfl) ?_
    refine wp_skip ?_
    refine then_normal ?_
    refine wp_seq ?_
    conv => arg 2; whnf
    refine wp_region_lit ?_
    refine so_step hF rfl (wanted_none rfl _) (by decide) rfl (fun v W' => ∃ g, (.slice (some ⟨g, 0, none⟩) 0 0 : Value) = v ∧ Sx w [] [xown w (.slice (some ⟨g, 0, none⟩) 0 0) [], xpc w.heap.size (.slice (some a) (bs.length) (c)) bs] W') (fun K hK => ?_) ?_
    next =>
     go_simp
     exact hK.out _ _ ⟨_, rfl, hS.empty⟩
    clear hS
    clear hF
    clear T
    rintro v T W1 ⟨g5, rfl, hS⟩ hF
    try clear W
    obtain ⟨W, rfl⟩ : ∃ x, x = W1 := ⟨_, rfl⟩
    refine so_mv hF 4 ?_; clear hF T; intro T hF
    refine so_step hF rfl (wanted_none rfl _) (by decide) rfl (fun v W' => ∃ aq cq, .slice aq (bs.length) cq = v ∧ Sx w [] (List.set [xown w (.slice (some ⟨g5, 0, none⟩) 0 0) [], xpc w.heap.size (.slice (some a) (bs.length) (c)) bs] 0 (xown w v ([] ++ bs))) W') (fun K hK => ?_) ?_
    next =>
     refine wp_app hS 0 (.tmp 5) (.tmp 6) rfl (hF.op 1 rfl) (hF.op 0 rfl) rfl (PieceV.src (hS.pc 1 rfl)) (by first | omega | (simp; omega)) (fun v' W' hS' => ?_)
     obtain ⟨a, c, e⟩ := (hS'.own 0 rfl).shape
     exact hK.out _ _ ⟨a, c, by rw [e]; simp, hS'⟩
    clear hF hS
    clear T
    rintro v T W1 ⟨a7, c7, rfl, hS⟩ hF
    try clear W
    obtain ⟨W, rfl⟩ : ∃ x, x = W1 := ⟨_, rfl⟩
    replace hS : Sx w [] [xown w (.slice a7 (bs.length) c7) ([] ++ bs), xpc w.heap.size (.slice (some a) (bs.length) (c)) bs] W := hS
    replace hF : Fr 8 ⟨T, []⟩ [(7, .slice a7 (bs.length) (c7))] := hF.pick [0]
    refine so_as hF 0 ?_; clear hF T; intro T hF
    refine wpList_nil ?_
    refine then_normal ?_
    refine wp_ret ?_
    refine bodyPost_ret (v := .slice a7 (bs.length) (c7)) (results_t1 Try.results15 (hF.ev 0 rfl)) rfl ?_
    exact ⟨_, rfl, hS.padr 0 rfl⟩
end Go.Proofs.Ytljcaegcbcikiaa
namespace Go.Proofs.Ytljcaegcbcikiaa
open Go.RowKit
/-- The bytes of a text. -/
def sb (s : ByteArray) : List Nat := s.data.toList.map UInt8.toNat
theorem sb_len (s : ByteArray) : (sb s).length = s.size := by simp [sb]
theorem sb_lt (s : ByteArray) : ∀ y, y ∈ sb s → y < 256 := by
  intro y hy; simp only [sb, List.mem_map] at hy; obtain ⟨c, -, rfl⟩ := hy; exact c.toNat_lt
/-- []byte(s), as a step. -/
theorem wp_bytes {o : Oper} {a : Act} {K : Act → World → Prop} {Q : Exit → Act → World → Prop} {w W : World} {L : List (Nat × Obj)} {X : List Xt} (S : Sx w L X W) {x : Operand} {s : ByteArray} (ho : o.op = .convert 9 26 x) (hx : a.eval x = .string s)
    (h : ∀ g c W', w.heap.size ≤ g → W.heap.size ≤ g → Sx w L (xps (fun b => b = g) (.slice (some ⟨g, 0, none⟩) (sb s).length c) (sb s) :: X) W' → K (a.put o.dst (.slice (some ⟨g, 0, none⟩) (sb s).length c)) W') : o.wp Try.prog a W K Q := by
  have hb : Below W.heap.size W (Lib.bytesWorld W 5 s) := ⟨rfl, rfl, rfl, by rw [Lib.bytesWorld_size]; omega, fun b hb => Lib.bytesWorld_at_old W _ s b hb⟩
  have hp : PieceS (Lib.bytesWorld W 5 s) (fun b => b = W.heap.size) (.slice (some ⟨W.heap.size, 0, none⟩) (sb s).length (grownCap W s.size 0 5)) (sb s) :=
    Or.inr ⟨W.heap.size, 0, _, rfl, rfl, fun i hi => by
      rw [sb_len] at hi
      rw [Nat.zero_add, Lib.bytesWorld_cell W _ s i hi]
      have e : nth (sb s) i = (s.data.toList.getD i 0).toNat := by
        have hi2 : i < s.data.toList.length := by simpa using hi
        unfold nth sb
        rw [List.getD_eq_getElem?_getD, List.getElem?_map, List.getD_eq_getElem?_getD, List.getElem?_eq_getElem hi2]; rfl
      rw [e]⟩
  have hr := Lib.run_convert_string_bytes (P := Try.prog) W 9 26 5 s Try.underlying9 Try.underlying26 Try.underlying5
  have hlt : W.heap.size < (Lib.bytesWorld W 5 s).heap.size := by rw [Lib.bytesWorld_size]; omega
  unfold Oper.wp execOp
  simp only [ho, hx, Sem.run_bind, hr, Result.andThen_ok, Sem.run_pure]
  rw [← sb_len]
  rw [← sb_len] at hp
  exact h _ _ _ S.below.size (Nat.le_refl _) (S.madeX hb _ ⟨fun b hb => hb ▸ hlt, hp⟩ (fun b hb => hb ▸ Nat.le_refl _) (fun b hb => hb ▸ hlt))
/-- A row of bytes as a piece. -/
theorem row_piece {W : World} {g n c : Nat} {cs : Array Value} {l : List Nat} {t : TypeId} (h : W.heap[g]? = some (.cells cs t (0, 0))) (hl : cs.toList = bcells l) (hn : n = l.length) : PieceV W W.heap.size (.slice (some ⟨g, 0, none⟩) n c) l := by
  subst hn
  refine Or.inr ⟨g, 0, c, lt_of_block h, rfl, fun i hi => (cell_of_row _ _ _ _ _ _ h).trans ?_⟩
  have := bcells_get l i hi
  rw [← hl] at this
  rw [Nat.zero_add]; simpa using this
/-- A word that pushes. -/
def pw (x : List Nat) : List Nat := if x.length ≤ 75 then x.length :: x else if x.length < 256 then 76 :: x.length :: x else 77 :: x.length % 256 :: x.length / 256 % 256 :: x
def pws (l : List (List Nat)) : List Nat := (l.map pw).flatten
theorem pws_snoc (l : List (List Nat)) (k : Nat) (x : List Nat) (h : l[k]? = some x) : pws (l.take (k + 1)) = pws (l.take k) ++ pw x := by
  unfold pws
  rw [List.take_add_one, h]; simp
theorem pw1 (x : List Nat) (h : x.length ≤ 75) : pw x = [x.length] ++ x := by simp [pw, h]
theorem pw2 (x : List Nat) (h : ¬ x.length ≤ 75) (h2 : x.length < 256) : pw x = [76, x.length] ++ x := by simp [pw, h, h2]
theorem pw3 (x : List Nat) (h : ¬ x.length ≤ 75) (h2 : ¬ x.length < 256) : pw x = [77, x.length % 256, x.length / 256 % 256] ++ x := by simp [pw, h, h2]
theorem pws_take_le (l : List (List Nat)) (k : Nat) : (pws (l.take k)).length ≤ (pws l).length := by
  have e : pws l = pws (l.take k) ++ pws (l.drop k) := by
    unfold pws
    rw [← List.flatten_append, ← List.map_append, List.take_append_drop]
  rw [e, List.length_append]; omega
theorem pw_len (x : List Nat) : x.length < (pw x).length ∧ (pw x).length ≤ x.length + 3 := by
  unfold pw
  split
  · simp
  · split <;> simp <;> omega
theorem pw_lt (x : List Nat) (h : ∀ y, y ∈ x → y < 256) : ∀ y, y ∈ pw x → y < 256 := by
  intro y hy
  unfold pw at hy
  split at hy
  · rcases List.mem_cons.1 hy with rfl | hy
    · omega
    · exact h y hy
  · split at hy
    · rcases List.mem_cons.1 hy with rfl | hy
      · omega
      · rcases List.mem_cons.1 hy with rfl | hy
        · omega
        · exact h y hy
    · rcases List.mem_cons.1 hy with rfl | hy
      · omega
      · rcases List.mem_cons.1 hy with rfl | hy
        · omega
        · rcases List.mem_cons.1 hy with rfl | hy
          · omega
          · exact h y hy
theorem pws_lt (l : List (List Nat)) (h : ∀ x, x ∈ l → ∀ y, y ∈ x → y < 256) : ∀ y, y ∈ pws l → y < 256 := by
  intro y hy
  unfold pws at hy
  obtain ⟨z, hz, hyz⟩ := List.mem_flatten.1 hy
  obtain ⟨x, hx, rfl⟩ := List.mem_map.1 hz
  exact pw_lt x (h x hx) y hyz
theorem pws_le (l : List (List Nat)) : (pws l).length ≤ l.flatten.length + 3 * l.length := by
  induction l with
  | nil => simp [pws]
  | cons x l ih =>
    have h := pw_len x
    have e : pws (x :: l) = pw x ++ pws l := rfl
    rw [e, List.length_append, List.flatten_cons, List.length_append, List.length_cons]; omega
/-- How many bytes a word's head has, and how many it pushes. -/
def hd (b : List Nat) : Nat := if nth b 0 = 76 then 2 else if nth b 0 = 77 then 3 else 1
def sz (b : List Nat) : Nat := if nth b 0 ≤ 75 then nth b 0 else if nth b 0 = 76 then nth b 1 else if nth b 0 = 77 then nth b 1 + 256 * nth b 2 else 0
/-- The first word: its code, what it pushes, how many bytes it has. -/
def nxt (b : List Nat) : Option (Nat × List Nat × Nat) :=
  if b = [] then none
  else if 81 ≤ nth b 0 ∧ nth b 0 ≤ 96 then some (nth b 0, [nth b 0 - 80], 1)
  else if b.length < hd b + sz b then none
  else some (nth b 0, (b.drop (hd b)).take (sz b), hd b + sz b)
theorem nxt_nil (b : List Nat) (h : b.length = 0) : nxt b = none := by
  obtain rfl : b = [] := List.eq_nil_of_length_eq_zero h
  rfl
theorem nxt_one (b : List Nat) (h : ¬ b.length = 0) (c : Nat) (hc : nth b 0 = c) (h1 : 81 ≤ c) (h2 : c ≤ 96) : nxt b = some (c, [c - 80], 1) := by
  subst hc
  unfold nxt
  rw [if_neg (by rintro rfl; exact h rfl), if_pos ⟨h1, h2⟩]
theorem nxt_short (b : List Nat) (h : ¬ b.length = 0) (h1 : ¬ (81 ≤ nth b 0 ∧ nth b 0 ≤ 96)) (h2 : b.length < hd b + sz b) : nxt b = none := by
  unfold nxt
  rw [if_neg (by rintro rfl; exact h rfl), if_neg h1, if_pos h2]
theorem nxt_ok (b : List Nat) (h : ¬ b.length = 0) (h1 : ¬ (81 ≤ nth b 0 ∧ nth b 0 ≤ 96)) (h2 : ¬ b.length < hd b + sz b) : nxt b = some (nth b 0, (b.drop (hd b)).take (sz b), hd b + sz b) := by
  unfold nxt
  rw [if_neg (by rintro rfl; exact h rfl), if_neg h1, if_neg h2]
theorem nxt_le {b : List Nat} {c : Nat} {d : List Nat} {u : Nat} (h : nxt b = some (c, d, u)) : 0 < u ∧ u ≤ b.length ∧ d.length ≤ b.length := by
  unfold nxt at h
  split at h
  · cases h
  · rename_i hb
    have hpos : 0 < b.length := List.length_pos_iff.2 hb
    split at h
    · injection h with h; injection h with h1 h2; injection h2 with h2 h3
      subst h2 h3; simp; omega
    · split at h
      · cases h
      · injection h with h; injection h with h1 h2; injection h2 with h2 h3
        subst h2 h3
        have : 0 < hd b := by unfold hd; split <;> (try split) <;> omega
        rw [List.length_take, List.length_drop]; omega
/-- What is written reads back. -/
theorem nxt_pw (x r : List Nat) (hx : x.length < 65536) : ∃ c, nxt (pw x ++ r) = some (c, x, (pw x).length) := by
  unfold pw
  split
  · rename_i h
    refine ⟨x.length, ?_⟩
    have e0 : nth (x.length :: x ++ r) 0 = x.length := rfl
    have eh : hd (x.length :: x ++ r) = 1 := by unfold hd; rw [e0, if_neg (by omega), if_neg (by omega)]
    have es : sz (x.length :: x ++ r) = x.length := by unfold sz; rw [e0, if_pos h]
    rw [nxt_ok _ (by simp) (by rw [e0]; omega) (by rw [eh, es]; simp; omega), e0, eh, es]
    simp; omega
  · rename_i h
    split
    · rename_i h2
      refine ⟨76, ?_⟩
      have e0 : nth (76 :: x.length :: x ++ r) 0 = 76 := rfl
      have e1 : nth (76 :: x.length :: x ++ r) 1 = x.length := rfl
      have eh : hd (76 :: x.length :: x ++ r) = 2 := by unfold hd; rw [e0, if_pos rfl]
      have es : sz (76 :: x.length :: x ++ r) = x.length := by unfold sz; rw [e0, if_neg (by omega), if_pos rfl, e1]
      rw [nxt_ok _ (by simp) (by rw [e0]; omega) (by rw [eh, es]; simp; omega), e0, eh, es]
      simp; omega
    · rename_i h2
      refine ⟨77, ?_⟩
      have e0 : nth (77 :: x.length % 256 :: x.length / 256 % 256 :: x ++ r) 0 = 77 := rfl
      have e1 : nth (77 :: x.length % 256 :: x.length / 256 % 256 :: x ++ r) 1 = x.length % 256 := rfl
      have e2 : nth (77 :: x.length % 256 :: x.length / 256 % 256 :: x ++ r) 2 = x.length / 256 % 256 := rfl
      have eh : hd (77 :: x.length % 256 :: x.length / 256 % 256 :: x ++ r) = 3 := by unfold hd; rw [e0, if_neg (by omega), if_pos rfl]
      have es : sz (77 :: x.length % 256 :: x.length / 256 % 256 :: x ++ r) = x.length := by unfold sz; rw [e0, if_neg (by omega), if_neg (by omega), if_pos rfl, e1, e2]; omega
      rw [nxt_ok _ (by simp) (by rw [e0]; omega) (by rw [eh, es]; simp; omega), e0, eh, es]
      simp; omega
/-- What Next gives back. -/
def RetN (w : World) (bs : List Nat) (e : Ending) (w' : World) : Prop :=
  (nxt bs = none ∧ e = .returned (.tuple #[.int .u8 0, .slice none 0 0, .int .i64 0, .int .i64 71]) ∧ Below w.heap.size w w') ∨
    ∃ c d u v, nxt bs = some (c, d, u) ∧ e = .returned (.tuple #[.int .u8 ((c : Nat) : Int), v, .int .i64 ((u : Nat) : Int), .int .i64 0]) ∧ PadR w v d w'
theorem RetN.no {w w' : World} {bs : List Nat} (h : nxt bs = none) (hb : Below w.heap.size w w') : RetN w bs (.returned (.tuple #[.int .u8 0, .slice none 0 0, .int .i64 0, .int .i64 71])) w' := Or.inl ⟨h, rfl, hb⟩
theorem RetN.yes {w w' : World} {bs : List Nat} (c : Nat) (d : List Nat) (u : Nat) {v : Value} (h : nxt bs = some (c, d, u)) (hp : PadR w v d w') : RetN w bs (.returned (.tuple #[.int .u8 ((c : Nat) : Int), v, .int .i64 ((u : Nat) : Int), .int .i64 0])) w' := Or.inr ⟨c, d, u, v, h, rfl, hp⟩
theorem RetN.ok {w w' : World} {bs : List Nat} (h0 : ¬ bs.length = 0) (h1 : ¬ (81 ≤ nth bs 0 ∧ nth bs 0 ≤ 96)) (H N : Nat) (hH : hd bs = H) (hN : sz bs = N) (h2 : ¬ bs.length < H + N) (c : Nat) (hc : nth bs 0 = c) {v : Value} (hp : PadR w v ((bs.drop H).take N) w') : RetN w bs (.returned (.tuple #[.int .u8 ((c : Nat) : Int), v, .int .i64 ((H + N : Nat) : Int), .int .i64 0])) w' := by
  subst hH hN hc
  exact RetN.yes _ _ _ (nxt_ok bs h0 h1 h2) hp
theorem RetN.short {w w' : World} {bs : List Nat} (h0 : ¬ bs.length = 0) (h1 : ¬ (81 ≤ nth bs 0 ∧ nth bs 0 ≤ 96)) (H N : Nat) (hH : hd bs = H) (hN : sz bs = N) (h2 : bs.length < H + N) (hb : Below w.heap.size w w') : RetN w bs (.returned (.tuple #[.int .u8 0, .slice none 0 0, .int .i64 0, .int .i64 71])) w' := by
  subst hH hN
  exact RetN.no (nxt_short bs h0 h1 h2) hb
theorem nth_lt (bs : List Nat) (h : ∀ y, y ∈ bs → y < 256) (i : Nat) : nth bs i < 256 := by
  by_cases hi : i < bs.length
  · exact h _ (nth_mem bs i hi)
  · unfold nth; rw [List.getD_eq_getElem?_getD, List.getElem?_eq_none (by omega)]; decide
end Go.Proofs.Ytljcaegcbcikiaa
namespace Go.Proofs.Ytljcaegcbcikiaa
open Go.RowKit
theorem pcs_cell {w W : World} {L : List (Nat × Obj)} {X : List Xt} (h : Sx w L X W) (i : Nat) {S : Nat → Prop} {A : Option Addr} {n c : Nat} {pss : List (List Nat)} (hi : X[i]? = some (xpcs S (.slice A n c) pss)) (k : Nat) (x : List Nat) (hk : pss[k]? = some x) :
    ∃ b o xa xc, A = some ⟨b, o, none⟩ ∧ W.cell? ⟨b, o + k, none⟩ = some (.slice xa x.length xc) ∧ Sx w L (xps S (.slice xa x.length xc) x :: X) W := by
  have hp : PcsS W S (.slice A n c) pss := h.x i hi
  rcases hp.shape with ⟨-, h1⟩ | ⟨lb, lo, c', hb, h1, h2⟩
  · rw [h1] at hk; simp at hk
  · injection h1 with e1 e2 e3
    obtain ⟨xv, h3, h4⟩ := h2 k x hk
    obtain ⟨xa, xc, rfl⟩ := h4.shape
    exact ⟨lb, lo, xa, xc, e1, h3, h.dup i hi rfl _ rfl (fun _ h => h) ⟨hp.le, h4⟩⟩
theorem PcsS.shape0 {W : World} {S : Nat → Prop} {lv : Value} {pss : List (List Nat)} (h : PcsS W S lv pss) : ∃ a c, lv = .slice a pss.length c := by
  rcases h.shape with ⟨⟨a, c, rfl⟩, rfl⟩ | ⟨lb, lo, c, -, rfl, -⟩
  · exact ⟨_, _, rfl⟩
  · exact ⟨_, _, rfl⟩
theorem Sx.ofpcs {w : World} {v lv : Value} {bs : List Nat} {pss : List (List Nat)} (h : PieceV w w.heap.size v bs) (h2 : Pcs w w.heap.size lv pss) : Sx w [] [xpc w.heap.size v bs, xpcs (fun b => b < w.heap.size) lv pss] w :=
  ((Sx.nil w).addX (xpcs (fun b => b < w.heap.size) lv pss) h2 (fun _ h => by cases h) (fun _ h => h) (fun _ h => by cases h)).addX _ ⟨Nat.le_refl _, h⟩ (fun _ h => by cases h) (fun _ h => h) (fun r hr hx => by
    rcases List.mem_cons.1 hr with rfl | hr
    · cases hx
    · cases hr)
set_option maxRecDepth 100000 in
set_option maxHeartbeats 4000000 in
theorem push_c (v lv : Value) (bs : List Nat) (pss : List (List Nat)) (w : World) (hp : PieceV w w.heap.size v bs) (hl : Pcs w w.heap.size lv pss) (hlen : bs.length + (pws pss).length ≤ 1000000000) (hpl : pss.length ≤ 1000000000) :
    Calls Try.prog 21 #[v, lv] w fun e w' => ∃ v', e = .returned v' ∧ PadR w v' (bs ++ pws pss) w' := by
  obtain ⟨ba, bc, rfl⟩ := hp.shape
  obtain ⟨la, lc, rfl⟩ := hl.shape0
  have S0 := Sx.ofpcs hp hl
  clear hp hl
  have sk : Try.f21.body = some (.seq (rgn Try.f21 0) (.seq (rgn Try.f21 1) (.seq (.seq (rgn Try.f21 2) (.block 0 (.loop (.seq (rgn Try.f21 3) (.seq (.cond (.tmp 14) .skip (.exit 0)) (.seq (.block 1 (.seq (rgn Try.f21 4) (.seq (.seq (rgn Try.f21 5) (.block 2 (.seq (rgn Try.f21 7) (.cond (.tmp 27) (rgn Try.f21 8) (.seq (rgn Try.f21 9) (.cond (.tmp 35) (rgn Try.f21 10) (rgn Try.f21 6))))))) (rgn Try.f21 11)))) (rgn Try.f21 12))))))) (.seq (rgn Try.f21 13) .ret)))) := by kernel_rfl
  refine enter 48 [(0, .slice ba (bs.length) (bc)), (1, .slice la (pss.length) (lc))] Try.func21 sk (by rfl) rfl S0 (fun T W hF hS => ?_)
  clear sk S0
  refine wp_seq ?_
  conv => arg 2; whnf
  refine wp_region_lit ?_
  refine so_p hF (.slice none 0 0) (fun K hK => wp_assign rfl rfl hK) ?_; clear hF T; intro T hF
  refine wpList_nil ?_
  refine then_normal ?_
  refine wp_seq ?_
  conv => arg 2; whnf
  refine wp_region_lit ?_
  refine so_mv hF 1 ?_; clear hF T; intro T hF
  refine so_step hF rfl (wanted_none rfl _) (by decide) rfl (fun v W' => ∃ aq cq, .slice aq (bs.length) cq = v ∧ Sx w [] [xown w (.slice aq (bs.length) cq) (bs), xpc w.heap.size (.slice ba (bs.length) (bc)) bs, xpcs (fun b => b < w.heap.size) (.slice la (pss.length) (lc)) pss] W') (fun K hK => ?_) ?_
  next =>
   refine wp_call rfl Try.func15 (by kernel_rfl) (ev1 (hF.op 0 rfl)) ?_
   refine (clone_c _ bs _ (hS.pc 0 rfl) (by omega)).mono ?_
   rintro e W2 ⟨v', rfl, hp⟩
   obtain ⟨aq, cq, rfl⟩ := hp.rest.shape
   exact ⟨_, rfl, hK.out _ _ ⟨_, _, rfl, hS.gave hp⟩⟩
  clear hF hS
  clear T
  rintro v T W1 ⟨a10, c10, rfl, hS⟩ hF
  try clear W
  obtain ⟨W, rfl⟩ : ∃ x, x = W1 := ⟨_, rfl⟩
  refine so_as hF 0 ?_; clear hF T; intro T hF
  refine wpList_nil ?_
  refine then_normal ?_
  refine wp_seq ?_
  refine wp_seq ?_
  conv => arg 2; whnf
  refine wp_region_lit ?_
  refine so_mv hF 5 ?_; clear hF T; intro T hF
  refine so_p hF (.int .i64 ((pss.length : Nat))) (fun K hK => wp_len rfl (hF.op 0 rfl) Try.underlying42 hK) ?_; clear hF T; intro T hF
  refine so_p hF (.int .i64 0) (fun K hK => wp_move rfl rfl hK) ?_; clear hF T; intro T hF
  refine wpList_nil ?_
  refine then_normal ?_
  refine wp_block ?_
  refine wp_loop_ghost (fun n a W => ∃ T : Array Value, ∃ k : Nat, ∃ zs : List Nat, ∃ za : Option Addr, ∃ zc : Nat, a = ⟨T, []⟩ ∧ Fr 48 ⟨T, []⟩ [(13, .int .i64 ((k : Int))), (12, .int .i64 ((pss.length : Nat))), (11, .slice la (pss.length) (lc)), (5, .slice za (zs.length) (zc))] ∧ Sx w [] [xown w (.slice za zs.length zc) zs, xpcs (fun b => b < w.heap.size) (.slice la (pss.length) (lc)) pss] W ∧ (k + n = pss.length) ∧ (zs = bs ++ pws (pss.take k))) (pss.length) ⟨T, 0, bs, a10, c10, rfl, (hF.pick [0, 1, 2, 3]), (hS.pick [] [0, 2] rfl rfl), Nat.zero_add _, by simp [pws]⟩ ?_
  clear hF hS
  try clear T
  try clear W
  rintro n a W ⟨T, k, zs, za, zc, rfl, hF, hS, hk, hz⟩
  have HZ := Lib.hid hz
  clear hz
  have hkl : (k : Int) ≤ pss.length := by omega
  have hpl := pws_take_le pss k
  have hzl : zs.length = bs.length + (pws (pss.take k)).length := by rw [HZ.out]; simp
  have hzb : zs.length ≤ 1000000000 := by omega
  clear hpl hzl
  refine wp_seq ?_
  by_cases h : k < pss.length
  next =>
   obtain ⟨x, hx⟩ : ∃ x, pss[k]? = some x := ⟨_, List.getElem?_eq_getElem h⟩
   have HX := Lib.hid hx
   have hxl : x.length + zs.length ≤ 1000000000 := by
     have h1 := pws_take_le pss (k + 1)
     rw [pws_snoc pss k x hx, List.length_append] at h1
     have h2 := pw_len x
     have h3 : zs.length = bs.length + (pws (pss.take k)).length := by rw [HZ.out]; simp
     omega
   clear hx
   conv => arg 2; whnf
   refine wp_region_lit ?_
   refine so_p hF (.bool true) (fun K hK => wp_lss_t rfl (hF.op 0 rfl) (hF.op 1 rfl) (by omega) hK) ?_; clear hF T; intro T hF
   refine wpList_nil ?_
   refine then_normal ?_
   refine wp_seq ?_
   refine wp_cond_true (hF.op 0 rfl) ?_
   refine wp_skip ?_
   refine then_normal ?_
   refine wp_seq ?_
   refine wp_block ?_
   refine wp_seq ?_
   obtain ⟨lb, lo, xa, xc, rfl, hcell, hS1⟩ := pcs_cell hS 1 rfl k x HX.out
   have hS := hS1
   clear hS1
   conv => arg 2; whnf
   refine wp_region_lit ?_
   refine so_p hF (.pointer (some ⟨lb, lo + k, none⟩)) (fun K hK => wp_ixs rfl (hF.op 3 rfl) (hF.op 1 rfl) Try.underlying42 Try.sizeOf26 (by omega) (by omega) (lo + k) (by omega) hK) ?_; clear hF T; intro T hF
   refine so_p hF (.slice xa (x.length) (xc)) (fun K hK => wp_ld rfl (hF.op 0 rfl) Try.underlying26 rfl (hcell) hK) ?_; clear hF T; intro T hF
   refine so_as hF 0 ?_; clear hF T; intro T hF
   refine wpList_nil ?_
   refine then_normal ?_
   refine wp_seq ?_
   refine wp_seq ?_
   conv => arg 2; whnf
   refine wp_region_lit ?_
   refine so_mv hF 0 ?_; clear hF T; intro T hF
   refine so_p hF (.int .i64 ((x.length : Nat))) (fun K hK => wp_len rfl (hF.op 0 rfl) Try.underlying26 hK) ?_; clear hF T; intro T hF
   refine so_as hF 0 ?_; clear hF T; intro T hF
   refine wpList_nil ?_
   refine then_normal ?_
   refine wp_block ?_
   refine wp_seq ?_
   by_cases h75 : x.length ≤ 75
   next =>
    conv => arg 2; whnf
    refine wp_region_lit ?_
    refine so_mv hF 0 ?_; clear hF T; intro T hF
    refine so_p hF (.bool true) (fun K hK => wp_leq_t rfl (hF.op 0 rfl) rfl (by omega) hK) ?_; clear hF T; intro T hF
    refine so_as hF 0 ?_; clear hF T; intro T hF
    refine wpList_nil ?_
    refine then_normal ?_
    refine wp_cond_true (hF.op 0 rfl) ?_
    conv => arg 2; whnf
    refine wp_region_lit ?_
    refine so_mv hF 13 ?_; clear hF T; intro T hF
    refine so_mv hF 4 ?_; clear hF T; intro T hF
    refine so_p hF (.int .u8 ((x.length : Int))) (fun K hK => wp_int rfl (hF.op 0 rfl) Try.underlying3 Try.underlying5 ((x.length : Int)) (by rw [IntKind.wrap_u8]; omega) hK) ?_; clear hF T; intro T hF
    refine so_step hF rfl (wanted_none rfl _) (by decide) rfl (fun v W' => ∃ g, (.slice (some ⟨g, 0, none⟩) 1 1 : Value) = v ∧ w.heap.size ≤ g ∧ Sx w ((g, .cells #[.int .u8 ((x.length : Int))] 5 (0, 0)) :: []) [xps (fun b => b < w.heap.size) (.slice xa x.length xc) x, xown w (.slice za zs.length zc) zs, xpcs (fun b => b < w.heap.size) (.slice (some ⟨lb, lo, none⟩) (pss.length) (lc)) pss] W') (fun K hK => ?_) ?_
    next =>
     have f32 := hF.ev 0 rfl
     go_simp
     exact hK.out _ _ ⟨_, rfl, hS.below.size, hS.alloc _⟩
    clear hS
    clear hF
    clear T
    rintro v T W1 ⟨g33, rfl, hg33, hS⟩ hF
    try clear W
    obtain ⟨W, rfl⟩ : ∃ x, x = W1 := ⟨_, rfl⟩
    refine so_step hF rfl (wanted_none rfl _) (by decide) rfl (fun v W' => ∃ aq cq, .slice aq ((zs ++ [x.length]).length) cq = v ∧ Sx w [(g33, .cells #[.int .u8 ((x.length : Int))] 5 (0, 0))] (List.set [xps (fun b => b < w.heap.size) (.slice xa x.length xc) x, xown w (.slice za zs.length zc) zs, xpcs (fun b => b < w.heap.size) (.slice (some ⟨lb, lo, none⟩) (pss.length) (lc)) pss] 1 (xown w v (zs ++ [x.length]))) W') (fun K hK => ?_) ?_
    next =>
     refine wp_app hS 1 (.tmp 30) (.tmp 33) rfl (hF.op 3 rfl) (hF.op 0 rfl) rfl (src_row (l := [x.length]) (hS.at 0 rfl) rfl rfl) (by first | omega | (simp; omega)) (fun v' W' hS' => ?_)
     obtain ⟨a, c, e⟩ := (hS'.own 1 rfl).shape
     exact hK.out _ _ ⟨a, c, e.symm, hS'⟩
    clear hF hS
    clear T
    rintro v T W1 ⟨a34, c34, rfl, hS⟩ hF
    try clear W
    obtain ⟨W, rfl⟩ : ∃ x, x = W1 := ⟨_, rfl⟩
    replace hS : Sx w [(g33, .cells #[.int .u8 ((x.length : Int))] 5 (0, 0))] [xps (fun b => b < w.heap.size) (.slice xa x.length xc) x, xown w (.slice a34 ((zs ++ [x.length]).length) c34) (zs ++ [x.length]), xpcs (fun b => b < w.heap.size) (.slice (some ⟨lb, lo, none⟩) (pss.length) (lc)) pss] W := hS
    replace hS : Sx w [] [xps (fun b => b < w.heap.size) (.slice xa x.length xc) x, xown w (.slice a34 ((zs ++ [x.length]).length) c34) (zs ++ [x.length]), xpcs (fun b => b < w.heap.size) (.slice (some ⟨lb, lo, none⟩) (pss.length) (lc)) pss] W := hS.pick [] [0, 1, 2] rfl rfl
    replace hF : Fr 48 ⟨T, []⟩ [(34, .slice a34 ((zs ++ [x.length]).length) (c34)), (7, .slice xa (x.length) (xc)), (13, .int .i64 ((k : Int))), (12, .int .i64 ((pss.length : Nat))), (11, .slice (some ⟨lb, lo, none⟩) (pss.length) (lc))] := hF.pick [0, 11, 15, 16, 17]
    refine so_as hF 0 ?_; clear hF T; intro T hF
    refine wpList_nil ?_
    refine block_normal ?_
    refine then_normal ?_
    conv => arg 2; whnf
    refine wp_region_lit ?_
    refine so_mv hF 0 ?_; clear hF T; intro T hF
    refine so_mv hF 3 ?_; clear hF T; intro T hF
    refine so_step hF rfl (wanted_none rfl _) (by decide) rfl (fun v W' => ∃ aq cq, .slice aq (((zs ++ [x.length]) ++ x).length) cq = v ∧ Sx w [] (List.set [xps (fun b => b < w.heap.size) (.slice xa x.length xc) x, xown w (.slice a34 ((zs ++ [x.length]).length) c34) (zs ++ [x.length]), xpcs (fun b => b < w.heap.size) (.slice (some ⟨lb, lo, none⟩) (pss.length) (lc)) pss] 1 (xown w v ((zs ++ [x.length]) ++ x))) W') (fun K hK => ?_) ?_
    next =>
     refine wp_app hS 1 (.tmp 43) (.tmp 44) rfl (hF.op 1 rfl) (hF.op 0 rfl) rfl (PieceV.src (hS.ps 0 rfl)) (by first | omega | (simp; omega)) (fun v' W' hS' => ?_)
     obtain ⟨a, c, e⟩ := (hS'.own 1 rfl).shape
     exact hK.out _ _ ⟨a, c, e.symm, hS'⟩
    clear hF hS
    clear T
    rintro v T W1 ⟨a45, c45, rfl, hS⟩ hF
    try clear W
    obtain ⟨W, rfl⟩ : ∃ x, x = W1 := ⟨_, rfl⟩
    replace hS : Sx w [] [xps (fun b => b < w.heap.size) (.slice xa x.length xc) x, xown w (.slice a45 (((zs ++ [x.length]) ++ x).length) c45) ((zs ++ [x.length]) ++ x), xpcs (fun b => b < w.heap.size) (.slice (some ⟨lb, lo, none⟩) (pss.length) (lc)) pss] W := hS
    replace hF : Fr 48 ⟨T, []⟩ [(45, .slice a45 (((zs ++ [x.length]) ++ x).length) (c45)), (13, .int .i64 ((k : Int))), (12, .int .i64 ((pss.length : Nat))), (11, .slice (some ⟨lb, lo, none⟩) (pss.length) (lc))] := hF.pick [0, 6, 7, 8]
    refine so_as hF 0 ?_; clear hF T; intro T hF
    refine wpList_nil ?_
    refine block_normal ?_
    refine then_normal ?_
    conv => arg 2; whnf
    refine wp_region_lit ?_
    refine so_p hF (.int .i64 ((k + 1 : Nat) : Int)) (fun K hK => wp_add rfl (hF.op 2 rfl) rfl (((k + 1 : Nat) : Int)) (by rw [IntKind.wrap_i64]; omega) hK) ?_; clear hF T; intro T hF
    replace hF : Fr 48 ⟨T, []⟩ [(46, .int .i64 ((k + 1 : Nat) : Int)), (5, .slice a45 (((zs ++ [x.length]) ++ x).length) (c45)), (12, .int .i64 ((pss.length : Nat))), (11, .slice (some ⟨lb, lo, none⟩) (pss.length) (lc))] := hF.pick [0, 1, 4, 5]
    refine so_mv hF 0 ?_; clear hF T; intro T hF
    refine wpList_nil ?_
    refine then_normal ?_
    exact ⟨n - 1, by omega, T, k + 1, _, _, _, rfl, (hF.pick [0, 3, 4, 2]), (hS.pick [] [1, 2] rfl rfl), by omega, by rw [pws_snoc pss k x HX.out, pw1 x h75, HZ.out]; simp⟩
   next =>
    conv => arg 2; whnf
    refine wp_region_lit ?_
    refine so_mv hF 0 ?_; clear hF T; intro T hF
    refine so_p hF (.bool false) (fun K hK => wp_leq_f rfl (hF.op 0 rfl) rfl (by omega) hK) ?_; clear hF T; intro T hF
    refine so_as hF 0 ?_; clear hF T; intro T hF
    refine wpList_nil ?_
    refine then_normal ?_
    refine wp_cond_false (hF.op 0 rfl) ?_
    refine wp_seq ?_
    by_cases h256 : x.length < 256
    next =>
     conv => arg 2; whnf
     refine wp_region_lit ?_
     refine so_mv hF 3 ?_; clear hF T; intro T hF
     refine so_p hF (.bool true) (fun K hK => wp_lss_t rfl (hF.op 0 rfl) rfl (by omega) hK) ?_; clear hF T; intro T hF
     refine so_as hF 0 ?_; clear hF T; intro T hF
     refine wpList_nil ?_
     refine then_normal ?_
     refine wp_cond_true (hF.op 0 rfl) ?_
     conv => arg 2; whnf
     refine wp_region_lit ?_
     refine so_mv hF 16 ?_; clear hF T; intro T hF
     refine so_mv hF 7 ?_; clear hF T; intro T hF
     refine so_p hF (.int .u8 ((x.length : Int))) (fun K hK => wp_int rfl (hF.op 0 rfl) Try.underlying3 Try.underlying5 ((x.length : Int)) (by rw [IntKind.wrap_u8]; omega) hK) ?_; clear hF T; intro T hF
     refine so_step hF rfl (wanted_none rfl _) (by decide) rfl (fun v W' => ∃ g, (.slice (some ⟨g, 0, none⟩) 2 2 : Value) = v ∧ w.heap.size ≤ g ∧ Sx w ((g, .cells #[.int .u8 76, .int .u8 ((x.length : Int))] 5 (0, 0)) :: []) [xps (fun b => b < w.heap.size) (.slice xa x.length xc) x, xown w (.slice za zs.length zc) zs, xpcs (fun b => b < w.heap.size) (.slice (some ⟨lb, lo, none⟩) (pss.length) (lc)) pss] W') (fun K hK => ?_) ?_
     next =>
      have f40 := hF.ev 0 rfl
      go_simp
      exact hK.out _ _ ⟨_, rfl, hS.below.size, hS.alloc _⟩
     clear hS
     clear hF
     clear T
     rintro v T W1 ⟨g41, rfl, hg41, hS⟩ hF
     try clear W
     obtain ⟨W, rfl⟩ : ∃ x, x = W1 := ⟨_, rfl⟩
     refine so_step hF rfl (wanted_none rfl _) (by decide) rfl (fun v W' => ∃ aq cq, .slice aq ((zs ++ [76, x.length]).length) cq = v ∧ Sx w [(g41, .cells #[.int .u8 76, .int .u8 ((x.length : Int))] 5 (0, 0))] (List.set [xps (fun b => b < w.heap.size) (.slice xa x.length xc) x, xown w (.slice za zs.length zc) zs, xpcs (fun b => b < w.heap.size) (.slice (some ⟨lb, lo, none⟩) (pss.length) (lc)) pss] 1 (xown w v (zs ++ [76, x.length]))) W') (fun K hK => ?_) ?_
     next =>
      refine wp_app hS 1 (.tmp 38) (.tmp 41) rfl (hF.op 3 rfl) (hF.op 0 rfl) rfl (src_row (l := [76, x.length]) (hS.at 0 rfl) rfl rfl) (by first | omega | (simp; omega)) (fun v' W' hS' => ?_)
      obtain ⟨a, c, e⟩ := (hS'.own 1 rfl).shape
      exact hK.out _ _ ⟨a, c, e.symm, hS'⟩
     clear hF hS
     clear T
     rintro v T W1 ⟨a42, c42, rfl, hS⟩ hF
     try clear W
     obtain ⟨W, rfl⟩ : ∃ x, x = W1 := ⟨_, rfl⟩
     replace hS : Sx w [(g41, .cells #[.int .u8 76, .int .u8 ((x.length : Int))] 5 (0, 0))] [xps (fun b => b < w.heap.size) (.slice xa x.length xc) x, xown w (.slice a42 ((zs ++ [76, x.length]).length) c42) (zs ++ [76, x.length]), xpcs (fun b => b < w.heap.size) (.slice (some ⟨lb, lo, none⟩) (pss.length) (lc)) pss] W := hS
     replace hS : Sx w [] [xps (fun b => b < w.heap.size) (.slice xa x.length xc) x, xown w (.slice a42 ((zs ++ [76, x.length]).length) c42) (zs ++ [76, x.length]), xpcs (fun b => b < w.heap.size) (.slice (some ⟨lb, lo, none⟩) (pss.length) (lc)) pss] W := hS.pick [] [0, 1, 2] rfl rfl
     replace hF : Fr 48 ⟨T, []⟩ [(42, .slice a42 ((zs ++ [76, x.length]).length) (c42)), (7, .slice xa (x.length) (xc)), (13, .int .i64 ((k : Int))), (12, .int .i64 ((pss.length : Nat))), (11, .slice (some ⟨lb, lo, none⟩) (pss.length) (lc))] := hF.pick [0, 14, 18, 19, 20]
     refine so_as hF 0 ?_; clear hF T; intro T hF
     refine wpList_nil ?_
     refine block_normal ?_
     refine then_normal ?_
     conv => arg 2; whnf
     refine wp_region_lit ?_
     refine so_mv hF 0 ?_; clear hF T; intro T hF
     refine so_mv hF 3 ?_; clear hF T; intro T hF
     refine so_step hF rfl (wanted_none rfl _) (by decide) rfl (fun v W' => ∃ aq cq, .slice aq (((zs ++ [76, x.length]) ++ x).length) cq = v ∧ Sx w [] (List.set [xps (fun b => b < w.heap.size) (.slice xa x.length xc) x, xown w (.slice a42 ((zs ++ [76, x.length]).length) c42) (zs ++ [76, x.length]), xpcs (fun b => b < w.heap.size) (.slice (some ⟨lb, lo, none⟩) (pss.length) (lc)) pss] 1 (xown w v ((zs ++ [76, x.length]) ++ x))) W') (fun K hK => ?_) ?_
     next =>
      refine wp_app hS 1 (.tmp 43) (.tmp 44) rfl (hF.op 1 rfl) (hF.op 0 rfl) rfl (PieceV.src (hS.ps 0 rfl)) (by first | omega | (simp; omega)) (fun v' W' hS' => ?_)
      obtain ⟨a, c, e⟩ := (hS'.own 1 rfl).shape
      exact hK.out _ _ ⟨a, c, e.symm, hS'⟩
     clear hF hS
     clear T
     rintro v T W1 ⟨a45, c45, rfl, hS⟩ hF
     try clear W
     obtain ⟨W, rfl⟩ : ∃ x, x = W1 := ⟨_, rfl⟩
     replace hS : Sx w [] [xps (fun b => b < w.heap.size) (.slice xa x.length xc) x, xown w (.slice a45 (((zs ++ [76, x.length]) ++ x).length) c45) ((zs ++ [76, x.length]) ++ x), xpcs (fun b => b < w.heap.size) (.slice (some ⟨lb, lo, none⟩) (pss.length) (lc)) pss] W := hS
     replace hF : Fr 48 ⟨T, []⟩ [(45, .slice a45 (((zs ++ [76, x.length]) ++ x).length) (c45)), (13, .int .i64 ((k : Int))), (12, .int .i64 ((pss.length : Nat))), (11, .slice (some ⟨lb, lo, none⟩) (pss.length) (lc))] := hF.pick [0, 6, 7, 8]
     refine so_as hF 0 ?_; clear hF T; intro T hF
     refine wpList_nil ?_
     refine block_normal ?_
     refine then_normal ?_
     conv => arg 2; whnf
     refine wp_region_lit ?_
     refine so_p hF (.int .i64 ((k + 1 : Nat) : Int)) (fun K hK => wp_add rfl (hF.op 2 rfl) rfl (((k + 1 : Nat) : Int)) (by rw [IntKind.wrap_i64]; omega) hK) ?_; clear hF T; intro T hF
     replace hF : Fr 48 ⟨T, []⟩ [(46, .int .i64 ((k + 1 : Nat) : Int)), (5, .slice a45 (((zs ++ [76, x.length]) ++ x).length) (c45)), (12, .int .i64 ((pss.length : Nat))), (11, .slice (some ⟨lb, lo, none⟩) (pss.length) (lc))] := hF.pick [0, 1, 4, 5]
     refine so_mv hF 0 ?_; clear hF T; intro T hF
     refine wpList_nil ?_
     refine then_normal ?_
     exact ⟨n - 1, by omega, T, k + 1, _, _, _, rfl, (hF.pick [0, 3, 4, 2]), (hS.pick [] [1, 2] rfl rfl), by omega, by rw [pws_snoc pss k x HX.out, pw2 x h75 h256, HZ.out]; simp⟩
    next =>
     conv => arg 2; whnf
     refine wp_region_lit ?_
     refine so_mv hF 3 ?_; clear hF T; intro T hF
     refine so_p hF (.bool false) (fun K hK => wp_lss_f rfl (hF.op 0 rfl) rfl (by omega) hK) ?_; clear hF T; intro T hF
     refine so_as hF 0 ?_; clear hF T; intro T hF
     refine wpList_nil ?_
     refine then_normal ?_
     refine wp_cond_false (hF.op 0 rfl) ?_
     conv => arg 2; whnf
     refine wp_region_lit ?_
     refine so_mv hF 16 ?_; clear hF T; intro T hF
     refine so_mv hF 7 ?_; clear hF T; intro T hF
     refine so_p hF (.int .u8 (((x.length % 256 : Nat) : Int))) (fun K hK => wp_int rfl (hF.op 0 rfl) Try.underlying3 Try.underlying5 (((x.length % 256 : Nat) : Int)) (by rw [IntKind.wrap_u8]; omega) hK) ?_; clear hF T; intro T hF
     refine so_mv hF 9 ?_; clear hF T; intro T hF
     refine so_p hF (.int .i64 ((x.length / 256 : Nat) : Int)) (fun K hK => wp_shr rfl (hF.op 0 rfl) rfl (by decide) (((x.length / 256 : Nat) : Int)) (by rw [Int.fdiv_eq_ediv_of_nonneg _ (by decide)]; simp [IntKind.bits]) hK) ?_; clear hF T; intro T hF
     refine so_p hF (.int .u8 (((x.length / 256 % 256 : Nat) : Int))) (fun K hK => wp_int rfl (hF.op 0 rfl) Try.underlying3 Try.underlying5 (((x.length / 256 % 256 : Nat) : Int)) (by rw [IntKind.wrap_u8]; omega) hK) ?_; clear hF T; intro T hF
     refine so_step hF rfl (wanted_none rfl _) (by decide) rfl (fun v W' => ∃ g, (.slice (some ⟨g, 0, none⟩) 3 3 : Value) = v ∧ w.heap.size ≤ g ∧ Sx w ((g, .cells #[.int .u8 77, .int .u8 (((x.length % 256 : Nat) : Int)), .int .u8 (((x.length / 256 % 256 : Nat) : Int))] 5 (0, 0)) :: []) [xps (fun b => b < w.heap.size) (.slice xa x.length xc) x, xown w (.slice za zs.length zc) zs, xpcs (fun b => b < w.heap.size) (.slice (some ⟨lb, lo, none⟩) (pss.length) (lc)) pss] W') (fun K hK => ?_) ?_
     next =>
      have f21 := hF.ev 3 rfl
      have f24 := hF.ev 0 rfl
      go_simp
      exact hK.out _ _ ⟨_, rfl, hS.below.size, hS.alloc _⟩
     clear hS
     clear hF
     clear T
     rintro v T W1 ⟨g25, rfl, hg25, hS⟩ hF
     try clear W
     obtain ⟨W, rfl⟩ : ∃ x, x = W1 := ⟨_, rfl⟩
     refine so_step hF rfl (wanted_none rfl _) (by decide) rfl (fun v W' => ∃ aq cq, .slice aq ((zs ++ [77, x.length % 256, x.length / 256 % 256]).length) cq = v ∧ Sx w [(g25, .cells #[.int .u8 77, .int .u8 (((x.length % 256 : Nat) : Int)), .int .u8 (((x.length / 256 % 256 : Nat) : Int))] 5 (0, 0))] (List.set [xps (fun b => b < w.heap.size) (.slice xa x.length xc) x, xown w (.slice za zs.length zc) zs, xpcs (fun b => b < w.heap.size) (.slice (some ⟨lb, lo, none⟩) (pss.length) (lc)) pss] 1 (xown w v (zs ++ [77, x.length % 256, x.length / 256 % 256]))) W') (fun K hK => ?_) ?_
     next =>
      refine wp_app hS 1 (.tmp 19) (.tmp 25) rfl (hF.op 6 rfl) (hF.op 0 rfl) rfl (src_row (l := [77, x.length % 256, x.length / 256 % 256]) (hS.at 0 rfl) rfl rfl) (by first | omega | (simp; omega)) (fun v' W' hS' => ?_)
      obtain ⟨a, c, e⟩ := (hS'.own 1 rfl).shape
      exact hK.out _ _ ⟨a, c, e.symm, hS'⟩
     clear hF hS
     clear T
     rintro v T W1 ⟨a26, c26, rfl, hS⟩ hF
     try clear W
     obtain ⟨W, rfl⟩ : ∃ x, x = W1 := ⟨_, rfl⟩
     replace hS : Sx w [(g25, .cells #[.int .u8 77, .int .u8 (((x.length % 256 : Nat) : Int)), .int .u8 (((x.length / 256 % 256 : Nat) : Int))] 5 (0, 0))] [xps (fun b => b < w.heap.size) (.slice xa x.length xc) x, xown w (.slice a26 ((zs ++ [77, x.length % 256, x.length / 256 % 256]).length) c26) (zs ++ [77, x.length % 256, x.length / 256 % 256]), xpcs (fun b => b < w.heap.size) (.slice (some ⟨lb, lo, none⟩) (pss.length) (lc)) pss] W := hS
     replace hS : Sx w [] [xps (fun b => b < w.heap.size) (.slice xa x.length xc) x, xown w (.slice a26 ((zs ++ [77, x.length % 256, x.length / 256 % 256]).length) c26) (zs ++ [77, x.length % 256, x.length / 256 % 256]), xpcs (fun b => b < w.heap.size) (.slice (some ⟨lb, lo, none⟩) (pss.length) (lc)) pss] W := hS.pick [] [0, 1, 2] rfl rfl
     replace hF : Fr 48 ⟨T, []⟩ [(26, .slice a26 ((zs ++ [77, x.length % 256, x.length / 256 % 256]).length) (c26)), (7, .slice xa (x.length) (xc)), (13, .int .i64 ((k : Int))), (12, .int .i64 ((pss.length : Nat))), (11, .slice (some ⟨lb, lo, none⟩) (pss.length) (lc))] := hF.pick [0, 17, 21, 22, 23]
     refine so_as hF 0 ?_; clear hF T; intro T hF
     refine wpList_nil ?_
     refine block_normal ?_
     refine then_normal ?_
     conv => arg 2; whnf
     refine wp_region_lit ?_
     refine so_mv hF 0 ?_; clear hF T; intro T hF
     refine so_mv hF 3 ?_; clear hF T; intro T hF
     refine so_step hF rfl (wanted_none rfl _) (by decide) rfl (fun v W' => ∃ aq cq, .slice aq (((zs ++ [77, x.length % 256, x.length / 256 % 256]) ++ x).length) cq = v ∧ Sx w [] (List.set [xps (fun b => b < w.heap.size) (.slice xa x.length xc) x, xown w (.slice a26 ((zs ++ [77, x.length % 256, x.length / 256 % 256]).length) c26) (zs ++ [77, x.length % 256, x.length / 256 % 256]), xpcs (fun b => b < w.heap.size) (.slice (some ⟨lb, lo, none⟩) (pss.length) (lc)) pss] 1 (xown w v ((zs ++ [77, x.length % 256, x.length / 256 % 256]) ++ x))) W') (fun K hK => ?_) ?_
     next =>
      refine wp_app hS 1 (.tmp 43) (.tmp 44) rfl (hF.op 1 rfl) (hF.op 0 rfl) rfl (PieceV.src (hS.ps 0 rfl)) (by first | omega | (simp; omega)) (fun v' W' hS' => ?_)
      obtain ⟨a, c, e⟩ := (hS'.own 1 rfl).shape
      exact hK.out _ _ ⟨a, c, e.symm, hS'⟩
     clear hF hS
     clear T
     rintro v T W1 ⟨a45, c45, rfl, hS⟩ hF
     try clear W
     obtain ⟨W, rfl⟩ : ∃ x, x = W1 := ⟨_, rfl⟩
     replace hS : Sx w [] [xps (fun b => b < w.heap.size) (.slice xa x.length xc) x, xown w (.slice a45 (((zs ++ [77, x.length % 256, x.length / 256 % 256]) ++ x).length) c45) ((zs ++ [77, x.length % 256, x.length / 256 % 256]) ++ x), xpcs (fun b => b < w.heap.size) (.slice (some ⟨lb, lo, none⟩) (pss.length) (lc)) pss] W := hS
     replace hF : Fr 48 ⟨T, []⟩ [(45, .slice a45 (((zs ++ [77, x.length % 256, x.length / 256 % 256]) ++ x).length) (c45)), (13, .int .i64 ((k : Int))), (12, .int .i64 ((pss.length : Nat))), (11, .slice (some ⟨lb, lo, none⟩) (pss.length) (lc))] := hF.pick [0, 6, 7, 8]
     refine so_as hF 0 ?_; clear hF T; intro T hF
     refine wpList_nil ?_
     refine block_normal ?_
     refine then_normal ?_
     conv => arg 2; whnf
     refine wp_region_lit ?_
     refine so_p hF (.int .i64 ((k + 1 : Nat) : Int)) (fun K hK => wp_add rfl (hF.op 2 rfl) rfl (((k + 1 : Nat) : Int)) (by rw [IntKind.wrap_i64]; omega) hK) ?_; clear hF T; intro T hF
     replace hF : Fr 48 ⟨T, []⟩ [(46, .int .i64 ((k + 1 : Nat) : Int)), (5, .slice a45 (((zs ++ [77, x.length % 256, x.length / 256 % 256]) ++ x).length) (c45)), (12, .int .i64 ((pss.length : Nat))), (11, .slice (some ⟨lb, lo, none⟩) (pss.length) (lc))] := hF.pick [0, 1, 4, 5]
     refine so_mv hF 0 ?_; clear hF T; intro T hF
     refine wpList_nil ?_
     refine then_normal ?_
     exact ⟨n - 1, by omega, T, k + 1, _, _, _, rfl, (hF.pick [0, 3, 4, 2]), (hS.pick [] [1, 2] rfl rfl), by omega, by rw [pws_snoc pss k x HX.out, pw3 x h75 h256, HZ.out]; simp⟩
  next =>
   obtain rfl : k = pss.length := by omega
   conv => arg 2; whnf
   refine wp_region_lit ?_
   refine so_p hF (.bool false) (fun K hK => wp_lss_f rfl (hF.op 0 rfl) (hF.op 1 rfl) (by omega) hK) ?_; clear hF T; intro T hF
   refine wpList_nil ?_
   refine then_normal ?_
   refine wp_seq ?_
   refine wp_cond_false (hF.op 0 rfl) ?_
   refine wp_exit ?_
   refine then_exit ?_
   refine then_exit ?_
   refine block_exit ?_
   refine then_normal ?_
   refine wp_seq ?_
   conv => arg 2; whnf
   refine wp_region_lit ?_
   refine so_mv hF 4 ?_; clear hF T; intro T hF
   refine so_as hF 0 ?_; clear hF T; intro T hF
   refine wpList_nil ?_
   refine then_normal ?_
   refine wp_ret ?_
   refine bodyPost_ret (v := .slice za (zs.length) (zc)) (results_t1 Try.results21 (hF.ev 0 rfl)) rfl ?_
   have hz2 : zs = bs ++ pws pss := by rw [HZ.out, List.take_length]
   subst hz2
   exact ⟨_, rfl, hS.padr 0 rfl⟩
end Go.Proofs.Ytljcaegcbcikiaa
namespace Go.Proofs.Ytljcaegcbcikiaa
open Go.RowKit
theorem nth_ext2 {xs bs : List Nat} (hl : xs.length = bs.length) (h : ∀ j, j < xs.length → nth xs j = nth bs j) : xs = bs := by
  apply List.ext_getElem hl
  intro i h1 h2
  have := h i h1
  unfold nth at this
  simpa [List.getD_eq_getElem?_getD, h1, h2] using this
set_option maxRecDepth 100000 in
set_option maxHeartbeats 4000000 in
theorem grow_c (n : Nat) (hn : n ≤ 1000000000) (w : World) :
    Calls Try.prog 20 #[.slice none 0 0, .int .i64 (n : Int)] w fun e w' => ∃ v', e = .returned v' ∧ PadR w v' [] w' := by
  have S0 := Sx.nil w
  have sk : Try.f20.body = some (.seq (rgn Try.f20 0) (.seq (.seq (rgn Try.f20 1) (.cond (.tmp 6) (rgn Try.f20 2) .skip)) (.seq (.seq (rgn Try.f20 3) (.seq (rgn Try.f20 4) (.cond (.tmp 16) (rgn Try.f20 5) .skip))) (.seq (rgn Try.f20 6) .ret)))) := by kernel_rfl
  refine enter 27 [(0, .slice none 0 0), (1, .int .i64 ((n : Int)))] Try.func20 sk (by rfl) rfl S0 (fun T W hF hS => ?_)
  clear sk S0
  refine wp_seq ?_
  conv => arg 2; whnf
  refine wp_region_lit ?_
  refine so_p hF (.slice none 0 0) (fun K hK => wp_assign rfl rfl hK) ?_; clear hF T; intro T hF
  refine wpList_nil ?_
  refine then_normal ?_
  refine wp_seq ?_
  refine wp_seq ?_
  conv => arg 2; whnf
  refine wp_region_lit ?_
  refine so_mv hF 2 ?_; clear hF T; intro T hF
  refine so_p hF (.bool false) (fun K hK => wp_lss_f rfl (hF.op 0 rfl) rfl (by omega) hK) ?_; clear hF T; intro T hF
  refine wpList_nil ?_
  refine then_normal ?_
  refine wp_cond_false (hF.op 0 rfl) ?_
  refine wp_skip ?_
  refine then_normal ?_
  refine wp_seq ?_
  refine wp_seq ?_
  conv => arg 2; whnf
  refine wp_region_lit ?_
  refine so_mv hF 4 ?_; clear hF T; intro T hF
  refine so_mv hF 4 ?_; clear hF T; intro T hF
  refine so_pure hF rfl (wanted_none rfl _) (by decide) rfl (.int .i64 0) (fun K hK => ?_) ?_
  next =>
   have f9 := hF.ev 0 rfl
   go_simp
   exact hK.out
  clear hF
  clear T
  intro T hF
  refine so_mv hF 6 ?_; clear hF T; intro T hF
  refine so_p hF (.int .i64 0) (fun K hK => wp_len rfl (hF.op 0 rfl) Try.underlying26 hK) ?_; clear hF T; intro T hF
  refine so_p hF (.int .i64 0) (fun K hK => wp_sub rfl (hF.op 2 rfl) (hF.op 0 rfl) (0) (rfl) hK) ?_; clear hF T; intro T hF
  refine so_p hF (.int .i64 (n : Int)) (fun K hK => wp_sub rfl (hF.op 5 rfl) (hF.op 0 rfl) ((n : Int)) (by rw [IntKind.wrap_i64]; omega) hK) ?_; clear hF T; intro T hF
  replace hF : Fr 27 ⟨T, []⟩ [(14, .int .i64 (n : Int)), (0, .slice none 0 0)] := hF.pick [0, 10]
  refine so_as hF 0 ?_; clear hF T; intro T hF
  refine wpList_nil ?_
  refine then_normal ?_
  refine wp_seq ?_
  by_cases h : 0 < n
  next =>
   conv => arg 2; whnf
   refine wp_region_lit ?_
   refine so_mv hF 0 ?_; clear hF T; intro T hF
   refine so_p hF (.bool true) (fun K hK => wp_gtr_t rfl (hF.op 0 rfl) rfl (by omega) hK) ?_; clear hF T; intro T hF
   refine wpList_nil ?_
   refine then_normal ?_
   refine wp_cond_true (hF.op 0 rfl) ?_
   conv => arg 2; whnf
   refine wp_region_lit ?_
   refine so_mv hF 4 ?_; clear hF T; intro T hF
   refine so_mv hF 5 ?_; clear hF T; intro T hF
   refine so_pure hF rfl (wanted_none rfl _) (by decide) rfl (.int .i64 0) (fun K hK => ?_) ?_
   next =>
    have f18 := hF.ev 0 rfl
    go_simp
    exact hK.out
   clear hF
   clear T
   intro T hF
   refine so_pure hF rfl (wanted_none rfl _) (by decide) rfl (.slice none 0 0) (fun K hK => ?_) ?_
   next =>
    have f17 := hF.ev 2 rfl
    have f19 := hF.ev 0 rfl
    go_simp
    exact hK.out
   clear hF
   clear T
   intro T hF
   refine so_mv hF 6 ?_; clear hF T; intro T hF
   refine so_step hF rfl (wanted_none rfl _) (by decide) rfl (fun v W' => ∃ g c, .slice (some ⟨g, 0, none⟩) n c = v ∧ n ≤ c ∧ w.heap.size ≤ g ∧ ∃ cs, c ≤ cs.size ∧ Sx w [(g, .cells cs 5 (0, 0))] [] W') (fun K hK => ?_) ?_
   next =>
    obtain ⟨i, hi, hz, h1, h2⟩ := info_parts u8_row
    have hr := fun ty => Lib.run_append_nil_zeros (P := Try.prog) W 26 3 ty 5 i (.int .u8 0) .i64 .i64 Try.underlying26 Try.underlying3 hi hz n h (by rw [h1]; decide) (by omega) (by rw [h2]; omega)
    have hge := grownCap_ge W n 0 5
    refine Lib.wp_append_run W (.tmp 20) (.tmp 21) _ _ rfl _ _ (hF.op 1 rfl) (hF.op 0 rfl) _ _ (hr _) ?_
    refine hK.out _ _ ⟨_, _, rfl, hge, hS.below.size, _, ?_, hS.drew.alloc _⟩
    simp only [Array.size_append, size_zeroCells]; simp [Value.cells]; omega
   clear hS
   clear hF
   clear T
   rintro v T W1 ⟨g22, c22, rfl, hc22, hg22, cs22, hcs22, hS⟩ hF
   try clear W
   obtain ⟨W, rfl⟩ : ∃ x, x = W1 := ⟨_, rfl⟩
   refine so_mv hF 10 ?_; clear hF T; intro T hF
   refine so_p hF (.int .i64 0) (fun K hK => wp_len rfl (hF.op 0 rfl) Try.underlying26 hK) ?_; clear hF T; intro T hF
   refine so_pure hF rfl (wanted_none rfl _) (by decide) rfl (.slice (some ⟨g22, 0, none⟩) (0) (c22)) (fun K hK => ?_) ?_
   next =>
    have f22 := hF.ev 2 rfl
    have f24 := hF.ev 0 rfl
    have hcI : (0 : Int) ≤ (c22 : Int) := Int.natCast_nonneg _
    go_simp
    exact hK.out
   clear hF
   clear T
   intro T hF
   replace hF : Fr 27 ⟨T, []⟩ [(25, .slice (some ⟨g22, 0, none⟩) (0) (c22))] := hF.pick [0]
   refine so_as hF 0 ?_; clear hF T; intro T hF
   refine wpList_nil ?_
   refine then_normal ?_
   refine wp_seq ?_
   conv => arg 2; whnf
   refine wp_region_lit ?_
   refine so_mv hF 0 ?_; clear hF T; intro T hF
   refine so_as hF 0 ?_; clear hF T; intro T hF
   refine wpList_nil ?_
   refine then_normal ?_
   refine wp_ret ?_
   refine bodyPost_ret (v := .slice (some ⟨g22, 0, none⟩) (0) (c22)) (results_t1 Try.results20 (hF.ev 0 rfl)) rfl ?_
   refine ⟨_, rfl, hS.below, Or.inr ⟨g22, 0, c22, cs22, rfl, hS.at 0 rfl, Nat.zero_le _, by omega, fun i hi => absurd hi (Nat.not_lt_zero i)⟩, fun b hb => ?_⟩
   simp [Value.ownBlock] at hb; omega
  next =>
   conv => arg 2; whnf
   refine wp_region_lit ?_
   refine so_mv hF 0 ?_; clear hF T; intro T hF
   refine so_p hF (.bool false) (fun K hK => wp_gtr_f rfl (hF.op 0 rfl) rfl (by omega) hK) ?_; clear hF T; intro T hF
   refine wpList_nil ?_
   refine then_normal ?_
   refine wp_cond_false (hF.op 0 rfl) ?_
   refine wp_skip ?_
   refine then_normal ?_
   refine wp_seq ?_
   conv => arg 2; whnf
   refine wp_region_lit ?_
   refine so_mv hF 4 ?_; clear hF T; intro T hF
   refine so_as hF 0 ?_; clear hF T; intro T hF
   refine wpList_nil ?_
   refine then_normal ?_
   refine wp_ret ?_
   refine bodyPost_ret (v := .slice none 0 0) (results_t1 Try.results20 (hF.ev 0 rfl)) rfl ?_
   exact ⟨_, rfl, hS.below, Or.inl ⟨rfl, rfl⟩, fun b hb => by cases hb⟩
theorem flat_snoc (l : List (List Nat)) (k : Nat) (x : List Nat) (h : l[k]? = some x) : (l.take (k + 1)).flatten = (l.take k).flatten ++ x := by
  rw [List.take_add_one, h]; simp
theorem flat_take (l : List (List Nat)) (k : Nat) : (l.take k).flatten.length ≤ l.flatten.length := by
  have e : l.flatten = (l.take k).flatten ++ (l.drop k).flatten := by rw [← List.flatten_append, List.take_append_drop]
  rw [e, List.length_append]; omega
theorem Sx.ofpcs1 {w : World} {lv : Value} {pss : List (List Nat)} (h2 : Pcs w w.heap.size lv pss) : Sx w [] [xpcs (fun b => b < w.heap.size) lv pss] w :=
  (Sx.nil w).addX (xpcs (fun b => b < w.heap.size) lv pss) h2 (fun _ h => by cases h) (fun _ h => h) (fun _ h => by cases h)
set_option maxRecDepth 100000 in
set_option maxHeartbeats 4000000 in
theorem concat_c (lv : Value) (pss : List (List Nat)) (w : World) (hl : Pcs w w.heap.size lv pss) (hlen : pss.flatten.length ≤ 1000000000) (hpl : pss.length ≤ 1000000000) :
    Calls Try.prog 10 #[lv] w fun e w' => ∃ v', e = .returned v' ∧ PadR w v' pss.flatten w' := by
  obtain ⟨la, lc, rfl⟩ := hl.shape0
  have S0 := Sx.ofpcs1 hl
  clear hl
  have sk : Try.f10.body = some (.seq (rgn Try.f10 0) (.seq (rgn Try.f10 1) (.seq (.seq (rgn Try.f10 2) (.block 0 (.loop (.seq (rgn Try.f10 3) (.seq (.cond (.tmp 12) .skip (.exit 0)) (.seq (.block 1 (.seq (rgn Try.f10 4) (.seq (rgn Try.f10 5) (.seq (rgn Try.f10 6) (.cond (.tmp 20) (rgn Try.f10 7) .skip))))) (rgn Try.f10 8))))))) (.seq (rgn Try.f10 9) (.seq (.seq (rgn Try.f10 10) (.block 2 (.loop (.seq (rgn Try.f10 11) (.seq (.cond (.tmp 28) .skip (.exit 2)) (.seq (.block 3 (.seq (rgn Try.f10 12) (rgn Try.f10 13))) (rgn Try.f10 14))))))) (.seq (rgn Try.f10 15) .ret)))))) := by kernel_rfl
  refine enter 36 [(0, .slice la (pss.length) (lc))] Try.func10 sk (by rfl) rfl S0 (fun T W hF hS => ?_)
  clear sk S0
  refine wp_seq ?_
  conv => arg 2; whnf
  refine wp_region_lit ?_
  refine so_p hF (.slice none 0 0) (fun K hK => wp_assign rfl rfl hK) ?_; clear hF T; intro T hF
  refine wpList_nil ?_
  refine then_normal ?_
  refine wp_seq ?_
  conv => arg 2; whnf
  refine wp_region_lit ?_
  refine so_p hF (.int .i64 0) (fun K hK => wp_assign rfl rfl hK) ?_; clear hF T; intro T hF
  refine wpList_nil ?_
  refine then_normal ?_
  refine wp_seq ?_
  refine wp_seq ?_
  conv => arg 2; whnf
  refine wp_region_lit ?_
  refine so_mv hF 2 ?_; clear hF T; intro T hF
  refine so_p hF (.int .i64 ((pss.length : Nat))) (fun K hK => wp_len rfl (hF.op 0 rfl) Try.underlying42 hK) ?_; clear hF T; intro T hF
  refine so_p hF (.int .i64 0) (fun K hK => wp_move rfl rfl hK) ?_; clear hF T; intro T hF
  refine wpList_nil ?_
  refine then_normal ?_
  refine wp_block ?_
  refine wp_loop_ghost (fun n a W => ∃ T : Array Value, ∃ k : Nat, ∃ m : Nat, a = ⟨T, []⟩ ∧ Fr 36 ⟨T, []⟩ [(11, .int .i64 ((k : Int))), (10, .int .i64 ((pss.length : Nat))), (9, .slice la (pss.length) (lc)), (3, .int .i64 ((m : Int))), (0, .slice la (pss.length) (lc))] ∧ Sx w [] [xpcs (fun b => b < w.heap.size) (.slice la (pss.length) (lc)) pss] W ∧ (k + n = pss.length) ∧ (m = (pss.take k).flatten.length)) (pss.length) ⟨T, 0, 0, rfl, (hF.pick [0, 1, 2, 3, 5]), hS, Nat.zero_add _, by simp⟩ ?_
  clear hF hS
  try clear T
  try clear W
  rintro n a W ⟨T, k, m, rfl, hF, hS, hk, hm⟩
  have HM := Lib.hid hm
  have hml := flat_take pss k
  rw [← hm] at hml
  clear hm
  have hkl : (k : Int) ≤ pss.length := by omega
  refine wp_seq ?_
  by_cases h : k < pss.length
  next =>
   obtain ⟨x, hx⟩ : ∃ x, pss[k]? = some x := ⟨_, List.getElem?_eq_getElem h⟩
   have HX := Lib.hid hx
   have hfl := flat_take pss (k + 1)
   rw [flat_snoc pss k x hx, List.length_append] at hfl
   rw [← HM.out] at hfl
   clear hx
   conv => arg 2; whnf
   refine wp_region_lit ?_
   refine so_p hF (.bool true) (fun K hK => wp_lss_t rfl (hF.op 0 rfl) (hF.op 1 rfl) (by omega) hK) ?_; clear hF T; intro T hF
   refine wpList_nil ?_
   refine then_normal ?_
   refine wp_seq ?_
   refine wp_cond_true (hF.op 0 rfl) ?_
   refine wp_skip ?_
   refine then_normal ?_
   refine wp_seq ?_
   refine wp_block ?_
   refine wp_seq ?_
   obtain ⟨lb, lo, xa, xc, rfl, hcell, hS1⟩ := pcs_cell hS 0 rfl k x HX.out
   have hS := hS1
   clear hS1
   conv => arg 2; whnf
   refine wp_region_lit ?_
   refine so_p hF (.pointer (some ⟨lb, lo + k, none⟩)) (fun K hK => wp_ixs rfl (hF.op 3 rfl) (hF.op 1 rfl) Try.underlying42 Try.sizeOf26 (by omega) (by omega) (lo + k) (by omega) hK) ?_; clear hF T; intro T hF
   refine so_p hF (.slice xa (x.length) (xc)) (fun K hK => wp_ld rfl (hF.op 0 rfl) Try.underlying26 rfl (hcell) hK) ?_; clear hF T; intro T hF
   refine so_as hF 0 ?_; clear hF T; intro T hF
   refine wpList_nil ?_
   refine then_normal ?_
   refine wp_seq ?_
   conv => arg 2; whnf
   refine wp_region_lit ?_
   refine so_mv hF 7 ?_; clear hF T; intro T hF
   refine so_mv hF 1 ?_; clear hF T; intro T hF
   refine so_p hF (.int .i64 ((x.length : Nat))) (fun K hK => wp_len rfl (hF.op 0 rfl) Try.underlying26 hK) ?_; clear hF T; intro T hF
   refine so_p hF (.int .i64 ((m + x.length : Nat) : Int)) (fun K hK => wp_add rfl (hF.op 2 rfl) (hF.op 0 rfl) (((m + x.length : Nat) : Int)) (by rw [IntKind.wrap_i64]; omega) hK) ?_; clear hF T; intro T hF
   replace hF : Fr 36 ⟨T, []⟩ [(18, .int .i64 ((m + x.length : Nat) : Int)), (11, .int .i64 ((k : Int))), (10, .int .i64 ((pss.length : Nat))), (9, .slice (some ⟨lb, lo, none⟩) (pss.length) (lc)), (0, .slice (some ⟨lb, lo, none⟩) (pss.length) (lc))] := hF.pick [0, 8, 9, 10, 12]
   refine so_as hF 0 ?_; clear hF T; intro T hF
   refine wpList_nil ?_
   refine then_normal ?_
   refine wp_seq ?_
   conv => arg 2; whnf
   refine wp_region_lit ?_
   refine so_mv hF 0 ?_; clear hF T; intro T hF
   refine so_p hF (.bool false) (fun K hK => wp_lss_f rfl (hF.op 0 rfl) rfl (by omega) hK) ?_; clear hF T; intro T hF
   refine wpList_nil ?_
   refine then_normal ?_
   refine wp_cond_false (hF.op 0 rfl) ?_
   refine wp_skip ?_
   refine block_normal ?_
   refine then_normal ?_
   conv => arg 2; whnf
   refine wp_region_lit ?_
   refine so_p hF (.int .i64 ((k + 1 : Nat) : Int)) (fun K hK => wp_add rfl (hF.op 4 rfl) rfl (((k + 1 : Nat) : Int)) (by rw [IntKind.wrap_i64]; omega) hK) ?_; clear hF T; intro T hF
   replace hF : Fr 36 ⟨T, []⟩ [(22, .int .i64 ((k + 1 : Nat) : Int)), (3, .int .i64 ((m + x.length : Nat) : Int)), (10, .int .i64 ((pss.length : Nat))), (9, .slice (some ⟨lb, lo, none⟩) (pss.length) (lc)), (0, .slice (some ⟨lb, lo, none⟩) (pss.length) (lc))] := hF.pick [0, 3, 6, 7, 8]
   refine so_mv hF 0 ?_; clear hF T; intro T hF
   refine wpList_nil ?_
   refine then_normal ?_
   exact ⟨n - 1, by omega, T, k + 1, m + x.length, rfl, (hF.pick [0, 3, 4, 2, 5]), (hS.pick [] [1] rfl rfl), by omega, by rw [flat_snoc pss k x HX.out, List.length_append, HM.out]⟩
  next =>
   obtain rfl : k = pss.length := by omega
   rw [List.take_length] at HM
   conv => arg 2; whnf
   refine wp_region_lit ?_
   refine so_p hF (.bool false) (fun K hK => wp_lss_f rfl (hF.op 0 rfl) (hF.op 1 rfl) (by omega) hK) ?_; clear hF T; intro T hF
   refine wpList_nil ?_
   refine then_normal ?_
   refine wp_seq ?_
   refine wp_cond_false (hF.op 0 rfl) ?_
   refine wp_exit ?_
   refine then_exit ?_
   refine then_exit ?_
   refine block_exit ?_
   refine then_normal ?_
   refine wp_seq ?_
   conv => arg 2; whnf
   refine wp_region_lit ?_
   refine so_mv hF 4 ?_; clear hF T; intro T hF
   refine so_step hF rfl (wanted_none rfl _) (by decide) rfl (fun v W' => ∃ aq cq, .slice aq (0) cq = v ∧ Sx w [] [xown w (.slice aq (0) cq) ([]), xpcs (fun b => b < w.heap.size) (.slice la (pss.length) (lc)) pss] W') (fun K hK => ?_) ?_
   next =>
    refine wp_call rfl Try.func20 (by kernel_rfl) (ev2 rfl (hF.op 0 rfl)) ?_
    refine (grow_c m (by omega) _).mono ?_
    rintro e W2 ⟨v', rfl, hp⟩
    obtain ⟨aq, cq, rfl⟩ := hp.rest.shape
    exact ⟨_, rfl, hK.out _ _ ⟨_, _, rfl, hS.gave hp⟩⟩
   clear hF hS
   clear T
   rintro v T W1 ⟨a24, c24, rfl, hS⟩ hF
   try clear W
   obtain ⟨W, rfl⟩ : ∃ x, x = W1 := ⟨_, rfl⟩
   refine so_as hF 0 ?_; clear hF T; intro T hF
   refine wpList_nil ?_
   refine then_normal ?_
   refine wp_seq ?_
   refine wp_seq ?_
   conv => arg 2; whnf
   refine wp_region_lit ?_
   refine so_mv hF 8 ?_; clear hF T; intro T hF
   refine so_p hF (.int .i64 ((pss.length : Nat))) (fun K hK => wp_len rfl (hF.op 0 rfl) Try.underlying42 hK) ?_; clear hF T; intro T hF
   refine so_p hF (.int .i64 0) (fun K hK => wp_move rfl rfl hK) ?_; clear hF T; intro T hF
   refine wpList_nil ?_
   refine then_normal ?_
   refine wp_block ?_
   refine wp_loop_ghost (fun n a W => ∃ T : Array Value, ∃ k : Nat, ∃ zs : List Nat, ∃ za : Option Addr, ∃ zc : Nat, a = ⟨T, []⟩ ∧ Fr 36 ⟨T, []⟩ [(27, .int .i64 ((k : Int))), (26, .int .i64 ((pss.length : Nat))), (25, .slice la (pss.length) (lc)), (6, .slice za (zs.length) (zc))] ∧ Sx w [] [xown w (.slice za zs.length zc) zs, xpcs (fun b => b < w.heap.size) (.slice la (pss.length) (lc)) pss] W ∧ (k + n = pss.length) ∧ (zs = (pss.take k).flatten)) (pss.length) ⟨T, 0, [], _, _, rfl, (hF.pick [0, 1, 2, 3]), hS, Nat.zero_add _, by simp⟩ ?_
   clear hF hS
   try clear T
   try clear W
   rintro n a W ⟨T, k, zs, za, zc, rfl, hF, hS, hk, hz⟩
   have HZ := Lib.hid hz
   have hml := flat_take pss k
   rw [← hz] at hml
   clear hz
   have hkl : (k : Int) ≤ pss.length := by omega
   refine wp_seq ?_
   by_cases h : k < pss.length
   next =>
    obtain ⟨x, hx⟩ : ∃ x, pss[k]? = some x := ⟨_, List.getElem?_eq_getElem h⟩
    have HX := Lib.hid hx
    have hfl := flat_take pss (k + 1)
    rw [flat_snoc pss k x hx, List.length_append] at hfl
    rw [← HZ.out] at hfl
    clear hx
    conv => arg 2; whnf
    refine wp_region_lit ?_
    refine so_p hF (.bool true) (fun K hK => wp_lss_t rfl (hF.op 0 rfl) (hF.op 1 rfl) (by omega) hK) ?_; clear hF T; intro T hF
    refine wpList_nil ?_
    refine then_normal ?_
    refine wp_seq ?_
    refine wp_cond_true (hF.op 0 rfl) ?_
    refine wp_skip ?_
    refine then_normal ?_
    refine wp_seq ?_
    refine wp_block ?_
    refine wp_seq ?_
    obtain ⟨lb, lo, xa, xc, rfl, hcell, hS1⟩ := pcs_cell hS 1 rfl k x HX.out
    have hS := hS1
    clear hS1
    conv => arg 2; whnf
    refine wp_region_lit ?_
    refine so_p hF (.pointer (some ⟨lb, lo + k, none⟩)) (fun K hK => wp_ixs rfl (hF.op 3 rfl) (hF.op 1 rfl) Try.underlying42 Try.sizeOf26 (by omega) (by omega) (lo + k) (by omega) hK) ?_; clear hF T; intro T hF
    refine so_p hF (.slice xa (x.length) (xc)) (fun K hK => wp_ld rfl (hF.op 0 rfl) Try.underlying26 rfl (hcell) hK) ?_; clear hF T; intro T hF
    refine so_as hF 0 ?_; clear hF T; intro T hF
    refine wpList_nil ?_
    refine then_normal ?_
    conv => arg 2; whnf
    refine wp_region_lit ?_
    refine so_mv hF 7 ?_; clear hF T; intro T hF
    refine so_mv hF 1 ?_; clear hF T; intro T hF
    refine so_step hF rfl (wanted_none rfl _) (by decide) rfl (fun v W' => ∃ aq cq, .slice aq ((zs ++ x).length) cq = v ∧ Sx w [] (List.set [xps (fun b => b < w.heap.size) (.slice xa x.length xc) x, xown w (.slice za zs.length zc) zs, xpcs (fun b => b < w.heap.size) (.slice (some ⟨lb, lo, none⟩) (pss.length) (lc)) pss] 1 (xown w v (zs ++ x))) W') (fun K hK => ?_) ?_
    next =>
     refine wp_app hS 1 (.tmp 31) (.tmp 32) rfl (hF.op 1 rfl) (hF.op 0 rfl) rfl (PieceV.src (hS.ps 0 rfl)) (by first | omega | (simp; omega)) (fun v' W' hS' => ?_)
     obtain ⟨a, c, e⟩ := (hS'.own 1 rfl).shape
     exact hK.out _ _ ⟨a, c, e.symm, hS'⟩
    clear hF hS
    clear T
    rintro v T W1 ⟨a33, c33, rfl, hS⟩ hF
    try clear W
    obtain ⟨W, rfl⟩ : ∃ x, x = W1 := ⟨_, rfl⟩
    replace hS : Sx w [] [xps (fun b => b < w.heap.size) (.slice xa x.length xc) x, xown w (.slice a33 ((zs ++ x).length) c33) (zs ++ x), xpcs (fun b => b < w.heap.size) (.slice (some ⟨lb, lo, none⟩) (pss.length) (lc)) pss] W := hS
    replace hF : Fr 36 ⟨T, []⟩ [(33, .slice a33 ((zs ++ x).length) (c33)), (27, .int .i64 ((k : Int))), (26, .int .i64 ((pss.length : Nat))), (25, .slice (some ⟨lb, lo, none⟩) (pss.length) (lc))] := hF.pick [0, 7, 8, 9]
    refine so_as hF 0 ?_; clear hF T; intro T hF
    refine wpList_nil ?_
    refine block_normal ?_
    refine then_normal ?_
    conv => arg 2; whnf
    refine wp_region_lit ?_
    refine so_p hF (.int .i64 ((k + 1 : Nat) : Int)) (fun K hK => wp_add rfl (hF.op 2 rfl) rfl (((k + 1 : Nat) : Int)) (by rw [IntKind.wrap_i64]; omega) hK) ?_; clear hF T; intro T hF
    replace hF : Fr 36 ⟨T, []⟩ [(34, .int .i64 ((k + 1 : Nat) : Int)), (6, .slice a33 ((zs ++ x).length) (c33)), (26, .int .i64 ((pss.length : Nat))), (25, .slice (some ⟨lb, lo, none⟩) (pss.length) (lc))] := hF.pick [0, 1, 4, 5]
    refine so_mv hF 0 ?_; clear hF T; intro T hF
    refine wpList_nil ?_
    refine then_normal ?_
    exact ⟨n - 1, by omega, T, k + 1, _, _, _, rfl, (hF.pick [0, 3, 4, 2]), (hS.pick [] [1, 2] rfl rfl), by omega, by rw [flat_snoc pss k x HX.out, HZ.out]⟩
   next =>
    obtain rfl : k = pss.length := by omega
    rw [List.take_length] at HZ
    conv => arg 2; whnf
    refine wp_region_lit ?_
    refine so_p hF (.bool false) (fun K hK => wp_lss_f rfl (hF.op 0 rfl) (hF.op 1 rfl) (by omega) hK) ?_; clear hF T; intro T hF
    refine wpList_nil ?_
    refine then_normal ?_
    refine wp_seq ?_
    refine wp_cond_false (hF.op 0 rfl) ?_
    refine wp_exit ?_
    refine then_exit ?_
    refine then_exit ?_
    refine block_exit ?_
    refine then_normal ?_
    refine wp_seq ?_
    conv => arg 2; whnf
    refine wp_region_lit ?_
    refine so_mv hF 4 ?_; clear hF T; intro T hF
    refine so_as hF 0 ?_; clear hF T; intro T hF
    refine wpList_nil ?_
    refine then_normal ?_
    refine wp_ret ?_
    refine bodyPost_ret (v := .slice za (zs.length) (zc)) (results_t1 Try.results10 (hF.ev 0 rfl)) rfl ?_
    rw [← HZ.out]
    exact ⟨_, rfl, hS.padr 0 rfl⟩
end Go.Proofs.Ytljcaegcbcikiaa
namespace Go.Proofs.Ytljcaegcbcikiaa
open Go.RowKit
/-- A deed. -/
structure Dd where
  kd : Int
  nm : ByteArray
  vl : ByteArray
  rd : ByteArray
  cm : List Nat
@[reducible] def deedc (d : Dd) : Array Value := #[.int .i64 d.kd, .string d.nm, .string d.vl, .string d.rd, .int .u8 ((nth d.cm 0 : Nat) : Int), .int .u8 ((nth d.cm 1 : Nat) : Int), .int .u8 ((nth d.cm 2 : Nat) : Int), .int .u8 ((nth d.cm 3 : Nat) : Int), .int .u8 ((nth d.cm 4 : Nat) : Int), .int .u8 ((nth d.cm 5 : Nat) : Int), .int .u8 ((nth d.cm 6 : Nat) : Int), .int .u8 ((nth d.cm 7 : Nat) : Int), .int .u8 ((nth d.cm 8 : Nat) : Int), .int .u8 ((nth d.cm 9 : Nat) : Int), .int .u8 ((nth d.cm 10 : Nat) : Int), .int .u8 ((nth d.cm 11 : Nat) : Int), .int .u8 ((nth d.cm 12 : Nat) : Int), .int .u8 ((nth d.cm 13 : Nat) : Int), .int .u8 ((nth d.cm 14 : Nat) : Int), .int .u8 ((nth d.cm 15 : Nat) : Int), .int .u8 ((nth d.cm 16 : Nat) : Int), .int .u8 ((nth d.cm 17 : Nat) : Int), .int .u8 ((nth d.cm 18 : Nat) : Int), .int .u8 ((nth d.cm 19 : Nat) : Int)]
theorem cm_part (l : List Nat) (h : l.length = 20) : (wcells .u8 l).toList = ((deedc ⟨0, .empty, .empty, .empty, l⟩).toList.drop 4).take 20 := by
  match l, h with
  | [_, _, _, _, _, _, _, _, _, _, _, _, _, _, _, _, _, _, _, _], _ => rfl
theorem cm_part' (d : Dd) (h : d.cm.length = 20) : ((deedc d).toList.drop 4).take 20 = (wcells .u8 d.cm).toList := by rw [cm_part d.cm h]; rfl
def noCm : List Nat := List.replicate 20 0
/-- The deed that tells nothing. -/
def noDd : Dd := ⟨0, .empty, .empty, .empty, noCm⟩
theorem toList_inj' {s u : ByteArray} : (s.toList == u.toList) = true ↔ s = u := by
  simp [ByteArray.toList_eq]
  exact ⟨fun h => ByteArray.ext h, fun h => by rw [h]⟩
/-- Does a deed tell a name? -/
def Dd.named (d : Dd) : Prop := d.kd = 2 ∨ d.kd = 3
/-- Can a deed be? -/
def Dd.right (d : Dd) : Prop :=
  (d.kd = 0 ∧ d.nm.size = 0 ∧ d.vl.size = 0 ∧ d.rd.size = 0 ∧ d.cm = noCm) ∨ (d.kd = 1 ∧ d.nm.size = 0 ∧ d.vl.size = 0 ∧ d.rd.size = 0) ∨
    (d.kd = 2 ∧ 1 ≤ d.nm.size ∧ d.nm.size ≤ 64 ∧ 1 ≤ d.rd.size ∧ d.rd.size ≤ 32 ∧ d.vl.size ≤ 200 ∧ d.cm = noCm) ∨ (d.kd = 3 ∧ 1 ≤ d.nm.size ∧ d.nm.size ≤ 64 ∧ d.rd.size = 0 ∧ d.vl.size ≤ 200 ∧ d.cm = noCm)
/-- A deed's words. -/
def Dd.words (d : Dd) : List Nat :=
  if d.kd = 1 then [81] ++ pws [d.cm] ++ [109] else if d.kd = 2 then [82] ++ pws [sb d.nm, sb d.rd, sb d.vl] ++ [109, 109] else if d.kd = 3 then [83] ++ pws [sb d.nm, sb d.vl] ++ [109, 117] else []
end Go.Proofs.Ytljcaegcbcikiaa
namespace Go.Proofs.Ytljcaegcbcikiaa
open Go.RowKit
theorem cm_piece {W : World} {g c : Nat} {d : Dd} (hg : W.heap[g]? = some (.cells (deedc d) 25 (0, 0))) (hl : d.cm.length = 20) : PieceV W W.heap.size (.slice (some ⟨g, 4, none⟩) 20 c) d.cm :=
  Or.inr ⟨g, 4, c, lt_of_block hg, by rw [hl], fun i hi => (cell_of_row _ _ _ _ _ _ hg).trans (by
    have h1 := congrArg (fun l => l[i]?) (cm_part' d hl)
    simp only [List.getElem?_take, List.getElem?_drop] at h1
    rw [if_pos (by omega)] at h1
    show (deedc d)[4 + i]? = _
    rw [← Array.getElem?_toList]
    exact h1.trans (by rw [Array.getElem?_toList]; exact wcells_get .u8 d.cm i hi))⟩
set_option maxRecDepth 100000 in
set_option maxHeartbeats 4000000 in
theorem lb_words0 (nm vl rd : ByteArray) (cm : List Nat) (_hl : cm.length = 20) (_z1 : (sb nm).length ≤ 100000000) (_z2 : (sb vl).length ≤ 100000000) (_z3 : (sb rd).length ≤ 100000000) (w : World) : Calls Try.prog 11 #[.agg (deedc ⟨0, nm, vl, rd, cm⟩)] w fun e w' => ∃ v', e = .returned v' ∧ PadR w v' (⟨0, nm, vl, rd, cm⟩ : Dd).words w' := by
  have S0 := Sx.nil w
  have sk : Try.f11.body = some (.seq (rgn Try.f11 0) (.seq (rgn Try.f11 1) (.seq (.seq (rgn Try.f11 2) (.block 0 (.seq (rgn Try.f11 3) (.cond (.tmp 12) (.seq (rgn Try.f11 4) .ret) (.seq (rgn Try.f11 5) (.cond (.tmp 21) (.seq (rgn Try.f11 6) .ret) (.seq (rgn Try.f11 7) (.cond (.tmp 37) (.seq (rgn Try.f11 8) .ret) .skip)))))))) (.seq (rgn Try.f11 9) .ret)))) := by kernel_rfl
  refine enter 50 [(0, .agg (deedc (⟨0, nm, vl, rd, cm⟩ : Dd)))] Try.func11 sk (by rfl) rfl S0 (fun T W hF hS => ?_)
  clear sk S0
  refine wp_seq ?_
  conv => arg 2; whnf
  refine wp_region_lit ?_
  refine so_step hF rfl (wanted_none rfl _) (by decide) rfl (fun v W' => ∃ g, (.pointer (some ⟨g, 0, none⟩) : Value) = v ∧ w.heap.size ≤ g ∧ Sx w ((g, .cells (deedc (⟨0, nm, vl, rd, cm⟩ : Dd)) 25 (0, 0)) :: []) [] W') (fun K hK => ?_) ?_
  next =>
   have f0 := hF.ev 0 rfl
   go_simp
   exact hK.out _ _ ⟨_, rfl, hS.below.size, hS.alloc _⟩
  clear hS
  clear hF
  clear T
  rintro v T W1 ⟨g1, rfl, hg1, hS⟩ hF
  try clear W
  obtain ⟨W, rfl⟩ : ∃ x, x = W1 := ⟨_, rfl⟩
  refine so_p hF (.slice none 0 0) (fun K hK => wp_assign rfl rfl hK) ?_; clear hF T; intro T hF
  refine wpList_nil ?_
  refine then_normal ?_
  refine wp_seq ?_
  conv => arg 2; whnf
  refine wp_region_lit ?_
  refine so_pure hF rfl (wanted_none rfl _) (by decide) rfl (.pointer (some ⟨g1, 0, none⟩)) (fun K hK => ?_) ?_
  next =>
   have f1 := hF.ev 1 rfl
   go_simp
   exact hK.out
  clear hF
  clear T
  intro T hF
  refine so_pure hF rfl (wanted_none rfl _) (by decide) rfl (.int .i64 0) (fun K hK => ?_) ?_
  next =>
   exact wp_ld rfl (hF.op 0 rfl) Try.underlying3 rfl (hS.cell 0 rfl rfl) hK
  clear hF
  clear T
  intro T hF
  refine so_p hF (.int .u8 0) (fun K hK => wp_int rfl (hF.op 0 rfl) Try.underlying3 Try.underlying5 (0) (by rw [IntKind.wrap_u8]; omega) hK) ?_; clear hF T; intro T hF
  refine so_p hF (.int .u8 81) (fun K hK => wp_add rfl rfl (hF.op 0 rfl) (81) (by rw [IntKind.wrap_u8]; omega) hK) ?_; clear hF T; intro T hF
  refine so_p hF (.int .u8 80) (fun K hK => wp_sub rfl (hF.op 0 rfl) rfl (80) (by rw [IntKind.wrap_u8]; omega) hK) ?_; clear hF T; intro T hF
  refine so_step hF rfl (wanted_none rfl _) (by decide) rfl (fun v W' => ∃ g, (.slice (some ⟨g, 0, none⟩) 1 1 : Value) = v ∧ w.heap.size ≤ g ∧ Sx w ((g, .cells #[.int .u8 80] 5 (0, 0)) :: [(g1, .cells (deedc (⟨0, nm, vl, rd, cm⟩ : Dd)) 25 (0, 0))]) [] W') (fun K hK => ?_) ?_
  next =>
   have f8 := hF.ev 0 rfl
   go_simp
   exact hK.out _ _ ⟨_, rfl, hS.below.size, hS.alloc _⟩
  clear hS
  clear hF
  clear T
  rintro v T W1 ⟨g9, rfl, hg9, hS⟩ hF
  try clear W
  obtain ⟨W, rfl⟩ : ∃ x, x = W1 := ⟨_, rfl⟩
  refine so_as hF 0 ?_; clear hF T; intro T hF
  refine wpList_nil ?_
  refine then_normal ?_
  refine wp_seq ?_
  refine wp_seq ?_
  conv => arg 2; whnf
  refine wp_region_lit ?_
  refine so_pure hF rfl (wanted_none rfl _) (by decide) rfl (.pointer (some ⟨g1, 0, none⟩)) (fun K hK => ?_) ?_
  next =>
   have f1 := hF.ev 8 rfl
   go_simp
   exact hK.out
  clear hF
  clear T
  intro T hF
  refine so_pure hF rfl (wanted_none rfl _) (by decide) rfl (.int .i64 0) (fun K hK => ?_) ?_
  next =>
   exact wp_ld rfl (hF.op 0 rfl) Try.underlying3 rfl (hS.cell 1 rfl rfl) hK
  clear hF
  clear T
  intro T hF
  refine wpList_nil ?_
  refine then_normal ?_
  refine wp_block ?_
  refine wp_seq ?_
  conv => arg 2; whnf
  refine wp_region_lit ?_
  refine so_p hF (.bool false) (fun K hK => wp_eql_f rfl (hF.op 0 rfl) rfl (by omega) hK) ?_; clear hF T; intro T hF
  refine so_as hF 0 ?_; clear hF T; intro T hF
  refine wpList_nil ?_
  refine then_normal ?_
  refine wp_cond_false (hF.op 0 rfl) ?_
  refine wp_seq ?_
  conv => arg 2; whnf
  refine wp_region_lit ?_
  refine so_p hF (.bool false) (fun K hK => wp_eql_f rfl (hF.op 2 rfl) rfl (by omega) hK) ?_; clear hF T; intro T hF
  refine so_as hF 0 ?_; clear hF T; intro T hF
  refine wpList_nil ?_
  refine then_normal ?_
  refine wp_cond_false (hF.op 0 rfl) ?_
  refine wp_seq ?_
  conv => arg 2; whnf
  refine wp_region_lit ?_
  refine so_p hF (.bool false) (fun K hK => wp_eql_f rfl (hF.op 4 rfl) rfl (by omega) hK) ?_; clear hF T; intro T hF
  refine so_as hF 0 ?_; clear hF T; intro T hF
  refine wpList_nil ?_
  refine then_normal ?_
  refine wp_cond_false (hF.op 0 rfl) ?_
  refine wp_skip ?_
  refine block_normal ?_
  refine then_normal ?_
  refine wp_seq ?_
  conv => arg 2; whnf
  refine wp_region_lit ?_
  replace hF : Fr 50 ⟨T, []⟩ [] := hF.pick []
  refine so_p hF (.slice none 0 0) (fun K hK => wp_assign rfl rfl hK) ?_; clear hF T; intro T hF
  refine wpList_nil ?_
  refine then_normal ?_
  refine wp_ret ?_
  refine bodyPost_ret (v := .slice none 0 0) (results_t1 Try.results11 (hF.ev 0 rfl)) rfl ?_
  exact ⟨_, rfl, PadR.nil' hS.below rfl⟩
set_option maxRecDepth 100000 in
set_option maxHeartbeats 4000000 in
theorem lb_words1 (nm vl rd : ByteArray) (cm : List Nat) (hl : cm.length = 20) (_z1 : (sb nm).length ≤ 100000000) (_z2 : (sb vl).length ≤ 100000000) (_z3 : (sb rd).length ≤ 100000000) (w : World) : Calls Try.prog 11 #[.agg (deedc ⟨1, nm, vl, rd, cm⟩)] w fun e w' => ∃ v', e = .returned v' ∧ PadR w v' (⟨1, nm, vl, rd, cm⟩ : Dd).words w' := by
  have S0 := Sx.nil w
  have sk : Try.f11.body = some (.seq (rgn Try.f11 0) (.seq (rgn Try.f11 1) (.seq (.seq (rgn Try.f11 2) (.block 0 (.seq (rgn Try.f11 3) (.cond (.tmp 12) (.seq (rgn Try.f11 4) .ret) (.seq (rgn Try.f11 5) (.cond (.tmp 21) (.seq (rgn Try.f11 6) .ret) (.seq (rgn Try.f11 7) (.cond (.tmp 37) (.seq (rgn Try.f11 8) .ret) .skip)))))))) (.seq (rgn Try.f11 9) .ret)))) := by kernel_rfl
  refine enter 50 [(0, .agg (deedc (⟨1, nm, vl, rd, cm⟩ : Dd)))] Try.func11 sk (by rfl) rfl S0 (fun T W hF hS => ?_)
  clear sk S0
  refine wp_seq ?_
  conv => arg 2; whnf
  refine wp_region_lit ?_
  refine so_step hF rfl (wanted_none rfl _) (by decide) rfl (fun v W' => ∃ g, (.pointer (some ⟨g, 0, none⟩) : Value) = v ∧ w.heap.size ≤ g ∧ Sx w ((g, .cells (deedc (⟨1, nm, vl, rd, cm⟩ : Dd)) 25 (0, 0)) :: []) [] W') (fun K hK => ?_) ?_
  next =>
   have f0 := hF.ev 0 rfl
   go_simp
   exact hK.out _ _ ⟨_, rfl, hS.below.size, hS.alloc _⟩
  clear hS
  clear hF
  clear T
  rintro v T W1 ⟨g1, rfl, hg1, hS⟩ hF
  try clear W
  obtain ⟨W, rfl⟩ : ∃ x, x = W1 := ⟨_, rfl⟩
  refine so_p hF (.slice none 0 0) (fun K hK => wp_assign rfl rfl hK) ?_; clear hF T; intro T hF
  refine wpList_nil ?_
  refine then_normal ?_
  refine wp_seq ?_
  conv => arg 2; whnf
  refine wp_region_lit ?_
  refine so_pure hF rfl (wanted_none rfl _) (by decide) rfl (.pointer (some ⟨g1, 0, none⟩)) (fun K hK => ?_) ?_
  next =>
   have f1 := hF.ev 1 rfl
   go_simp
   exact hK.out
  clear hF
  clear T
  intro T hF
  refine so_pure hF rfl (wanted_none rfl _) (by decide) rfl (.int .i64 1) (fun K hK => ?_) ?_
  next =>
   exact wp_ld rfl (hF.op 0 rfl) Try.underlying3 rfl (hS.cell 0 rfl rfl) hK
  clear hF
  clear T
  intro T hF
  refine so_p hF (.int .u8 1) (fun K hK => wp_int rfl (hF.op 0 rfl) Try.underlying3 Try.underlying5 (1) (by rw [IntKind.wrap_u8]; omega) hK) ?_; clear hF T; intro T hF
  refine so_p hF (.int .u8 82) (fun K hK => wp_add rfl rfl (hF.op 0 rfl) (82) (by rw [IntKind.wrap_u8]; omega) hK) ?_; clear hF T; intro T hF
  refine so_p hF (.int .u8 81) (fun K hK => wp_sub rfl (hF.op 0 rfl) rfl (81) (by rw [IntKind.wrap_u8]; omega) hK) ?_; clear hF T; intro T hF
  refine so_step hF rfl (wanted_none rfl _) (by decide) rfl (fun v W' => ∃ g, (.slice (some ⟨g, 0, none⟩) 1 1 : Value) = v ∧ w.heap.size ≤ g ∧ Sx w ((g, .cells #[.int .u8 81] 5 (0, 0)) :: [(g1, .cells (deedc (⟨1, nm, vl, rd, cm⟩ : Dd)) 25 (0, 0))]) [] W') (fun K hK => ?_) ?_
  next =>
   have f8 := hF.ev 0 rfl
   go_simp
   exact hK.out _ _ ⟨_, rfl, hS.below.size, hS.alloc _⟩
  clear hS
  clear hF
  clear T
  rintro v T W1 ⟨g9, rfl, hg9, hS⟩ hF
  try clear W
  obtain ⟨W, rfl⟩ : ∃ x, x = W1 := ⟨_, rfl⟩
  refine so_as hF 0 ?_; clear hF T; intro T hF
  refine wpList_nil ?_
  refine then_normal ?_
  refine wp_seq ?_
  refine wp_seq ?_
  conv => arg 2; whnf
  refine wp_region_lit ?_
  refine so_pure hF rfl (wanted_none rfl _) (by decide) rfl (.pointer (some ⟨g1, 0, none⟩)) (fun K hK => ?_) ?_
  next =>
   have f1 := hF.ev 8 rfl
   go_simp
   exact hK.out
  clear hF
  clear T
  intro T hF
  refine so_pure hF rfl (wanted_none rfl _) (by decide) rfl (.int .i64 1) (fun K hK => ?_) ?_
  next =>
   exact wp_ld rfl (hF.op 0 rfl) Try.underlying3 rfl (hS.cell 1 rfl rfl) hK
  clear hF
  clear T
  intro T hF
  refine wpList_nil ?_
  refine then_normal ?_
  refine wp_block ?_
  refine wp_seq ?_
  conv => arg 2; whnf
  refine wp_region_lit ?_
  refine so_p hF (.bool true) (fun K hK => wp_eql_t rfl (hF.op 0 rfl) rfl (by omega) hK) ?_; clear hF T; intro T hF
  refine so_as hF 0 ?_; clear hF T; intro T hF
  refine wpList_nil ?_
  refine then_normal ?_
  refine wp_cond_true (hF.op 0 rfl) ?_
  refine wp_seq ?_
  have hpw := pws_le [cm]
  simp only [List.flatten_cons, List.flatten_nil, List.length_append, List.length_nil, List.length_cons] at hpw
  conv => arg 2; whnf
  refine wp_region_lit ?_
  refine so_mv hF 4 ?_; clear hF T; intro T hF
  refine so_pure hF rfl (wanted_none rfl _) (by decide) rfl (.pointer (some ⟨g1, 4, none⟩)) (fun K hK => ?_) ?_
  next =>
   have f1 := hF.ev 13 rfl
   go_simp
   exact hK.out
  clear hF
  clear T
  intro T hF
  refine so_pure hF rfl (wanted_none rfl _) (by decide) rfl (.slice (some ⟨g1, 4, none⟩) 20 20) (fun K hK => ?_) ?_
  next =>
   have f15 := hF.ev 0 rfl
   go_simp
   exact hK.out
  clear hF
  clear T
  intro T hF
  refine so_step hF rfl (wanted_none rfl _) (by decide) rfl (fun v W' => ∃ g, (.slice (some ⟨g, 0, none⟩) 1 1 : Value) = v ∧ w.heap.size ≤ g ∧ Sx w ((g, .cells #[.slice (some ⟨g1, 4, none⟩) 20 20] 26 (0, 0)) :: [(g9, .cells #[.int .u8 81] 5 (0, 0)), (g1, .cells (deedc (⟨1, nm, vl, rd, cm⟩ : Dd)) 25 (0, 0))]) [] W') (fun K hK => ?_) ?_
  next =>
   have f16 := hF.ev 0 rfl
   go_simp
   exact hK.out _ _ ⟨_, rfl, hS.below.size, hS.alloc _⟩
  clear hS
  clear hF
  clear T
  rintro v T W1 ⟨g17, rfl, hg17, hS⟩ hF
  try clear W
  obtain ⟨W, rfl⟩ : ∃ x, x = W1 := ⟨_, rfl⟩
  refine so_step hF rfl (wanted_none rfl _) (by decide) rfl (fun v W' => ∃ aq cq, .slice aq (([81] ++ pws [cm]).length) cq = v ∧ Sx w [(g17, .cells #[.slice (some ⟨g1, 4, none⟩) 20 20] 26 (0, 0)), (g9, .cells #[.int .u8 81] 5 (0, 0)), (g1, .cells (deedc (⟨1, nm, vl, rd, cm⟩ : Dd)) 25 (0, 0))] [xown w (.slice aq (([81] ++ pws [cm]).length) cq) ([81] ++ pws [cm])] W') (fun K hK => ?_) ?_
  next =>
   refine wp_call rfl Try.func21 (by kernel_rfl) (ev2 (hF.op 3 rfl) (hF.op 0 rfl)) ?_
   refine (push_c _ _ [81] [cm] _ (row_piece (l := [81]) (hS.at 1 rfl) rfl rfl) (pcs1 (hS.at 0 rfl) (cm_piece (hS.at 2 rfl) hl)) (by simp only [List.length_nil, List.length_cons]; omega) (by simp)).mono ?_
   rintro e W2 ⟨v', rfl, hp⟩
   obtain ⟨aq, cq, rfl⟩ := hp.rest.shape
   exact ⟨_, rfl, hK.out _ _ ⟨_, _, rfl, hS.gave hp⟩⟩
  clear hF hS
  clear T
  rintro v T W1 ⟨a18, c18, rfl, hS⟩ hF
  try clear W
  obtain ⟨W, rfl⟩ : ∃ x, x = W1 := ⟨_, rfl⟩
  refine so_step hF rfl (wanted_none rfl _) (by decide) rfl (fun v W' => ∃ g, (.slice (some ⟨g, 0, none⟩) 1 1 : Value) = v ∧ w.heap.size ≤ g ∧ Sx w ((g, .cells #[.int .u8 109] 5 (0, 0)) :: [(g17, .cells #[.slice (some ⟨g1, 4, none⟩) 20 20] 26 (0, 0)), (g9, .cells #[.int .u8 81] 5 (0, 0)), (g1, .cells (deedc (⟨1, nm, vl, rd, cm⟩ : Dd)) 25 (0, 0))]) [xown w (.slice a18 (([81] ++ pws [cm]).length) c18) ([81] ++ pws [cm])] W') (fun K hK => ?_) ?_
  next =>
   go_simp
   exact hK.out _ _ ⟨_, rfl, hS.below.size, hS.alloc _⟩
  clear hS
  clear hF
  clear T
  rintro v T W1 ⟨g19, rfl, hg19, hS⟩ hF
  try clear W
  obtain ⟨W, rfl⟩ : ∃ x, x = W1 := ⟨_, rfl⟩
  refine so_step hF rfl (wanted_none rfl _) (by decide) rfl (fun v W' => ∃ aq cq, .slice aq ((([81] ++ pws [cm]) ++ [109]).length) cq = v ∧ Sx w [(g19, .cells #[.int .u8 109] 5 (0, 0)), (g17, .cells #[.slice (some ⟨g1, 4, none⟩) 20 20] 26 (0, 0)), (g9, .cells #[.int .u8 81] 5 (0, 0)), (g1, .cells (deedc (⟨1, nm, vl, rd, cm⟩ : Dd)) 25 (0, 0))] (List.set [xown w (.slice a18 (([81] ++ pws [cm]).length) c18) ([81] ++ pws [cm])] 0 (xown w v (([81] ++ pws [cm]) ++ [109]))) W') (fun K hK => ?_) ?_
  next =>
   refine wp_app hS 0 (.tmp 18) (.tmp 19) rfl (hF.op 1 rfl) (hF.op 0 rfl) rfl (src_row (l := [109]) (hS.at 0 rfl) rfl rfl) (by first | omega | (simp; omega)) (fun v' W' hS' => ?_)
   obtain ⟨a, c, e⟩ := (hS'.own 0 rfl).shape
   exact hK.out _ _ ⟨a, c, e.symm, hS'⟩
  clear hF hS
  clear T
  rintro v T W1 ⟨a20, c20, rfl, hS⟩ hF
  try clear W
  obtain ⟨W, rfl⟩ : ∃ x, x = W1 := ⟨_, rfl⟩
  replace hS : Sx w [(g19, .cells #[.int .u8 109] 5 (0, 0)), (g17, .cells #[.slice (some ⟨g1, 4, none⟩) 20 20] 26 (0, 0)), (g9, .cells #[.int .u8 81] 5 (0, 0)), (g1, .cells (deedc (⟨1, nm, vl, rd, cm⟩ : Dd)) 25 (0, 0))] [xown w (.slice a20 ((([81] ++ pws [cm]) ++ [109]).length) c20) (([81] ++ pws [cm]) ++ [109])] W := hS
  replace hF : Fr 50 ⟨T, []⟩ [(20, .slice a20 ((([81] ++ pws [cm]) ++ [109]).length) (c20))] := hF.pick [0]
  refine so_as hF 0 ?_; clear hF T; intro T hF
  refine wpList_nil ?_
  refine then_normal ?_
  refine wp_ret ?_
  refine block_ret ?_
  refine then_ret ?_
  refine bodyPost_ret (v := .slice a20 ((([81] ++ pws [cm]) ++ [109]).length) (c20)) (results_t1 Try.results11 (hF.ev 0 rfl)) rfl ?_
  exact ⟨_, rfl, hS.padr 0 rfl⟩
set_option maxRecDepth 100000 in
set_option maxHeartbeats 4000000 in
theorem lb_words2 (nm vl rd : ByteArray) (cm : List Nat) (_hl : cm.length = 20) (z1 : (sb nm).length ≤ 100000000) (z2 : (sb vl).length ≤ 100000000) (z3 : (sb rd).length ≤ 100000000) (w : World) : Calls Try.prog 11 #[.agg (deedc ⟨2, nm, vl, rd, cm⟩)] w fun e w' => ∃ v', e = .returned v' ∧ PadR w v' (⟨2, nm, vl, rd, cm⟩ : Dd).words w' := by
  have S0 := Sx.nil w
  have sk : Try.f11.body = some (.seq (rgn Try.f11 0) (.seq (rgn Try.f11 1) (.seq (.seq (rgn Try.f11 2) (.block 0 (.seq (rgn Try.f11 3) (.cond (.tmp 12) (.seq (rgn Try.f11 4) .ret) (.seq (rgn Try.f11 5) (.cond (.tmp 21) (.seq (rgn Try.f11 6) .ret) (.seq (rgn Try.f11 7) (.cond (.tmp 37) (.seq (rgn Try.f11 8) .ret) .skip)))))))) (.seq (rgn Try.f11 9) .ret)))) := by kernel_rfl
  refine enter 50 [(0, .agg (deedc (⟨2, nm, vl, rd, cm⟩ : Dd)))] Try.func11 sk (by rfl) rfl S0 (fun T W hF hS => ?_)
  clear sk S0
  refine wp_seq ?_
  conv => arg 2; whnf
  refine wp_region_lit ?_
  refine so_step hF rfl (wanted_none rfl _) (by decide) rfl (fun v W' => ∃ g, (.pointer (some ⟨g, 0, none⟩) : Value) = v ∧ w.heap.size ≤ g ∧ Sx w ((g, .cells (deedc (⟨2, nm, vl, rd, cm⟩ : Dd)) 25 (0, 0)) :: []) [] W') (fun K hK => ?_) ?_
  next =>
   have f0 := hF.ev 0 rfl
   go_simp
   exact hK.out _ _ ⟨_, rfl, hS.below.size, hS.alloc _⟩
  clear hS
  clear hF
  clear T
  rintro v T W1 ⟨g1, rfl, hg1, hS⟩ hF
  try clear W
  obtain ⟨W, rfl⟩ : ∃ x, x = W1 := ⟨_, rfl⟩
  refine so_p hF (.slice none 0 0) (fun K hK => wp_assign rfl rfl hK) ?_; clear hF T; intro T hF
  refine wpList_nil ?_
  refine then_normal ?_
  refine wp_seq ?_
  conv => arg 2; whnf
  refine wp_region_lit ?_
  refine so_pure hF rfl (wanted_none rfl _) (by decide) rfl (.pointer (some ⟨g1, 0, none⟩)) (fun K hK => ?_) ?_
  next =>
   have f1 := hF.ev 1 rfl
   go_simp
   exact hK.out
  clear hF
  clear T
  intro T hF
  refine so_pure hF rfl (wanted_none rfl _) (by decide) rfl (.int .i64 2) (fun K hK => ?_) ?_
  next =>
   exact wp_ld rfl (hF.op 0 rfl) Try.underlying3 rfl (hS.cell 0 rfl rfl) hK
  clear hF
  clear T
  intro T hF
  refine so_p hF (.int .u8 2) (fun K hK => wp_int rfl (hF.op 0 rfl) Try.underlying3 Try.underlying5 (2) (by rw [IntKind.wrap_u8]; omega) hK) ?_; clear hF T; intro T hF
  refine so_p hF (.int .u8 83) (fun K hK => wp_add rfl rfl (hF.op 0 rfl) (83) (by rw [IntKind.wrap_u8]; omega) hK) ?_; clear hF T; intro T hF
  refine so_p hF (.int .u8 82) (fun K hK => wp_sub rfl (hF.op 0 rfl) rfl (82) (by rw [IntKind.wrap_u8]; omega) hK) ?_; clear hF T; intro T hF
  refine so_step hF rfl (wanted_none rfl _) (by decide) rfl (fun v W' => ∃ g, (.slice (some ⟨g, 0, none⟩) 1 1 : Value) = v ∧ w.heap.size ≤ g ∧ Sx w ((g, .cells #[.int .u8 82] 5 (0, 0)) :: [(g1, .cells (deedc (⟨2, nm, vl, rd, cm⟩ : Dd)) 25 (0, 0))]) [] W') (fun K hK => ?_) ?_
  next =>
   have f8 := hF.ev 0 rfl
   go_simp
   exact hK.out _ _ ⟨_, rfl, hS.below.size, hS.alloc _⟩
  clear hS
  clear hF
  clear T
  rintro v T W1 ⟨g9, rfl, hg9, hS⟩ hF
  try clear W
  obtain ⟨W, rfl⟩ : ∃ x, x = W1 := ⟨_, rfl⟩
  refine so_as hF 0 ?_; clear hF T; intro T hF
  refine wpList_nil ?_
  refine then_normal ?_
  refine wp_seq ?_
  refine wp_seq ?_
  conv => arg 2; whnf
  refine wp_region_lit ?_
  refine so_pure hF rfl (wanted_none rfl _) (by decide) rfl (.pointer (some ⟨g1, 0, none⟩)) (fun K hK => ?_) ?_
  next =>
   have f1 := hF.ev 8 rfl
   go_simp
   exact hK.out
  clear hF
  clear T
  intro T hF
  refine so_pure hF rfl (wanted_none rfl _) (by decide) rfl (.int .i64 2) (fun K hK => ?_) ?_
  next =>
   exact wp_ld rfl (hF.op 0 rfl) Try.underlying3 rfl (hS.cell 1 rfl rfl) hK
  clear hF
  clear T
  intro T hF
  refine wpList_nil ?_
  refine then_normal ?_
  refine wp_block ?_
  refine wp_seq ?_
  conv => arg 2; whnf
  refine wp_region_lit ?_
  refine so_p hF (.bool false) (fun K hK => wp_eql_f rfl (hF.op 0 rfl) rfl (by omega) hK) ?_; clear hF T; intro T hF
  refine so_as hF 0 ?_; clear hF T; intro T hF
  refine wpList_nil ?_
  refine then_normal ?_
  refine wp_cond_false (hF.op 0 rfl) ?_
  refine wp_seq ?_
  conv => arg 2; whnf
  refine wp_region_lit ?_
  refine so_p hF (.bool true) (fun K hK => wp_eql_t rfl (hF.op 2 rfl) rfl (by omega) hK) ?_; clear hF T; intro T hF
  refine so_as hF 0 ?_; clear hF T; intro T hF
  refine wpList_nil ?_
  refine then_normal ?_
  refine wp_cond_true (hF.op 0 rfl) ?_
  refine wp_seq ?_
  have hpw := pws_le [sb nm, sb rd, sb vl]
  simp only [List.flatten_cons, List.flatten_nil, List.length_append, List.length_nil, List.length_cons] at hpw
  conv => arg 2; whnf
  refine wp_region_lit ?_
  refine so_mv hF 6 ?_; clear hF T; intro T hF
  refine so_pure hF rfl (wanted_none rfl _) (by decide) rfl (.pointer (some ⟨g1, 1, none⟩)) (fun K hK => ?_) ?_
  next =>
   have f1 := hF.ev 15 rfl
   go_simp
   exact hK.out
  clear hF
  clear T
  intro T hF
  refine so_pure hF rfl (wanted_none rfl _) (by decide) rfl (.string nm) (fun K hK => ?_) ?_
  next =>
   exact wp_ld rfl (hF.op 0 rfl) Try.underlying9 rfl (hS.cell 1 rfl rfl) hK
  clear hF
  clear T
  intro T hF
  refine so_step hF rfl (wanted_none rfl _) (by decide) rfl (fun v W' => ∃ gq cq, .slice (some ⟨gq, 0, none⟩) (sb nm).length cq = v ∧ w.heap.size ≤ gq ∧ Sx w [(g9, .cells #[.int .u8 82] 5 (0, 0)), (g1, .cells (deedc (⟨2, nm, vl, rd, cm⟩ : Dd)) 25 (0, 0))] [xps (fun b => b = gq) (.slice (some ⟨gq, 0, none⟩) (sb nm).length cq) (sb nm)] W') (fun K hK => wp_bytes hS rfl (hF.op 0 rfl) (fun g c W' h1 _ h2 => hK.out _ _ ⟨g, c, rfl, h1, h2⟩)) ?_
  clear hF hS
  clear T
  rintro v T W1 ⟨g26, c26, rfl, hg26, hS⟩ hF
  try clear W
  obtain ⟨W, rfl⟩ : ∃ x, x = W1 := ⟨_, rfl⟩
  refine so_pure hF rfl (wanted_none rfl _) (by decide) rfl (.pointer (some ⟨g1, 3, none⟩)) (fun K hK => ?_) ?_
  next =>
   have f1 := hF.ev 18 rfl
   go_simp
   exact hK.out
  clear hF
  clear T
  intro T hF
  refine so_pure hF rfl (wanted_none rfl _) (by decide) rfl (.string rd) (fun K hK => ?_) ?_
  next =>
   exact wp_ld rfl (hF.op 0 rfl) Try.underlying9 rfl (hS.cell 1 rfl rfl) hK
  clear hF
  clear T
  intro T hF
  refine so_step hF rfl (wanted_none rfl _) (by decide) rfl (fun v W' => ∃ gq cq, .slice (some ⟨gq, 0, none⟩) (sb rd).length cq = v ∧ w.heap.size ≤ gq ∧ Sx w [(g9, .cells #[.int .u8 82] 5 (0, 0)), (g1, .cells (deedc (⟨2, nm, vl, rd, cm⟩ : Dd)) 25 (0, 0))] [xps (fun b => b = gq) (.slice (some ⟨gq, 0, none⟩) (sb rd).length cq) (sb rd), xps (fun b => b = g26) (.slice (some ⟨g26, 0, none⟩) (sb nm).length c26) (sb nm)] W') (fun K hK => wp_bytes hS rfl (hF.op 0 rfl) (fun g c W' h1 _ h2 => hK.out _ _ ⟨g, c, rfl, h1, h2⟩)) ?_
  clear hF hS
  clear T
  rintro v T W1 ⟨g29, c29, rfl, hg29, hS⟩ hF
  try clear W
  obtain ⟨W, rfl⟩ : ∃ x, x = W1 := ⟨_, rfl⟩
  refine so_pure hF rfl (wanted_none rfl _) (by decide) rfl (.pointer (some ⟨g1, 2, none⟩)) (fun K hK => ?_) ?_
  next =>
   have f1 := hF.ev 21 rfl
   go_simp
   exact hK.out
  clear hF
  clear T
  intro T hF
  refine so_pure hF rfl (wanted_none rfl _) (by decide) rfl (.string vl) (fun K hK => ?_) ?_
  next =>
   exact wp_ld rfl (hF.op 0 rfl) Try.underlying9 rfl (hS.cell 1 rfl rfl) hK
  clear hF
  clear T
  intro T hF
  refine so_step hF rfl (wanted_none rfl _) (by decide) rfl (fun v W' => ∃ gq cq, .slice (some ⟨gq, 0, none⟩) (sb vl).length cq = v ∧ w.heap.size ≤ gq ∧ Sx w [(g9, .cells #[.int .u8 82] 5 (0, 0)), (g1, .cells (deedc (⟨2, nm, vl, rd, cm⟩ : Dd)) 25 (0, 0))] [xps (fun b => b = gq) (.slice (some ⟨gq, 0, none⟩) (sb vl).length cq) (sb vl), xps (fun b => b = g29) (.slice (some ⟨g29, 0, none⟩) (sb rd).length c29) (sb rd), xps (fun b => b = g26) (.slice (some ⟨g26, 0, none⟩) (sb nm).length c26) (sb nm)] W') (fun K hK => wp_bytes hS rfl (hF.op 0 rfl) (fun g c W' h1 _ h2 => hK.out _ _ ⟨g, c, rfl, h1, h2⟩)) ?_
  clear hF hS
  clear T
  rintro v T W1 ⟨g32, c32, rfl, hg32, hS⟩ hF
  try clear W
  obtain ⟨W, rfl⟩ : ∃ x, x = W1 := ⟨_, rfl⟩
  refine so_step hF rfl (wanted_none rfl _) (by decide) rfl (fun v W' => ∃ g, (.slice (some ⟨g, 0, none⟩) 3 3 : Value) = v ∧ w.heap.size ≤ g ∧ Sx w ((g, .cells #[.slice (some ⟨g26, 0, none⟩) (sb nm).length c26, .slice (some ⟨g29, 0, none⟩) (sb rd).length c29, .slice (some ⟨g32, 0, none⟩) (sb vl).length c32] 26 (0, 0)) :: [(g9, .cells #[.int .u8 82] 5 (0, 0)), (g1, .cells (deedc (⟨2, nm, vl, rd, cm⟩ : Dd)) 25 (0, 0))]) [xps (fun b => b = g32) (.slice (some ⟨g32, 0, none⟩) (sb vl).length c32) (sb vl), xps (fun b => b = g29) (.slice (some ⟨g29, 0, none⟩) (sb rd).length c29) (sb rd), xps (fun b => b = g26) (.slice (some ⟨g26, 0, none⟩) (sb nm).length c26) (sb nm)] W') (fun K hK => ?_) ?_
  next =>
   have f26 := hF.ev 6 rfl
   have f29 := hF.ev 3 rfl
   have f32 := hF.ev 0 rfl
   go_simp
   exact hK.out _ _ ⟨_, rfl, hS.below.size, hS.alloc _⟩
  clear hS
  clear hF
  clear T
  rintro v T W1 ⟨g33, rfl, hg33, hS⟩ hF
  try clear W
  obtain ⟨W, rfl⟩ : ∃ x, x = W1 := ⟨_, rfl⟩
  refine so_step hF rfl (wanted_none rfl _) (by decide) rfl (fun v W' => ∃ aq cq, .slice aq (([82] ++ pws [sb nm, sb rd, sb vl]).length) cq = v ∧ Sx w [(g33, .cells #[.slice (some ⟨g26, 0, none⟩) (sb nm).length c26, .slice (some ⟨g29, 0, none⟩) (sb rd).length c29, .slice (some ⟨g32, 0, none⟩) (sb vl).length c32] 26 (0, 0)), (g9, .cells #[.int .u8 82] 5 (0, 0)), (g1, .cells (deedc (⟨2, nm, vl, rd, cm⟩ : Dd)) 25 (0, 0))] [xown w (.slice aq (([82] ++ pws [sb nm, sb rd, sb vl]).length) cq) ([82] ++ pws [sb nm, sb rd, sb vl]), xps (fun b => b = g32) (.slice (some ⟨g32, 0, none⟩) (sb vl).length c32) (sb vl), xps (fun b => b = g29) (.slice (some ⟨g29, 0, none⟩) (sb rd).length c29) (sb rd), xps (fun b => b = g26) (.slice (some ⟨g26, 0, none⟩) (sb nm).length c26) (sb nm)] W') (fun K hK => ?_) ?_
  next =>
   refine wp_call rfl Try.func21 (by kernel_rfl) (ev2 (hF.op 10 rfl) (hF.op 0 rfl)) ?_
   refine (push_c _ _ [82] [sb nm, sb rd, sb vl] _ (row_piece (l := [82]) (hS.at 1 rfl) rfl rfl) (pcs3 (hS.at 0 rfl) (hS.ps 2 rfl) (hS.ps 1 rfl) (hS.ps 0 rfl)) (by simp only [List.length_nil, List.length_cons]; omega) (by simp)).mono ?_
   rintro e W2 ⟨v', rfl, hp⟩
   obtain ⟨aq, cq, rfl⟩ := hp.rest.shape
   exact ⟨_, rfl, hK.out _ _ ⟨_, _, rfl, hS.gave hp⟩⟩
  clear hF hS
  clear T
  rintro v T W1 ⟨a34, c34, rfl, hS⟩ hF
  try clear W
  obtain ⟨W, rfl⟩ : ∃ x, x = W1 := ⟨_, rfl⟩
  refine so_step hF rfl (wanted_none rfl _) (by decide) rfl (fun v W' => ∃ g, (.slice (some ⟨g, 0, none⟩) 2 2 : Value) = v ∧ w.heap.size ≤ g ∧ Sx w ((g, .cells #[.int .u8 109, .int .u8 109] 5 (0, 0)) :: [(g33, .cells #[.slice (some ⟨g26, 0, none⟩) (sb nm).length c26, .slice (some ⟨g29, 0, none⟩) (sb rd).length c29, .slice (some ⟨g32, 0, none⟩) (sb vl).length c32] 26 (0, 0)), (g9, .cells #[.int .u8 82] 5 (0, 0)), (g1, .cells (deedc (⟨2, nm, vl, rd, cm⟩ : Dd)) 25 (0, 0))]) [xown w (.slice a34 (([82] ++ pws [sb nm, sb rd, sb vl]).length) c34) ([82] ++ pws [sb nm, sb rd, sb vl]), xps (fun b => b = g32) (.slice (some ⟨g32, 0, none⟩) (sb vl).length c32) (sb vl), xps (fun b => b = g29) (.slice (some ⟨g29, 0, none⟩) (sb rd).length c29) (sb rd), xps (fun b => b = g26) (.slice (some ⟨g26, 0, none⟩) (sb nm).length c26) (sb nm)] W') (fun K hK => ?_) ?_
  next =>
   go_simp
   exact hK.out _ _ ⟨_, rfl, hS.below.size, hS.alloc _⟩
  clear hS
  clear hF
  clear T
  rintro v T W1 ⟨g35, rfl, hg35, hS⟩ hF
  try clear W
  obtain ⟨W, rfl⟩ : ∃ x, x = W1 := ⟨_, rfl⟩
  refine so_step hF rfl (wanted_none rfl _) (by decide) rfl (fun v W' => ∃ aq cq, .slice aq ((([82] ++ pws [sb nm, sb rd, sb vl]) ++ [109, 109]).length) cq = v ∧ Sx w [(g35, .cells #[.int .u8 109, .int .u8 109] 5 (0, 0)), (g33, .cells #[.slice (some ⟨g26, 0, none⟩) (sb nm).length c26, .slice (some ⟨g29, 0, none⟩) (sb rd).length c29, .slice (some ⟨g32, 0, none⟩) (sb vl).length c32] 26 (0, 0)), (g9, .cells #[.int .u8 82] 5 (0, 0)), (g1, .cells (deedc (⟨2, nm, vl, rd, cm⟩ : Dd)) 25 (0, 0))] (List.set [xown w (.slice a34 (([82] ++ pws [sb nm, sb rd, sb vl]).length) c34) ([82] ++ pws [sb nm, sb rd, sb vl]), xps (fun b => b = g32) (.slice (some ⟨g32, 0, none⟩) (sb vl).length c32) (sb vl), xps (fun b => b = g29) (.slice (some ⟨g29, 0, none⟩) (sb rd).length c29) (sb rd), xps (fun b => b = g26) (.slice (some ⟨g26, 0, none⟩) (sb nm).length c26) (sb nm)] 0 (xown w v (([82] ++ pws [sb nm, sb rd, sb vl]) ++ [109, 109]))) W') (fun K hK => ?_) ?_
  next =>
   refine wp_app hS 0 (.tmp 34) (.tmp 35) rfl (hF.op 1 rfl) (hF.op 0 rfl) rfl (src_row (l := [109, 109]) (hS.at 0 rfl) rfl rfl) (by first | omega | (simp; omega)) (fun v' W' hS' => ?_)
   obtain ⟨a, c, e⟩ := (hS'.own 0 rfl).shape
   exact hK.out _ _ ⟨a, c, e.symm, hS'⟩
  clear hF hS
  clear T
  rintro v T W1 ⟨a36, c36, rfl, hS⟩ hF
  try clear W
  obtain ⟨W, rfl⟩ : ∃ x, x = W1 := ⟨_, rfl⟩
  replace hS : Sx w [(g35, .cells #[.int .u8 109, .int .u8 109] 5 (0, 0)), (g33, .cells #[.slice (some ⟨g26, 0, none⟩) (sb nm).length c26, .slice (some ⟨g29, 0, none⟩) (sb rd).length c29, .slice (some ⟨g32, 0, none⟩) (sb vl).length c32] 26 (0, 0)), (g9, .cells #[.int .u8 82] 5 (0, 0)), (g1, .cells (deedc (⟨2, nm, vl, rd, cm⟩ : Dd)) 25 (0, 0))] [xown w (.slice a36 ((([82] ++ pws [sb nm, sb rd, sb vl]) ++ [109, 109]).length) c36) (([82] ++ pws [sb nm, sb rd, sb vl]) ++ [109, 109]), xps (fun b => b = g32) (.slice (some ⟨g32, 0, none⟩) (sb vl).length c32) (sb vl), xps (fun b => b = g29) (.slice (some ⟨g29, 0, none⟩) (sb rd).length c29) (sb rd), xps (fun b => b = g26) (.slice (some ⟨g26, 0, none⟩) (sb nm).length c26) (sb nm)] W := hS
  replace hF : Fr 50 ⟨T, []⟩ [(36, .slice a36 ((([82] ++ pws [sb nm, sb rd, sb vl]) ++ [109, 109]).length) (c36))] := hF.pick [0]
  refine so_as hF 0 ?_; clear hF T; intro T hF
  refine wpList_nil ?_
  refine then_normal ?_
  refine wp_ret ?_
  refine block_ret ?_
  refine then_ret ?_
  refine bodyPost_ret (v := .slice a36 ((([82] ++ pws [sb nm, sb rd, sb vl]) ++ [109, 109]).length) (c36)) (results_t1 Try.results11 (hF.ev 0 rfl)) rfl ?_
  exact ⟨_, rfl, hS.padr 0 rfl⟩
set_option maxRecDepth 100000 in
set_option maxHeartbeats 4000000 in
theorem lb_words3 (nm vl rd : ByteArray) (cm : List Nat) (_hl : cm.length = 20) (z1 : (sb nm).length ≤ 100000000) (z2 : (sb vl).length ≤ 100000000) (_z3 : (sb rd).length ≤ 100000000) (w : World) : Calls Try.prog 11 #[.agg (deedc ⟨3, nm, vl, rd, cm⟩)] w fun e w' => ∃ v', e = .returned v' ∧ PadR w v' (⟨3, nm, vl, rd, cm⟩ : Dd).words w' := by
  have S0 := Sx.nil w
  have sk : Try.f11.body = some (.seq (rgn Try.f11 0) (.seq (rgn Try.f11 1) (.seq (.seq (rgn Try.f11 2) (.block 0 (.seq (rgn Try.f11 3) (.cond (.tmp 12) (.seq (rgn Try.f11 4) .ret) (.seq (rgn Try.f11 5) (.cond (.tmp 21) (.seq (rgn Try.f11 6) .ret) (.seq (rgn Try.f11 7) (.cond (.tmp 37) (.seq (rgn Try.f11 8) .ret) .skip)))))))) (.seq (rgn Try.f11 9) .ret)))) := by kernel_rfl
  refine enter 50 [(0, .agg (deedc (⟨3, nm, vl, rd, cm⟩ : Dd)))] Try.func11 sk (by rfl) rfl S0 (fun T W hF hS => ?_)
  clear sk S0
  refine wp_seq ?_
  conv => arg 2; whnf
  refine wp_region_lit ?_
  refine so_step hF rfl (wanted_none rfl _) (by decide) rfl (fun v W' => ∃ g, (.pointer (some ⟨g, 0, none⟩) : Value) = v ∧ w.heap.size ≤ g ∧ Sx w ((g, .cells (deedc (⟨3, nm, vl, rd, cm⟩ : Dd)) 25 (0, 0)) :: []) [] W') (fun K hK => ?_) ?_
  next =>
   have f0 := hF.ev 0 rfl
   go_simp
   exact hK.out _ _ ⟨_, rfl, hS.below.size, hS.alloc _⟩
  clear hS
  clear hF
  clear T
  rintro v T W1 ⟨g1, rfl, hg1, hS⟩ hF
  try clear W
  obtain ⟨W, rfl⟩ : ∃ x, x = W1 := ⟨_, rfl⟩
  refine so_p hF (.slice none 0 0) (fun K hK => wp_assign rfl rfl hK) ?_; clear hF T; intro T hF
  refine wpList_nil ?_
  refine then_normal ?_
  refine wp_seq ?_
  conv => arg 2; whnf
  refine wp_region_lit ?_
  refine so_pure hF rfl (wanted_none rfl _) (by decide) rfl (.pointer (some ⟨g1, 0, none⟩)) (fun K hK => ?_) ?_
  next =>
   have f1 := hF.ev 1 rfl
   go_simp
   exact hK.out
  clear hF
  clear T
  intro T hF
  refine so_pure hF rfl (wanted_none rfl _) (by decide) rfl (.int .i64 3) (fun K hK => ?_) ?_
  next =>
   exact wp_ld rfl (hF.op 0 rfl) Try.underlying3 rfl (hS.cell 0 rfl rfl) hK
  clear hF
  clear T
  intro T hF
  refine so_p hF (.int .u8 3) (fun K hK => wp_int rfl (hF.op 0 rfl) Try.underlying3 Try.underlying5 (3) (by rw [IntKind.wrap_u8]; omega) hK) ?_; clear hF T; intro T hF
  refine so_p hF (.int .u8 84) (fun K hK => wp_add rfl rfl (hF.op 0 rfl) (84) (by rw [IntKind.wrap_u8]; omega) hK) ?_; clear hF T; intro T hF
  refine so_p hF (.int .u8 83) (fun K hK => wp_sub rfl (hF.op 0 rfl) rfl (83) (by rw [IntKind.wrap_u8]; omega) hK) ?_; clear hF T; intro T hF
  refine so_step hF rfl (wanted_none rfl _) (by decide) rfl (fun v W' => ∃ g, (.slice (some ⟨g, 0, none⟩) 1 1 : Value) = v ∧ w.heap.size ≤ g ∧ Sx w ((g, .cells #[.int .u8 83] 5 (0, 0)) :: [(g1, .cells (deedc (⟨3, nm, vl, rd, cm⟩ : Dd)) 25 (0, 0))]) [] W') (fun K hK => ?_) ?_
  next =>
   have f8 := hF.ev 0 rfl
   go_simp
   exact hK.out _ _ ⟨_, rfl, hS.below.size, hS.alloc _⟩
  clear hS
  clear hF
  clear T
  rintro v T W1 ⟨g9, rfl, hg9, hS⟩ hF
  try clear W
  obtain ⟨W, rfl⟩ : ∃ x, x = W1 := ⟨_, rfl⟩
  refine so_as hF 0 ?_; clear hF T; intro T hF
  refine wpList_nil ?_
  refine then_normal ?_
  refine wp_seq ?_
  refine wp_seq ?_
  conv => arg 2; whnf
  refine wp_region_lit ?_
  refine so_pure hF rfl (wanted_none rfl _) (by decide) rfl (.pointer (some ⟨g1, 0, none⟩)) (fun K hK => ?_) ?_
  next =>
   have f1 := hF.ev 8 rfl
   go_simp
   exact hK.out
  clear hF
  clear T
  intro T hF
  refine so_pure hF rfl (wanted_none rfl _) (by decide) rfl (.int .i64 3) (fun K hK => ?_) ?_
  next =>
   exact wp_ld rfl (hF.op 0 rfl) Try.underlying3 rfl (hS.cell 1 rfl rfl) hK
  clear hF
  clear T
  intro T hF
  refine wpList_nil ?_
  refine then_normal ?_
  refine wp_block ?_
  refine wp_seq ?_
  conv => arg 2; whnf
  refine wp_region_lit ?_
  refine so_p hF (.bool false) (fun K hK => wp_eql_f rfl (hF.op 0 rfl) rfl (by omega) hK) ?_; clear hF T; intro T hF
  refine so_as hF 0 ?_; clear hF T; intro T hF
  refine wpList_nil ?_
  refine then_normal ?_
  refine wp_cond_false (hF.op 0 rfl) ?_
  refine wp_seq ?_
  conv => arg 2; whnf
  refine wp_region_lit ?_
  refine so_p hF (.bool false) (fun K hK => wp_eql_f rfl (hF.op 2 rfl) rfl (by omega) hK) ?_; clear hF T; intro T hF
  refine so_as hF 0 ?_; clear hF T; intro T hF
  refine wpList_nil ?_
  refine then_normal ?_
  refine wp_cond_false (hF.op 0 rfl) ?_
  refine wp_seq ?_
  conv => arg 2; whnf
  refine wp_region_lit ?_
  refine so_p hF (.bool true) (fun K hK => wp_eql_t rfl (hF.op 4 rfl) rfl (by omega) hK) ?_; clear hF T; intro T hF
  refine so_as hF 0 ?_; clear hF T; intro T hF
  refine wpList_nil ?_
  refine then_normal ?_
  refine wp_cond_true (hF.op 0 rfl) ?_
  refine wp_seq ?_
  have hpw := pws_le [sb nm, sb vl]
  simp only [List.flatten_cons, List.flatten_nil, List.length_append, List.length_nil, List.length_cons] at hpw
  conv => arg 2; whnf
  refine wp_region_lit ?_
  refine so_mv hF 8 ?_; clear hF T; intro T hF
  refine so_pure hF rfl (wanted_none rfl _) (by decide) rfl (.pointer (some ⟨g1, 1, none⟩)) (fun K hK => ?_) ?_
  next =>
   have f1 := hF.ev 17 rfl
   go_simp
   exact hK.out
  clear hF
  clear T
  intro T hF
  refine so_pure hF rfl (wanted_none rfl _) (by decide) rfl (.string nm) (fun K hK => ?_) ?_
  next =>
   exact wp_ld rfl (hF.op 0 rfl) Try.underlying9 rfl (hS.cell 1 rfl rfl) hK
  clear hF
  clear T
  intro T hF
  refine so_step hF rfl (wanted_none rfl _) (by decide) rfl (fun v W' => ∃ gq cq, .slice (some ⟨gq, 0, none⟩) (sb nm).length cq = v ∧ w.heap.size ≤ gq ∧ Sx w [(g9, .cells #[.int .u8 83] 5 (0, 0)), (g1, .cells (deedc (⟨3, nm, vl, rd, cm⟩ : Dd)) 25 (0, 0))] [xps (fun b => b = gq) (.slice (some ⟨gq, 0, none⟩) (sb nm).length cq) (sb nm)] W') (fun K hK => wp_bytes hS rfl (hF.op 0 rfl) (fun g c W' h1 _ h2 => hK.out _ _ ⟨g, c, rfl, h1, h2⟩)) ?_
  clear hF hS
  clear T
  rintro v T W1 ⟨g42, c42, rfl, hg42, hS⟩ hF
  try clear W
  obtain ⟨W, rfl⟩ : ∃ x, x = W1 := ⟨_, rfl⟩
  refine so_pure hF rfl (wanted_none rfl _) (by decide) rfl (.pointer (some ⟨g1, 2, none⟩)) (fun K hK => ?_) ?_
  next =>
   have f1 := hF.ev 20 rfl
   go_simp
   exact hK.out
  clear hF
  clear T
  intro T hF
  refine so_pure hF rfl (wanted_none rfl _) (by decide) rfl (.string vl) (fun K hK => ?_) ?_
  next =>
   exact wp_ld rfl (hF.op 0 rfl) Try.underlying9 rfl (hS.cell 1 rfl rfl) hK
  clear hF
  clear T
  intro T hF
  refine so_step hF rfl (wanted_none rfl _) (by decide) rfl (fun v W' => ∃ gq cq, .slice (some ⟨gq, 0, none⟩) (sb vl).length cq = v ∧ w.heap.size ≤ gq ∧ Sx w [(g9, .cells #[.int .u8 83] 5 (0, 0)), (g1, .cells (deedc (⟨3, nm, vl, rd, cm⟩ : Dd)) 25 (0, 0))] [xps (fun b => b = gq) (.slice (some ⟨gq, 0, none⟩) (sb vl).length cq) (sb vl), xps (fun b => b = g42) (.slice (some ⟨g42, 0, none⟩) (sb nm).length c42) (sb nm)] W') (fun K hK => wp_bytes hS rfl (hF.op 0 rfl) (fun g c W' h1 _ h2 => hK.out _ _ ⟨g, c, rfl, h1, h2⟩)) ?_
  clear hF hS
  clear T
  rintro v T W1 ⟨g45, c45, rfl, hg45, hS⟩ hF
  try clear W
  obtain ⟨W, rfl⟩ : ∃ x, x = W1 := ⟨_, rfl⟩
  refine so_step hF rfl (wanted_none rfl _) (by decide) rfl (fun v W' => ∃ g, (.slice (some ⟨g, 0, none⟩) 2 2 : Value) = v ∧ w.heap.size ≤ g ∧ Sx w ((g, .cells #[.slice (some ⟨g42, 0, none⟩) (sb nm).length c42, .slice (some ⟨g45, 0, none⟩) (sb vl).length c45] 26 (0, 0)) :: [(g9, .cells #[.int .u8 83] 5 (0, 0)), (g1, .cells (deedc (⟨3, nm, vl, rd, cm⟩ : Dd)) 25 (0, 0))]) [xps (fun b => b = g45) (.slice (some ⟨g45, 0, none⟩) (sb vl).length c45) (sb vl), xps (fun b => b = g42) (.slice (some ⟨g42, 0, none⟩) (sb nm).length c42) (sb nm)] W') (fun K hK => ?_) ?_
  next =>
   have f42 := hF.ev 3 rfl
   have f45 := hF.ev 0 rfl
   go_simp
   exact hK.out _ _ ⟨_, rfl, hS.below.size, hS.alloc _⟩
  clear hS
  clear hF
  clear T
  rintro v T W1 ⟨g46, rfl, hg46, hS⟩ hF
  try clear W
  obtain ⟨W, rfl⟩ : ∃ x, x = W1 := ⟨_, rfl⟩
  refine so_step hF rfl (wanted_none rfl _) (by decide) rfl (fun v W' => ∃ aq cq, .slice aq (([83] ++ pws [sb nm, sb vl]).length) cq = v ∧ Sx w [(g46, .cells #[.slice (some ⟨g42, 0, none⟩) (sb nm).length c42, .slice (some ⟨g45, 0, none⟩) (sb vl).length c45] 26 (0, 0)), (g9, .cells #[.int .u8 83] 5 (0, 0)), (g1, .cells (deedc (⟨3, nm, vl, rd, cm⟩ : Dd)) 25 (0, 0))] [xown w (.slice aq (([83] ++ pws [sb nm, sb vl]).length) cq) ([83] ++ pws [sb nm, sb vl]), xps (fun b => b = g45) (.slice (some ⟨g45, 0, none⟩) (sb vl).length c45) (sb vl), xps (fun b => b = g42) (.slice (some ⟨g42, 0, none⟩) (sb nm).length c42) (sb nm)] W') (fun K hK => ?_) ?_
  next =>
   refine wp_call rfl Try.func21 (by kernel_rfl) (ev2 (hF.op 7 rfl) (hF.op 0 rfl)) ?_
   refine (push_c _ _ [83] [sb nm, sb vl] _ (row_piece (l := [83]) (hS.at 1 rfl) rfl rfl) (pcs2 (hS.at 0 rfl) (hS.ps 1 rfl) (hS.ps 0 rfl)) (by simp only [List.length_nil, List.length_cons]; omega) (by simp)).mono ?_
   rintro e W2 ⟨v', rfl, hp⟩
   obtain ⟨aq, cq, rfl⟩ := hp.rest.shape
   exact ⟨_, rfl, hK.out _ _ ⟨_, _, rfl, hS.gave hp⟩⟩
  clear hF hS
  clear T
  rintro v T W1 ⟨a47, c47, rfl, hS⟩ hF
  try clear W
  obtain ⟨W, rfl⟩ : ∃ x, x = W1 := ⟨_, rfl⟩
  refine so_step hF rfl (wanted_none rfl _) (by decide) rfl (fun v W' => ∃ g, (.slice (some ⟨g, 0, none⟩) 2 2 : Value) = v ∧ w.heap.size ≤ g ∧ Sx w ((g, .cells #[.int .u8 109, .int .u8 117] 5 (0, 0)) :: [(g46, .cells #[.slice (some ⟨g42, 0, none⟩) (sb nm).length c42, .slice (some ⟨g45, 0, none⟩) (sb vl).length c45] 26 (0, 0)), (g9, .cells #[.int .u8 83] 5 (0, 0)), (g1, .cells (deedc (⟨3, nm, vl, rd, cm⟩ : Dd)) 25 (0, 0))]) [xown w (.slice a47 (([83] ++ pws [sb nm, sb vl]).length) c47) ([83] ++ pws [sb nm, sb vl]), xps (fun b => b = g45) (.slice (some ⟨g45, 0, none⟩) (sb vl).length c45) (sb vl), xps (fun b => b = g42) (.slice (some ⟨g42, 0, none⟩) (sb nm).length c42) (sb nm)] W') (fun K hK => ?_) ?_
  next =>
   go_simp
   exact hK.out _ _ ⟨_, rfl, hS.below.size, hS.alloc _⟩
  clear hS
  clear hF
  clear T
  rintro v T W1 ⟨g48, rfl, hg48, hS⟩ hF
  try clear W
  obtain ⟨W, rfl⟩ : ∃ x, x = W1 := ⟨_, rfl⟩
  refine so_step hF rfl (wanted_none rfl _) (by decide) rfl (fun v W' => ∃ aq cq, .slice aq ((([83] ++ pws [sb nm, sb vl]) ++ [109, 117]).length) cq = v ∧ Sx w [(g48, .cells #[.int .u8 109, .int .u8 117] 5 (0, 0)), (g46, .cells #[.slice (some ⟨g42, 0, none⟩) (sb nm).length c42, .slice (some ⟨g45, 0, none⟩) (sb vl).length c45] 26 (0, 0)), (g9, .cells #[.int .u8 83] 5 (0, 0)), (g1, .cells (deedc (⟨3, nm, vl, rd, cm⟩ : Dd)) 25 (0, 0))] (List.set [xown w (.slice a47 (([83] ++ pws [sb nm, sb vl]).length) c47) ([83] ++ pws [sb nm, sb vl]), xps (fun b => b = g45) (.slice (some ⟨g45, 0, none⟩) (sb vl).length c45) (sb vl), xps (fun b => b = g42) (.slice (some ⟨g42, 0, none⟩) (sb nm).length c42) (sb nm)] 0 (xown w v (([83] ++ pws [sb nm, sb vl]) ++ [109, 117]))) W') (fun K hK => ?_) ?_
  next =>
   refine wp_app hS 0 (.tmp 47) (.tmp 48) rfl (hF.op 1 rfl) (hF.op 0 rfl) rfl (src_row (l := [109, 117]) (hS.at 0 rfl) rfl rfl) (by first | omega | (simp; omega)) (fun v' W' hS' => ?_)
   obtain ⟨a, c, e⟩ := (hS'.own 0 rfl).shape
   exact hK.out _ _ ⟨a, c, e.symm, hS'⟩
  clear hF hS
  clear T
  rintro v T W1 ⟨a49, c49, rfl, hS⟩ hF
  try clear W
  obtain ⟨W, rfl⟩ : ∃ x, x = W1 := ⟨_, rfl⟩
  replace hS : Sx w [(g48, .cells #[.int .u8 109, .int .u8 117] 5 (0, 0)), (g46, .cells #[.slice (some ⟨g42, 0, none⟩) (sb nm).length c42, .slice (some ⟨g45, 0, none⟩) (sb vl).length c45] 26 (0, 0)), (g9, .cells #[.int .u8 83] 5 (0, 0)), (g1, .cells (deedc (⟨3, nm, vl, rd, cm⟩ : Dd)) 25 (0, 0))] [xown w (.slice a49 ((([83] ++ pws [sb nm, sb vl]) ++ [109, 117]).length) c49) (([83] ++ pws [sb nm, sb vl]) ++ [109, 117]), xps (fun b => b = g45) (.slice (some ⟨g45, 0, none⟩) (sb vl).length c45) (sb vl), xps (fun b => b = g42) (.slice (some ⟨g42, 0, none⟩) (sb nm).length c42) (sb nm)] W := hS
  replace hF : Fr 50 ⟨T, []⟩ [(49, .slice a49 ((([83] ++ pws [sb nm, sb vl]) ++ [109, 117]).length) (c49))] := hF.pick [0]
  refine so_as hF 0 ?_; clear hF T; intro T hF
  refine wpList_nil ?_
  refine then_normal ?_
  refine wp_ret ?_
  refine block_ret ?_
  refine then_ret ?_
  refine bodyPost_ret (v := .slice a49 ((([83] ++ pws [sb nm, sb vl]) ++ [109, 117]).length) (c49)) (results_t1 Try.results11 (hF.ev 0 rfl)) rfl ?_
  exact ⟨_, rfl, hS.padr 0 rfl⟩
theorem lb_words (d : Dd) (h0 : 0 ≤ d.kd) (h3 : d.kd ≤ 3) (hl : d.cm.length = 20) (z1 : (sb d.nm).length ≤ 100000000) (z2 : (sb d.vl).length ≤ 100000000) (z3 : (sb d.rd).length ≤ 100000000) (w : World) : Calls Try.prog 11 #[.agg (deedc d)] w fun e w' => ∃ v', e = .returned v' ∧ PadR w v' d.words w' := by
  obtain ⟨k, nm, vl, rd, cm⟩ := d
  simp only at h0 h3 hl z1 z2 z3
  obtain rfl | rfl | rfl | rfl : k = 0 ∨ k = 1 ∨ k = 2 ∨ k = 3 := by omega
  · exact lb_words0 nm vl rd cm hl z1 z2 z3 w
  · exact lb_words1 nm vl rd cm hl z1 z2 z3 w
  · exact lb_words2 nm vl rd cm hl z1 z2 z3 w
  · exact lb_words3 nm vl rd cm hl z1 z2 z3 w
theorem Dd.words_le (d : Dd) (hl : d.cm.length = 20) : d.words.length ≤ d.nm.size + d.vl.size + d.rd.size + 40 := by
  unfold Dd.words
  have h1 := pws_le [d.cm]; have h2 := pws_le [sb d.nm, sb d.rd, sb d.vl]; have h3 := pws_le [sb d.nm, sb d.vl]
  simp only [List.flatten_cons, List.flatten_nil, List.length_append, List.length_nil, List.length_cons, sb_len, hl] at h1 h2 h3
  split
  · simp only [List.length_append, List.length_cons, List.length_nil]; omega
  · split
    · simp only [List.length_append, List.length_cons, List.length_nil]; omega
    · split
      · simp only [List.length_append, List.length_cons, List.length_nil]; omega
      · simp
end Go.Proofs.Ytljcaegcbcikiaa
namespace Go.Proofs.Ytljcaegcbcikiaa
namespace Sc
/-- Does a code push? -/
def pushes (c : Nat) : Bool := decide (c ≤ 77) || (decide (81 ≤ c) && decide (c ≤ 96))
/-- Is a piece true? -/
def tr (x : List Nat) : Bool := x.any fun y => y != 0
def truth (b : Bool) : List Nat := if b = true then [1] else []
/-- A number in as few bytes as may be. -/
def lenb (n : Nat) : List Nat := if n = 0 then [] else if n < 256 then [n] else [n % 256, n / 256]
def hsum (x : List Nat) : List Nat := sha x
def hshort (x : List Nat) : List Nat := (sha (sha x)).take 20
/-- The stack, the upmost piece first, and of each branch, the inmost first, whether it is gone. -/
structure St where
  stack : List (List Nat)
  ways : List Bool
def goes (ws : List Bool) : Bool := ws.all fun b => b
/-- How many pieces a word needs. -/
def needs (c : Nat) : Option Nat :=
  if c = 97 ∨ c = 106 then some 0
  else if c = 105 ∨ c = 117 ∨ c = 118 ∨ c = 130 ∨ c = 168 ∨ c = 169 then some 1
  else if c = 109 ∨ c = 120 ∨ c = 124 ∨ c = 135 ∨ c = 136 ∨ c = 172 ∨ c = 173 then some 2
  else none
section
variable (sg : List Nat → List Nat → Bool)
/-- What a word does that isn't a push, nor of a branch. -/
def act (c : Nat) (st : List (List Nat)) : Except Nat (List (List Nat)) :=
  if c = 105 then (if tr (st.headD []) = true then .ok st.tail else .error 74)
  else if c = 106 then .error 74
  else if c = 117 then .ok st.tail
  else if c = 109 then .ok st.tail.tail
  else if c = 118 then .ok (st.headD [] :: st)
  else if c = 120 then .ok (st.tail.headD [] :: st)
  else if c = 124 then .ok (st.tail.headD [] :: st.headD [] :: st.tail.tail)
  else if c = 130 then .ok (lenb (st.headD []).length :: st)
  else if c = 168 then .ok (hsum (st.headD []) :: st.tail)
  else if c = 169 then .ok (hshort (st.headD []) :: st.tail)
  else if c = 135 then .ok (truth (decide (st.headD [] = st.tail.headD [])) :: st.tail.tail)
  else if c = 136 then (if st.headD [] = st.tail.headD [] then .ok st.tail.tail else .error 74)
  else if c = 172 then .ok (truth (sg (st.headD []) (st.tail.headD [])) :: st.tail.tail)
  else if c = 173 then (if sg (st.headD []) (st.tail.headD []) = true then .ok st.tail.tail else .error 74)
  else .ok st
def op (c : Nat) (st : List (List Nat)) : Except Nat (List (List Nat)) :=
  match needs c with
  | none => .error 71
  | some n => if st.length < n then .error 72 else act sg c st
/-- A word of branches. -/
def branch (c : Nat) (s : St) : Except Nat St :=
  if c = 99 ∨ c = 100 then
    if goes s.ways = true then match s.stack with
      | [] => .error 72
      | x :: r => .ok ⟨r, (tr x == decide (c = 99)) :: s.ways⟩
    else .ok ⟨s.stack, false :: s.ways⟩
  else match s.ways with
    | [] => .error 71
    | b :: ws => .ok ⟨s.stack, if c = 103 then (!b) :: ws else ws⟩
def isBr (c : Nat) : Bool := decide (c = 99 ∨ c = 100 ∨ c = 103 ∨ c = 104)
/-- A word: how many were none that push, and what is then. -/
def word (n : Nat) (s : St) (c : Nat) (d : List Nat) : Except Nat (Nat × St) :=
  if 520 < d.length then .error 73
  else if pushes c = true then
    if goes s.ways = true then (if 100 < s.stack.length + 1 then .error 73 else .ok (n, ⟨d :: s.stack, s.ways⟩)) else .ok (n, s)
  else if 100 < n + 1 then .error 73
  else if isBr c = true then (match branch c s with
    | .error e => .error e
    | .ok s' => .ok (n + 1, s'))
  else if goes s.ways = true then (match op sg c s.stack with
    | .error e => .error e
    | .ok st => if 100 < st.length then .error 73 else .ok (n + 1, ⟨st, s.ways⟩))
  else .ok (n + 1, s)
/-- A script's words, one by one. -/
def allF (pu : Bool) : Nat → Nat → St → List Nat → Except Nat St
  | 0, _, s, _ => if s.ways = [] then .ok s else .error 71
  | k + 1, n, s, b => if b = [] then (if s.ways = [] then .ok s else .error 71) else match nxt b with
    | none => .error 71
    | some (c, d, u) => if pu = true ∧ pushes c = false then .error 71 else match word sg n s c d with
      | .error e => .error e
      | .ok (n', s') => allF pu k n' s' (b.drop u)
def all (pu : Bool) (n : Nat) (s : St) (b : List Nat) : Except Nat St := allF sg pu b.length n s b
theorem allF_eq (pu : Bool) : ∀ (k : Nat) (n : Nat) (s : St) (b : List Nat), b.length ≤ k → allF sg pu k n s b = allF sg pu b.length n s b
  | 0, n, s, b, h => by
    have : b = [] := List.length_eq_zero_iff.1 (by omega)
    subst this; rfl
  | k + 1, n, s, b, h => by
    cases b with
    | nil => rfl
    | cons x l =>
      show allF sg pu (k + 1) n s (x :: l) = allF sg pu (l.length + 1) n s (x :: l)
      unfold allF
      rw [if_neg (by simp), if_neg (by simp)]
      cases hn : nxt (x :: l) with
      | none => rfl
      | some q =>
        obtain ⟨c, d, u⟩ := q
        dsimp only
        split
        · rfl
        · cases hw : word sg n s c d with
          | error e => rfl
          | ok q =>
            obtain ⟨n', s'⟩ := q
            dsimp only
            have hu := (nxt_le hn).1
            have hl : ((x :: l).drop u).length ≤ l.length := by rw [List.length_drop, List.length_cons]; omega
            rw [allF_eq pu k _ _ _ (by simp only [List.length_cons] at h; omega), allF_eq pu l.length _ _ _ hl]
theorem all_nil (pu : Bool) (n : Nat) (s : St) : all sg pu n s [] = if s.ways = [] then .ok s else .error 71 := rfl
theorem all_cons (pu : Bool) (n : Nat) (s : St) (b : List Nat) (h : b ≠ []) : all sg pu n s b = match nxt b with
    | none => .error 71
    | some (c, d, u) => if pu = true ∧ pushes c = false then .error 71 else match word sg n s c d with
      | .error e => .error e
      | .ok (n', s') => all sg pu n' s' (b.drop u) := by
  cases b with
  | nil => exact absurd rfl h
  | cons x l =>
    show allF sg pu (l.length + 1) n s (x :: l) = _
    unfold allF
    rw [if_neg (by simp)]
    cases hn : nxt (x :: l) with
    | none => rfl
    | some q =>
      obtain ⟨c, d, u⟩ := q
      dsimp only
      split
      · rfl
      · cases hw : word sg n s c d with
        | error e => rfl
        | ok q =>
          obtain ⟨n', s'⟩ := q
          dsimp only
          have hu := (nxt_le hn).1
          exact allF_eq sg pu l.length _ _ _ (by rw [List.length_drop, List.length_cons]; omega)
/-- What comes of a lock, and of what is to open it. -/
def run (u l : List Nat) : Nat :=
  if 2000 < u.length ∨ 2000 < l.length then 73
  else match all sg true 0 ⟨[], []⟩ u with
    | .error e => e
    | .ok s => match all sg false 0 s l with
      | .error e => e
      | .ok s' => match s'.stack with
        | [] => 74
        | x :: _ => if tr x = true then 0 else 74
end
/-- Pieces as they may lie on the stack. -/
def Fit (st : List (List Nat)) : Prop := ∀ x, x ∈ st → x.length ≤ 520 ∧ ∀ y, y ∈ x → y < 256
end Sc
end Go.Proofs.Ytljcaegcbcikiaa
