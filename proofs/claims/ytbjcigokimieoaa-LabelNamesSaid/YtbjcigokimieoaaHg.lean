/-
  A hasher in memory; New, Add.
-/
import Derived.Test.YtbjcigokimieoaaHf
import Derived.Deep.LoopGhost
import Derived.Great.Walk
namespace Go.Proofs.Ytbjcigokimieoaa
open Go.RowKit

/-- Eight words as cells, written out. -/
@[reducible] def st8 (st : List Nat) : Array Value := #[.int .u32 ((nth st 0 : Nat) : Int), .int .u32 ((nth st 1 : Nat) : Int), .int .u32 ((nth st 2 : Nat) : Int), .int .u32 ((nth st 3 : Nat) : Int), .int .u32 ((nth st 4 : Nat) : Int), .int .u32 ((nth st 5 : Nat) : Int), .int .u32 ((nth st 6 : Nat) : Int), .int .u32 ((nth st 7 : Nat) : Int)]
theorem agg8 (st : List Nat) (h : st.length = 8) : wcells .u32 st = st8 st := by
  match st, h with
  | [_, _, _, _, _, _, _, _], _ => rfl
/-- A hasher's row. -/
@[reducible] def hrow (st : List Nat) (v : Value) (m : Nat) : Obj := .cells #[.int .u32 ((nth st 0 : Nat) : Int), .int .u32 ((nth st 1 : Nat) : Int), .int .u32 ((nth st 2 : Nat) : Int), .int .u32 ((nth st 3 : Nat) : Int), .int .u32 ((nth st 4 : Nat) : Int), .int .u32 ((nth st 5 : Nat) : Int), .int .u32 ((nth st 6 : Nat) : Int), .int .u32 ((nth st 7 : Nat) : Int), v, .int .u64 ((m : Nat) : Int)] 80
@[reducible] def hptr (g : Nat) : Value := .pointer (some ⟨g, 0, none⟩)

theorem HL_len : HL.length = 8 := rfl

set_option maxHeartbeats 1000000 in
theorem new_c (w : World) : Calls Try.prog 35 #[] w fun e w' => ∃ hg, e = .returned (hptr hg) ∧ Hid (w'.heap[hg]? = some (hrow HL (.slice none 0 0) 0)) ∧ Hid (w.heap.size ≤ hg) ∧ Below w.heap.size w w' := by
  have CF : Hid (∀ W, Calls Try.prog 42 #[] W fun e w' => e = .returned (.agg #[.int .u32 1779033703, .int .u32 3144134277, .int .u32 1013904242, .int .u32 2773480762, .int .u32 1359893119, .int .u32 2600822924, .int .u32 528734635, .int .u32 1541459225]) ∧ Below W.heap.size W w') := fun W => by
    have := first_c W; rwa [← first_row] at this
  go_enter Try.func35, Try.ntmps35
  go_wp2_with fail
  refine (CF.out _).mono ?_
  rintro e W1 ⟨rfl, hb⟩
  have hs := hb.size
  have S1 := ((St.nil w).keep hb).alloc (hrow HL (.slice none 0 0) 0) _ rfl
  clear hb
  go_wp2_with fail
  go_ret
  exact ⟨_, rfl, S1.get (List.Mem.head _), hs, S1.below⟩

/-- A piece: bytes in a block of S. -/
def PieceS (W : World) (S : Nat → Prop) (xv : Value) (ys : List Nat) : Prop :=
  ((∃ a c, xv = .slice a 0 c) ∧ ys = []) ∨ ∃ b o c, S b ∧ xv = .slice (some ⟨b, o, none⟩) ys.length c ∧ ∀ i, i < ys.length → W.cell? ⟨b, o + i, none⟩ = some (.int .u8 ((nth ys i : Nat) : Int))
/-- .. below B. -/
@[reducible] def PieceV (W : World) (B : Nat) (xv : Value) (ys : List Nat) : Prop := PieceS W (fun b => b < B) xv ys
theorem PieceS.src {W : World} {S : Nat → Prop} {xv : Value} {ys : List Nat} (h : PieceS W S xv ys) : SrcB W xv ys := by
  rcases h with ⟨⟨a, c, rfl⟩, rfl⟩ | ⟨b, o, c, -, rfl, h⟩
  · cases a with
    | none => exact srcB_nil W c
    | some a => exact Src.ofSlice (w := W) Try.underlying22 a 0 c _ rfl (fun j u hj => by simp [bcells] at hj) (fun u hu => by simp [bcells] at hu)
  · exact srcB_slice W b o c ys h
theorem PieceS.shape {W : World} {S : Nat → Prop} {xv : Value} {ys : List Nat} (h : PieceS W S xv ys) : ∃ a c, xv = .slice a ys.length c := by
  rcases h with ⟨⟨a, c, rfl⟩, rfl⟩ | ⟨b, o, c, -, rfl, -⟩
  · exact ⟨_, _, rfl⟩
  · exact ⟨_, _, rfl⟩
theorem PieceV.src {W : World} {B : Nat} {xv : Value} {ys : List Nat} (h : PieceV W B xv ys) : SrcB W xv ys := PieceS.src h
theorem PieceV.shape {W : World} {B : Nat} {xv : Value} {ys : List Nat} (h : PieceV W B xv ys) : ∃ a c, xv = .slice a ys.length c := PieceS.shape h
/-- Pieces, in a list of S. -/
structure PcsS (W : World) (S : Nat → Prop) (lv : Value) (pss : List (List Nat)) : Prop where
  le : ∀ b, S b → b < W.heap.size
  shape : ((∃ a c, lv = .slice a 0 c) ∧ pss = []) ∨ ∃ lb lo c, S lb ∧ lv = .slice (some ⟨lb, lo, none⟩) pss.length c ∧ ∀ i ys, pss[i]? = some ys → ∃ xv, W.cell? ⟨lb, lo + i, none⟩ = some xv ∧ PieceS W S xv ys
@[reducible] def Pcs (W : World) (B : Nat) (lv : Value) (pss : List (List Nat)) : Prop := PcsS W (fun b => b < B) lv pss
theorem Keeps.cell {F : Nat → Prop} {W W' : World} (k : Keeps F W W') {b o : Nat} (hb : b < W.heap.size) (hF : ¬ F b) : W'.cell? ⟨b, o, none⟩ = W.cell? ⟨b, o, none⟩ := World.cell?_of_block (a := ⟨b, o, none⟩) (k.block b hb hF)
theorem PieceS.keep {W W' : World} {S : Nat → Prop} {xv : Value} {ys : List Nat} {F : Nat → Prop} (h : PieceS W S xv ys) (hS : ∀ b, S b → b < W.heap.size) (k : Keeps F W W') (hF : ∀ b, S b → ¬ F b) : PieceS W' S xv ys := by
  rcases h with h | ⟨b, o, c, hb, rfl, h⟩
  · exact Or.inl h
  · exact Or.inr ⟨b, o, c, hb, rfl, fun i hi => (k.cell (hS b hb) (hF b hb)).trans (h i hi)⟩
theorem PieceV.keep {W W' : World} {B : Nat} {xv : Value} {ys : List Nat} {F : Nat → Prop} (h : PieceV W B xv ys) (hB : B ≤ W.heap.size) (k : Keeps F W W') (hF : ∀ b, b < B → ¬ F b) : PieceV W' B xv ys := PieceS.keep h (fun _ hb => Nat.lt_of_lt_of_le hb hB) k hF
theorem PcsS.keep {W W' : World} {S : Nat → Prop} {lv : Value} {pss : List (List Nat)} {F : Nat → Prop} (h : PcsS W S lv pss) (k : Keeps F W W') (hF : ∀ b, S b → ¬ F b) : PcsS W' S lv pss := by
  refine ⟨fun b hb => Nat.lt_of_lt_of_le (h.le b hb) k.size, ?_⟩
  have hle := h.le
  rcases h.shape with h1 | ⟨lb, lo, c, hb, rfl, h2⟩
  · exact Or.inl h1
  · refine Or.inr ⟨lb, lo, c, hb, rfl, fun i ys hi => ?_⟩
    obtain ⟨xv, h3, h4⟩ := h2 i ys hi
    exact ⟨xv, (k.cell (hle lb hb) (hF lb hb)).trans h3, h4.keep hle k hF⟩
theorem Pcs.keep {W W' : World} {B : Nat} {lv : Value} {pss : List (List Nat)} {F : Nat → Prop} (h : Pcs W B lv pss) (k : Keeps F W W') (hF : ∀ b, b < B → ¬ F b) : Pcs W' B lv pss := PcsS.keep h k hF

/-- A hasher that has had these bytes. v: its rest. -/
structure HasherV (W : World) (hg : Nat) (v : Value) (bs : List Nat) : Prop where
  row : W.heap[hg]? = some (hrow (runB HL bs (bs.length / 64)) v bs.length)
  rest : RestV W v (bs.drop (64 * (bs.length / 64)))
/-- In the midst: n pieces are mixed in. -/
structure HMid (W : World) (hg : Nat) (v : Value) (bs : List Nat) (n : Nat) : Prop where
  le : 64 * n ≤ bs.length
  row : W.heap[hg]? = some (hrow (runB HL bs n) v bs.length)
  rest : RestV W v (bs.drop (64 * n))
theorem HMid.done {W : World} {hg : Nat} {v : Value} {bs : List Nat} {n : Nat} (h : HMid W hg v bs n) (hl : bs.length < 64 * n + 64) : HasherV W hg v bs := by
  have hle := h.le
  have e : bs.length / 64 = n := by omega
  exact ⟨by rw [e]; exact h.row, by rw [e]; exact h.rest⟩
theorem runB_more (bs ys : List Nat) (n : Nat) (h : 64 * n ≤ bs.length) : runB HL (bs ++ ys) n = runB HL bs n := runB_congr HL _ _ n (fun i hi => nth_append_left _ _ _ (by omega))

theorem hrow_at {W : World} {hg : Nat} {st : List Nat} {v : Value} {m : Nat} (h : W.heap[hg]? = some (hrow st v m)) : (W.cell? ⟨hg, 0, none⟩ = some (.int .u32 ((nth st 0 : Nat) : Int)) ∧ W.cell? ⟨hg, 1, none⟩ = some (.int .u32 ((nth st 1 : Nat) : Int)) ∧ W.cell? ⟨hg, 2, none⟩ = some (.int .u32 ((nth st 2 : Nat) : Int)) ∧ W.cell? ⟨hg, 3, none⟩ = some (.int .u32 ((nth st 3 : Nat) : Int)) ∧
    W.cell? ⟨hg, 4, none⟩ = some (.int .u32 ((nth st 4 : Nat) : Int)) ∧ W.cell? ⟨hg, 5, none⟩ = some (.int .u32 ((nth st 5 : Nat) : Int)) ∧ W.cell? ⟨hg, 6, none⟩ = some (.int .u32 ((nth st 6 : Nat) : Int)) ∧ W.cell? ⟨hg, 7, none⟩ = some (.int .u32 ((nth st 7 : Nat) : Int)) ∧ W.cell? ⟨hg, 8, none⟩ = some v ∧ W.cell? ⟨hg, 9, none⟩ = some (.int .u64 ((m : Nat) : Int))) ∧ ∀ i, W.frozen? ⟨hg, i, none⟩ = false :=
  ⟨⟨(cell_of_row _ _ _ _ _ _ h).trans rfl, (cell_of_row _ _ _ _ _ _ h).trans rfl, (cell_of_row _ _ _ _ _ _ h).trans rfl, (cell_of_row _ _ _ _ _ _ h).trans rfl, (cell_of_row _ _ _ _ _ _ h).trans rfl, (cell_of_row _ _ _ _ _ _ h).trans rfl, (cell_of_row _ _ _ _ _ _ h).trans rfl, (cell_of_row _ _ _ _ _ _ h).trans rfl, (cell_of_row _ _ _ _ _ _ h).trans rfl, (cell_of_row _ _ _ _ _ _ h).trans rfl⟩, fun i => frozen_of_row W hg i _ _ h⟩
theorem hrow_set9 {W : World} {hg : Nat} {st : List Nat} {v : Value} {m : Nat} (h : W.heap[hg]? = some (hrow st v m)) (m' : Nat) : (W.setCell ⟨hg, 9, none⟩ (.int .u64 ((m' : Nat) : Int))).heap[hg]? = some (hrow st v m') := heap_setCell_same W hg 9 _ _ (.int .u64 ((m' : Nat) : Int)) h
theorem hrow_set8 {W : World} {hg : Nat} {st : List Nat} {v : Value} {m : Nat} (h : W.heap[hg]? = some (hrow st v m)) (v' : Value) : (W.setCell ⟨hg, 8, none⟩ v').heap[hg]? = some (hrow st v' m) := heap_setCell_same W hg 8 _ _ v' h
theorem hrow_set07 {W : World} {hg : Nat} {st : List Nat} {v : Value} {m : Nat} (h : W.heap[hg]? = some (hrow st v m)) (st' : List Nat) : ((((((((W.setCell ⟨hg, 0, none⟩ (.int .u32 ((nth st' 0 : Nat) : Int))).setCell ⟨hg, 1, none⟩ (.int .u32 ((nth st' 1 : Nat) : Int))).setCell ⟨hg, 2, none⟩ (.int .u32 ((nth st' 2 : Nat) : Int))).setCell ⟨hg, 3, none⟩ (.int .u32 ((nth st' 3 : Nat) : Int))).setCell ⟨hg, 4, none⟩ (.int .u32 ((nth st' 4 : Nat) : Int))).setCell ⟨hg, 5, none⟩ (.int .u32 ((nth st' 5 : Nat) : Int))).setCell ⟨hg, 6, none⟩ (.int .u32 ((nth st' 6 : Nat) : Int))).setCell ⟨hg, 7, none⟩ (.int .u32 ((nth st' 7 : Nat) : Int))).heap[hg]? = some (hrow st' v m) := by
  have h0 : (W.setCell ⟨hg, 0, none⟩ (.int .u32 ((nth st' 0 : Nat) : Int))).heap[hg]? = some (.cells #[.int .u32 ((nth st' 0 : Nat) : Int), .int .u32 ((nth st 1 : Nat) : Int), .int .u32 ((nth st 2 : Nat) : Int), .int .u32 ((nth st 3 : Nat) : Int), .int .u32 ((nth st 4 : Nat) : Int), .int .u32 ((nth st 5 : Nat) : Int), .int .u32 ((nth st 6 : Nat) : Int), .int .u32 ((nth st 7 : Nat) : Int), v, .int .u64 ((m : Nat) : Int)] 80 (0, 0)) := heap_setCell_same _ hg 0 _ _ (.int .u32 ((nth st' 0 : Nat) : Int)) h
  have h1 : ((W.setCell ⟨hg, 0, none⟩ (.int .u32 ((nth st' 0 : Nat) : Int))).setCell ⟨hg, 1, none⟩ (.int .u32 ((nth st' 1 : Nat) : Int))).heap[hg]? = some (.cells #[.int .u32 ((nth st' 0 : Nat) : Int), .int .u32 ((nth st' 1 : Nat) : Int), .int .u32 ((nth st 2 : Nat) : Int), .int .u32 ((nth st 3 : Nat) : Int), .int .u32 ((nth st 4 : Nat) : Int), .int .u32 ((nth st 5 : Nat) : Int), .int .u32 ((nth st 6 : Nat) : Int), .int .u32 ((nth st 7 : Nat) : Int), v, .int .u64 ((m : Nat) : Int)] 80 (0, 0)) := heap_setCell_same _ hg 1 _ _ (.int .u32 ((nth st' 1 : Nat) : Int)) h0
  have h2 : (((W.setCell ⟨hg, 0, none⟩ (.int .u32 ((nth st' 0 : Nat) : Int))).setCell ⟨hg, 1, none⟩ (.int .u32 ((nth st' 1 : Nat) : Int))).setCell ⟨hg, 2, none⟩ (.int .u32 ((nth st' 2 : Nat) : Int))).heap[hg]? = some (.cells #[.int .u32 ((nth st' 0 : Nat) : Int), .int .u32 ((nth st' 1 : Nat) : Int), .int .u32 ((nth st' 2 : Nat) : Int), .int .u32 ((nth st 3 : Nat) : Int), .int .u32 ((nth st 4 : Nat) : Int), .int .u32 ((nth st 5 : Nat) : Int), .int .u32 ((nth st 6 : Nat) : Int), .int .u32 ((nth st 7 : Nat) : Int), v, .int .u64 ((m : Nat) : Int)] 80 (0, 0)) := heap_setCell_same _ hg 2 _ _ (.int .u32 ((nth st' 2 : Nat) : Int)) h1
  have h3 : ((((W.setCell ⟨hg, 0, none⟩ (.int .u32 ((nth st' 0 : Nat) : Int))).setCell ⟨hg, 1, none⟩ (.int .u32 ((nth st' 1 : Nat) : Int))).setCell ⟨hg, 2, none⟩ (.int .u32 ((nth st' 2 : Nat) : Int))).setCell ⟨hg, 3, none⟩ (.int .u32 ((nth st' 3 : Nat) : Int))).heap[hg]? = some (.cells #[.int .u32 ((nth st' 0 : Nat) : Int), .int .u32 ((nth st' 1 : Nat) : Int), .int .u32 ((nth st' 2 : Nat) : Int), .int .u32 ((nth st' 3 : Nat) : Int), .int .u32 ((nth st 4 : Nat) : Int), .int .u32 ((nth st 5 : Nat) : Int), .int .u32 ((nth st 6 : Nat) : Int), .int .u32 ((nth st 7 : Nat) : Int), v, .int .u64 ((m : Nat) : Int)] 80 (0, 0)) := heap_setCell_same _ hg 3 _ _ (.int .u32 ((nth st' 3 : Nat) : Int)) h2
  have h4 : (((((W.setCell ⟨hg, 0, none⟩ (.int .u32 ((nth st' 0 : Nat) : Int))).setCell ⟨hg, 1, none⟩ (.int .u32 ((nth st' 1 : Nat) : Int))).setCell ⟨hg, 2, none⟩ (.int .u32 ((nth st' 2 : Nat) : Int))).setCell ⟨hg, 3, none⟩ (.int .u32 ((nth st' 3 : Nat) : Int))).setCell ⟨hg, 4, none⟩ (.int .u32 ((nth st' 4 : Nat) : Int))).heap[hg]? = some (.cells #[.int .u32 ((nth st' 0 : Nat) : Int), .int .u32 ((nth st' 1 : Nat) : Int), .int .u32 ((nth st' 2 : Nat) : Int), .int .u32 ((nth st' 3 : Nat) : Int), .int .u32 ((nth st' 4 : Nat) : Int), .int .u32 ((nth st 5 : Nat) : Int), .int .u32 ((nth st 6 : Nat) : Int), .int .u32 ((nth st 7 : Nat) : Int), v, .int .u64 ((m : Nat) : Int)] 80 (0, 0)) := heap_setCell_same _ hg 4 _ _ (.int .u32 ((nth st' 4 : Nat) : Int)) h3
  have h5 : ((((((W.setCell ⟨hg, 0, none⟩ (.int .u32 ((nth st' 0 : Nat) : Int))).setCell ⟨hg, 1, none⟩ (.int .u32 ((nth st' 1 : Nat) : Int))).setCell ⟨hg, 2, none⟩ (.int .u32 ((nth st' 2 : Nat) : Int))).setCell ⟨hg, 3, none⟩ (.int .u32 ((nth st' 3 : Nat) : Int))).setCell ⟨hg, 4, none⟩ (.int .u32 ((nth st' 4 : Nat) : Int))).setCell ⟨hg, 5, none⟩ (.int .u32 ((nth st' 5 : Nat) : Int))).heap[hg]? = some (.cells #[.int .u32 ((nth st' 0 : Nat) : Int), .int .u32 ((nth st' 1 : Nat) : Int), .int .u32 ((nth st' 2 : Nat) : Int), .int .u32 ((nth st' 3 : Nat) : Int), .int .u32 ((nth st' 4 : Nat) : Int), .int .u32 ((nth st' 5 : Nat) : Int), .int .u32 ((nth st 6 : Nat) : Int), .int .u32 ((nth st 7 : Nat) : Int), v, .int .u64 ((m : Nat) : Int)] 80 (0, 0)) := heap_setCell_same _ hg 5 _ _ (.int .u32 ((nth st' 5 : Nat) : Int)) h4
  have h6 : (((((((W.setCell ⟨hg, 0, none⟩ (.int .u32 ((nth st' 0 : Nat) : Int))).setCell ⟨hg, 1, none⟩ (.int .u32 ((nth st' 1 : Nat) : Int))).setCell ⟨hg, 2, none⟩ (.int .u32 ((nth st' 2 : Nat) : Int))).setCell ⟨hg, 3, none⟩ (.int .u32 ((nth st' 3 : Nat) : Int))).setCell ⟨hg, 4, none⟩ (.int .u32 ((nth st' 4 : Nat) : Int))).setCell ⟨hg, 5, none⟩ (.int .u32 ((nth st' 5 : Nat) : Int))).setCell ⟨hg, 6, none⟩ (.int .u32 ((nth st' 6 : Nat) : Int))).heap[hg]? = some (.cells #[.int .u32 ((nth st' 0 : Nat) : Int), .int .u32 ((nth st' 1 : Nat) : Int), .int .u32 ((nth st' 2 : Nat) : Int), .int .u32 ((nth st' 3 : Nat) : Int), .int .u32 ((nth st' 4 : Nat) : Int), .int .u32 ((nth st' 5 : Nat) : Int), .int .u32 ((nth st' 6 : Nat) : Int), .int .u32 ((nth st 7 : Nat) : Int), v, .int .u64 ((m : Nat) : Int)] 80 (0, 0)) := heap_setCell_same _ hg 6 _ _ (.int .u32 ((nth st' 6 : Nat) : Int)) h5
  have h7 : ((((((((W.setCell ⟨hg, 0, none⟩ (.int .u32 ((nth st' 0 : Nat) : Int))).setCell ⟨hg, 1, none⟩ (.int .u32 ((nth st' 1 : Nat) : Int))).setCell ⟨hg, 2, none⟩ (.int .u32 ((nth st' 2 : Nat) : Int))).setCell ⟨hg, 3, none⟩ (.int .u32 ((nth st' 3 : Nat) : Int))).setCell ⟨hg, 4, none⟩ (.int .u32 ((nth st' 4 : Nat) : Int))).setCell ⟨hg, 5, none⟩ (.int .u32 ((nth st' 5 : Nat) : Int))).setCell ⟨hg, 6, none⟩ (.int .u32 ((nth st' 6 : Nat) : Int))).setCell ⟨hg, 7, none⟩ (.int .u32 ((nth st' 7 : Nat) : Int))).heap[hg]? = some (.cells #[.int .u32 ((nth st' 0 : Nat) : Int), .int .u32 ((nth st' 1 : Nat) : Int), .int .u32 ((nth st' 2 : Nat) : Int), .int .u32 ((nth st' 3 : Nat) : Int), .int .u32 ((nth st' 4 : Nat) : Int), .int .u32 ((nth st' 5 : Nat) : Int), .int .u32 ((nth st' 6 : Nat) : Int), .int .u32 ((nth st' 7 : Nat) : Int), v, .int .u64 ((m : Nat) : Int)] 80 (0, 0)) := heap_setCell_same _ hg 7 _ _ (.int .u32 ((nth st' 7 : Nat) : Int)) h6
  exact h7
theorem hrow_cells8 {W : World} {hg : Nat} {st : List Nat} {v : Value} {m : Nat} (h : W.heap[hg]? = some (hrow st v m)) (st' : List Nat) : (W.setCells hg 0 (st8 st').toList).heap[hg]? = some (hrow st' v m) := hrow_set07 h st'
theorem hrow_there {W : World} {hg : Nat} {st : List Nat} {v : Value} {m : Nat} (h : W.heap[hg]? = some (hrow st v m)) (st' : List Nat) : W.there hg 0 (st8 st').size := fun j hj => by
  have hj8 : j < 8 := hj
  refine ⟨?_, frozen_of_row W hg _ _ _ h⟩
  rw [cell_of_row W hg (0 + j) _ _ _ h, Nat.zero_add, Array.getElem?_eq_getElem (show j < _ by simp; omega)]; rfl
theorem Keeps.setCells {F : Nat → Prop} {A : World} {g : Nat} (hF : F g ∨ A.heap.size ≤ g) : ∀ (l : List Value) (o : Nat) (W : World), Keeps F A W → Keeps F A (W.setCells g o l)
  | [], _, _, h => h
  | v :: l, o, _, h => Keeps.setCells hF l (o + 1) _ (h.setCell v hF)
theorem other_setCells {g b : Nat} (hne : b ≠ g) : ∀ (l : List Value) (o : Nat) (W : World), (W.setCells g o l).heap[b]? = W.heap[b]?
  | [], _, _ => rfl
  | v :: l, o, W => (other_setCells hne l (o + 1) _).trans (heap_setCell_other W ⟨g, o, none⟩ _ v hne)
/-- A rest lies in no hasher. -/
theorem RestV.ne {W : World} {hg : Nat} {st : List Nat} {v v' : Value} {m : Nat} {r : List Nat} (h : RestV W v r) (hr : W.heap[hg]? = some (hrow st v' m)) : v.ownBlock ≠ some hg := by
  rcases h with ⟨rfl, -⟩ | ⟨g, off, cap, cur, rfl, hgg, -⟩
  · simp [Value.ownBlock]
  · intro e
    simp [Value.ownBlock] at e
    subst e
    have := hgg.symm.trans hr
    simp at this

theorem rest_shift {W : World} {g off cap : Nat} {cur : Array Value} {r : List Nat} (hg : W.heap[g]? = some (.cells cur 5 (0, 0))) (h1 : r.length ≤ cap) (h2 : off + cap ≤ cur.size) (h3 : ∀ i, i < r.length → cur[off + i]? = some (.int .u8 ((nth r i : Nat) : Int))) :
    RestV W (.slice (some ⟨g, off + 64, none⟩) (r.length - 64) (cap - 64)) (r.drop 64) ∨ cap < 64 := by
  by_cases hc : cap < 64
  · exact Or.inr hc
  · refine Or.inl (Or.inr ⟨g, off + 64, cap - 64, cur, by rw [List.length_drop], hg, by rw [List.length_drop]; omega, by omega, fun i hi => ?_⟩)
    rw [List.length_drop] at hi
    rw [nth_drop, Nat.add_assoc]; exact h3 (64 + i) (by omega)
theorem rest_empty {W : World} {g off : Nat} {cur : Array Value} {r : List Nat} (hg : W.heap[g]? = some (.cells cur 5 (0, 0))) (h1 : r.length ≤ 64) (h2 : off + 64 ≤ cur.size) : RestV W (.slice (some ⟨g, off, none⟩) (r.length - 64) 0) (r.drop 64) :=
  Or.inr ⟨g, off, 0, cur, by rw [List.length_drop], hg, by rw [List.length_drop]; omega, by omega, fun i hi => by rw [List.length_drop] at hi; omega⟩

/-- Where a hasher writes. -/
def HF (hg : Nat) (v : Value) (b : Nat) : Prop := b = hg ∨ v.ownBlock = some b

/-- What Add's outer loop holds: k pieces are added. -/
structure AddInv (w : World) (B hg : Nat) (v0 : Value) (bs0 : List Nat) (pss : List (List Nat)) (k : Nat) (wr : World) : Prop where
  keeps : Keeps (HF hg v0) w wr
  now : ∃ v, HasherV wr hg v (bs0 ++ (pss.take k).flatten) ∧ ∀ b, v.ownBlock = some b → v0.ownBlock = some b ∨ w.heap.size ≤ b
/-- What its inner loop holds. -/
structure AddMid (w : World) (B hg : Nat) (v0 : Value) (bs : List Nat) (t : Nat) (wr : World) : Prop where
  keeps : Keeps (HF hg v0) w wr
  now : ∃ v n, HMid wr hg v bs n ∧ bs.length = 64 * n + t ∧ ∀ b, v.ownBlock = some b → v0.ownBlock = some b ∨ w.heap.size ≤ b

set_option maxRecDepth 100000 in
set_option maxHeartbeats 4000000 in
/-- Add. -/
theorem add_s (B : Nat) (S : Nat → Prop) (hg : Nat) (v0 lv : Value) (bs0 : List Nat) (pss : List (List Nat)) (w : World) (hh : HasherV w hg v0 bs0) (hp : PcsS w S lv pss) (hbg : ∀ b, S b → b ≠ hg) (hbv : ∀ b, v0.ownBlock = some b → ¬ S b) (hby : ∀ y, y ∈ bs0 ++ pss.flatten → y < 256)
    (hlen : (bs0 ++ pss.flatten).length ≤ 1000000000) (hpl : pss.length ≤ 1000000) :
    Calls Try.prog 36 #[hptr hg, lv] w fun e w' => e = .returned (.tuple #[]) ∧ Hid (AddInv w B hg v0 bs0 pss pss.length w') := by
  have I0 : Hid (AddInv w B hg v0 bs0 pss 0 w) := ⟨Keeps.refl _ _, v0, by simpa using hh, fun b hb => Or.inl hb⟩
  have HP := Lib.hid hp; have HBG := Lib.hid hbg; have HBV := Lib.hid hbv; have HBY := Lib.hid hby; have HLEN := Lib.hid hlen
  rcases hp.shape with ⟨⟨la, lc, rfl⟩, rfl⟩ | ⟨lb, lo, c, hlb, rfl, hel⟩
  · clear hh hp hbg hbv hby hlen
    go_enter Try.func36, Try.ntmps36
    go_wp2_with fail
    refine wp_loop_rounds 1 ?_
    rw [rounds_succ]; go_wp2
    exact Go.Great.bodyPost_end0 rfl rfl ⟨rfl, I0⟩
  · have HEL := Lib.hid hel
    have hpl' : (pss.length : Int) ≤ 1000000 := by omega
    clear hh hp hbg hbv hby hlen hel
    go_enter Try.func36, Try.ntmps36
    go_wp2_with fail
    go_loopw [8] (fun s wr => ∃ k : Nat, s = .int .i64 (k : Int) ∧ k ≤ pss.length ∧ Hid (AddInv w B hg v0 bs0 pss k wr)) (fun s _ => (pss.length - intOf s).toNat)
    case atStart => exact ⟨0, rfl, Nat.zero_le _, I0⟩
    case round =>
      obtain ⟨k, rfl, hk, HI⟩ := hrel
      by_cases hkn : k = pss.length
      · have hge : ¬ (k : Int) < pss.length := by omega
        go_wp2_with fail
        exact Go.Great.bodyPost_end0 rfl rfl ⟨rfl, by rw [← hkn]; exact HI⟩
      · have hlt : (k : Int) < pss.length := by omega
        obtain ⟨ys, hys⟩ : ∃ ys, pss[k]? = some ys := ⟨pss[k]'(by omega), List.getElem?_eq_getElem (by omega)⟩
        obtain ⟨v, hv, hvn⟩ := HI.out.now
        have hnF : ∀ b, S b → ¬ HF hg v0 b := fun b hb hf => by
          rcases hf with hf | hf
          · exact HBG.out b hb hf
          · exact HBV.out b hf hb
        have hP2 := HP.out.keep HI.out.keeps hnF
        obtain ⟨xv, hxc, hxp⟩ : ∃ xv, wr.cell? ⟨lb, lo + k, none⟩ = some xv ∧ PieceS wr S xv ys := by
          rcases hP2.shape with ⟨-, h1⟩ | ⟨lb', lo', c', -, h1, h2⟩
          · exfalso; rw [h1] at hk hkn; simp at hk hkn; omega
          · simp at h1
            obtain ⟨⟨rfl, rfl⟩, rfl⟩ := h1
            exact h2 k ys hys
        obtain ⟨xa, xc, rfl⟩ := hxp.shape
        have htk : (pss.take (k + 1)).flatten = (pss.take k).flatten ++ ys := by
          rw [List.take_add_one, hys]; simp
        have hdr : pss.flatten = (pss.take (k + 1)).flatten ++ (pss.drop (k + 1)).flatten := by rw [← List.flatten_append, List.take_append_drop]
        have hlen1 : (bs0 ++ (pss.take k).flatten).length + ys.length ≤ 1000000000 := by
          have := HLEN.out
          rw [hdr, htk] at this
          simp only [List.length_append] at this ⊢
          omega
        have hby1 : ∀ y, y ∈ (bs0 ++ (pss.take k).flatten) ++ ys → y < 256 := fun y hy => HBY.out y (by
          rw [hdr, htk]
          simp only [List.mem_append] at hy ⊢
          rcases hy with (hy | hy) | hy
          · exact Or.inl hy
          · exact Or.inr (Or.inl (Or.inl hy))
          · exact Or.inr (Or.inl (Or.inr hy)))
        have hnext : bs0 ++ (pss.take (k + 1)).flatten = (bs0 ++ (pss.take k).flatten) ++ ys := by rw [htk, List.append_assoc]
        obtain ⟨bs, hbs⟩ : ∃ bs, bs = bs0 ++ (pss.take k).flatten := ⟨_, rfl⟩
        rw [← hbs] at hlen1 hby1 hnext hv
        have hrow1 := hv.row; have hrest1 := hv.rest
        obtain ⟨n, hn⟩ : ∃ n, n = bs.length / 64 := ⟨_, rfl⟩
        have hn64 : 64 * n ≤ bs.length := by omega
        rw [← hn] at hrow1 hrest1
        have hst := (runB_more bs ys n hn64).symm
        have hdrop : (bs ++ ys).drop (64 * n) = bs.drop (64 * n) ++ ys := List.drop_append_of_le_length hn64
        obtain ⟨r, hr⟩ : ∃ r, r = bs.drop (64 * n) := ⟨_, rfl⟩
        have hrl : r.length ≤ bs.length := by rw [hr, List.length_drop]; omega
        rw [← hr] at hdrop hrest1
        obtain ⟨st, hste⟩ : ∃ st, st = runB HL bs n := ⟨_, rfl⟩
        rw [← hste] at hrow1 hst
        obtain ⟨⟨c0, c1, c2, c3, c4, c5, c6, c7, c8, c9⟩, fz⟩ := hrow_at hrow1
        have f8 := fz 8; have f9 := fz 9
        have hne := hrest1.ne hrow1
        obtain ⟨va, vc, hve⟩ := hrest1.shape
        subst hve
        have hhb := lt_of_block hrow1
        have hlbb : lb < wr.heap.size := World.block_lt_of_cell? _ _ hxc
        have hne2 : lb ≠ hg := HBG.out lb hlb
        have hm9 : (bs.length : Int) ≤ 1000000000 := by omega
        have hy9 : (ys.length : Int) ≤ 1000000000 := by omega
        -- the world behind 'many'
        have hrow2 : (wr.setCell ⟨hg, 9, none⟩ (.int .u64 ((bs.length : Int) + (ys.length : Int)))).heap[hg]? = some (hrow st (.slice va r.length vc) (bs.length + ys.length)) := by
          have := hrow_set9 hrow1 (bs.length + ys.length)
          rwa [show (((bs.length + ys.length : Nat)) : Int) = (bs.length : Int) + (ys.length : Int) by omega] at this
        have K1 : Keeps (fun b => b = hg) wr (wr.setCell ⟨hg, 9, none⟩ (.int .u64 ((bs.length : Int) + (ys.length : Int)))) := (Keeps.refl _ _).setCell _ (Or.inl rfl)
        have R1 := hrest1.keep K1 (fun g h1 h2 => hne (by rw [h1, h2]))
        have X1 := (hxp.keep hP2.le K1 (fun b hb h => HBG.out b hb h)).src
        have HR1 := Lib.hid R1; have HX1 := Lib.hid X1; have HROW2 := Lib.hid hrow2; have HK1 := Lib.hid K1
        have hk0 : (k : Int) ≤ 1000000 := by omega
        have HFST : Hid (st = runB HL (bs ++ ys) n) := hst
        have HBY1 := Lib.hid hby1; have HNEXT := Lib.hid hnext; have HDROP := Lib.hid hdrop; have HVN := Lib.hid hvn; have HNE := Lib.hid hne; have HN64 := Lib.hid hn64; have HRL : Hid (r.length + ys.length = (bs ++ ys).length - 64 * n) := by
          show r.length + ys.length = _
          rw [hr, List.length_drop, List.length_append]; omega
        clear hkn hys hv hvn hxp htk hdr hby1 hnext hbs hst hdrop hr hste hrow1 hrest1 c0 c1 c2 c3 c4 c5 c6 c7 fz hne R1 X1 hrow2 K1 hP2
        go_wp2_with (at_builtin; go_loud (refine wpList_app (by rfl) (.tmp 26) (.tmp 27) (by rfl) _ _ (by rfl) (by rfl) r ys HR1.out HX1.out (by omega) ?_; intro v2 W2 R2 K2 N2; obtain ⟨va2, vc2, e2⟩ := R2.shape; subst e2; have hrow3 := (K2.block hg (lt_of_block HROW2.out) HNE.out).trans HROW2.out; have hb3 := lt_of_block hrow3; have d8 := (hrow_at hrow3).1.2.2.2.2.2.2.2.2.1; have g8 := (hrow_at hrow3).2 8; have HR2 := Lib.hid R2; have HK2 := Lib.hid K2; have HN2 := Lib.hid N2; have HROW3 := Lib.hid hrow3; clear R2 K2 N2 hrow3))
        have AM : Hid (AddMid w B hg v0 (bs ++ ys) ((bs ++ ys).length - 64 * n) (W2.setCell ⟨hg, 8, none⟩ (.slice va2 (r.length + ys.length) vc2))) := by
          have HR2' : RestV W2 (.slice va2 (r.length + ys.length) vc2) (r ++ ys) := by rw [← List.length_append]; exact HR2.out
          have hsz : w.heap.size ≤ wr.heap.size := HI.out.keeps.size
          have hK : Keeps (HF hg v0) w W2 := by
            refine (HI.out.keeps.trans HK1.out (fun b hb => Or.inl (Or.inl hb))).trans HK2.out (fun b hb => ?_)
            rcases HVN.out b hb with h1 | h1
            · exact Or.inl (Or.inr h1)
            · exact Or.inr h1
          refine ⟨hK.setCell _ (Or.inl (Or.inl rfl)), .slice va2 (r.length + ys.length) vc2, n, ⟨by rw [List.length_append]; have := HN64.out; omega, ?_, ?_⟩, by rw [List.length_append]; have := HN64.out; omega, fun b hb => ?_⟩
          · rw [List.length_append, ← HFST.out]; exact hrow_set8 HROW3.out (.slice va2 (r.length + ys.length) vc2)
          · rw [HDROP.out]
            exact HR2'.keep ((Keeps.refl (fun b => b = hg) W2).setCell _ (Or.inl rfl)) (fun g h1 h2 => (HR2'.ne HROW3.out) (by rw [h1, h2]))
          · rcases HN2.out b (by rw [List.length_append]; exact hb) with h1 | h1
            · exact HVN.out b h1
            · exact Or.inr (by rw [h1]; simpa using hsz)
        clear HR1 HX1 HK1 HR2 HK2 HN2 HROW2 HROW3 HFST HDROP HRL c9 f8 f9 c8 d8 g8 hxc HVN HNE HN64 hn64 hn hrl
        obtain ⟨bz, hbz⟩ : ∃ bz, bz = bs ++ ys := ⟨_, rfl⟩
        have hbzl : bz.length ≤ 1000000000 := by rw [hbz, List.length_append]; exact hlen1
        rw [← hbz] at AM HBY1 HNEXT
        clear hbz hlen1
        go_loopg [] (bz.length - 64 * n) (fun t wr => Hid (AddMid w B hg v0 bz t wr))
        case atStart => exact AM
        case round =>
          have HJ := hrel
          obtain ⟨v, m, hm, hml, hvn⟩ := HJ.out.now
          have hmle := hm.le; have hmrow := hm.row; have hmrest := hm.rest
          obtain ⟨r, hr⟩ : ∃ r, r = bz.drop (64 * m) := ⟨_, rfl⟩
          have hrl : r.length = bz.length - 64 * m := by rw [hr, List.length_drop]
          rw [← hr] at hmrest
          have hrI : (r.length : Int) ≤ 1000000000 := by omega
          by_cases h64 : r.length < 64
          · have hlt64 : ¬ (64 : Int) ≤ r.length := by omega
            have hdone := Lib.hid (hm.done (by omega))
            obtain ⟨va, vc, rfl⟩ := hmrest.shape
            have c8 := (hrow_at hmrow).1.2.2.2.2.2.2.2.2.1
            have AI : Hid (AddInv w B hg v0 bs0 pss (k + 1) _) := ⟨HJ.out.keeps, _, by rw [HNEXT.out]; exact hdone.out, hvn⟩
            clear hm hml hvn hmle hmrow hmrest hr hrl h64 hdone
            go_wp2_with fail
            go_roundw
            case rel => exact ⟨k + 1, by go_num, by omega, AI⟩
            case measure => simp [intOf]; omega
          · have hge64 : (64 : Int) ≤ r.length := by omega
            rcases hmrest with ⟨-, h0⟩ | ⟨g, off, cap, cur, rfl, hgg, h1, h2, h3⟩
            · exfalso; rw [h0] at h64; simp at h64
            have hcap : (64 : Int) ≤ cap := by omega
            obtain ⟨f, hf⟩ : ∃ f : Nat → Nat, f = fun i => nth bz (64 * m + i) := ⟨_, rfl⟩
            have hf256 : ∀ i, f i < 256 := fun i => by
              rw [hf]
              show nth bz (64 * m + i) < 256
              by_cases hi : 64 * m + i < bz.length
              · exact HBY1.out _ (nth_mem bz _ hi)
              · rw [nth_end bz _ (by omega)]; decide
            obtain ⟨st, hst⟩ : ∃ st, st = runB HL bz m := ⟨_, rfl⟩
            have hst8 : st.length = 8 := by rw [hst]; exact runB_len HL bz HL_len m
            have hstw : W32 st := by rw [hst]; exact runB_w HL bz HL_w m
            have hnx : runB HL bz (m + 1) = mixS st f := by rw [runB, hst, hf]
            rw [← hst] at hmrow
            have hn8 : (mixS st f).length = 8 := mixS_len st f
            obtain ⟨sn, hsn⟩ : ∃ sn, sn = mixS st f := ⟨_, rfl⟩
            have HNX : Hid (runB HL bz (m + 1) = sn) := by rw [hsn]; exact hnx
            have hne := RestV.ne (v := .slice (some ⟨g, off, none⟩) r.length cap) (r := r) (Or.inr ⟨g, off, cap, cur, rfl, hgg, h1, h2, h3⟩) hmrow
            have hghg : g ≠ hg := fun e => hne (by rw [e]; rfl)
            obtain ⟨⟨c0, c1, c2, c3, c4, c5, c6, c7, c8, -⟩, -⟩ := hrow_at hmrow
            have hhb := lt_of_block hmrow
            have HROW := Lib.hid hmrow
            have CMX : Hid (∀ W, W.heap[g]? = some (.cells cur 5 (0, 0)) → Calls Try.prog 43 #[.agg #[.int .u32 ((nth st 0 : Nat) : Int), .int .u32 ((nth st 1 : Nat) : Int), .int .u32 ((nth st 2 : Nat) : Int), .int .u32 ((nth st 3 : Nat) : Int), .int .u32 ((nth st 4 : Nat) : Int), .int .u32 ((nth st 5 : Nat) : Int), .int .u32 ((nth st 6 : Nat) : Int), .int .u32 ((nth st 7 : Nat) : Int)], .slice (some ⟨g, off, none⟩) 64 cap] W fun e w' => e = .returned (.agg #[.int .u32 ((nth sn 0 : Nat) : Int), .int .u32 ((nth sn 1 : Nat) : Int), .int .u32 ((nth sn 2 : Nat) : Int), .int .u32 ((nth sn 3 : Nat) : Int), .int .u32 ((nth sn 4 : Nat) : Int), .int .u32 ((nth sn 5 : Nat) : Int), .int .u32 ((nth sn 6 : Nat) : Int), .int .u32 ((nth sn 7 : Nat) : Int)]) ∧ Below W.heap.size W w') := fun W hk => by
              have hb' : Bt W g off 64 f := ⟨lt_of_block hk, fun i hi => (cell_of_row _ _ _ _ _ _ hk).trans (by rw [h3 i (by omega), hr, nth_drop, hf])⟩
              have := mix_c g off cap st f hf256 hst8 hstw W hb'
              rw [agg8 st hst8, ← hsn, agg8 sn (by rw [hsn]; exact hn8)] at this
              exact this
            have HML := Lib.hid hml; have HR0 := Lib.hid hr; have H3 := Lib.hid h3; have HRLX := Lib.hid hrl; have HVN2 := Lib.hid hvn; have HM2 := Lib.hid hmle
            clear hm hml hrl hvn hmle hmrow hr hf256 hst8 hstw hnx hn8 hne hst hsn hf
            have KS : Keeps (fun b => b = hg) wr wr.drew ∧ wr.drew.heap[g]? = some (.cells cur 5 (0, 0)) := ⟨(Keeps.refl _ _).drew, hgg⟩
            go_wp2_with fail
            obtain ⟨I, hI0⟩ : ∃ I : Array Value → (Nat → Bool) → Act → World → Prop, I = (fun T0 L act W => ∃ vq0 vq1 vq2 vq3 vq4 vq5 vq6 vq7 vq8 vq9 vq10 vq11 vq12, act = ⟨sets T0 [(37, vq0), (38, vq1), (39, vq2), (40, vq3), (41, vq4), (42, vq5), (43, vq6), (44, vq7), (45, vq8), (46, vq9), (47, vq10), (48, vq11), (49, vq12)], []⟩ ∧ (Keeps (fun b => b = hg) wr W ∧ W.heap[g]? = some (.cells cur 5 (0, 0))) ∧ (L 0 = true → vq0 = hptr hg) ∧ (L 1 = true → vq1 = hptr hg) ∧ (L 2 = true → vq2 = hptr hg) ∧ (L 3 = true → vq3 = hptr hg) ∧ (L 4 = true → vq4 = .agg #[.int .u32 ((nth st 0 : Nat) : Int), .int .u32 ((nth st 1 : Nat) : Int), .int .u32 ((nth st 2 : Nat) : Int), .int .u32 ((nth st 3 : Nat) : Int), .int .u32 ((nth st 4 : Nat) : Int), .int .u32 ((nth st 5 : Nat) : Int), .int .u32 ((nth st 6 : Nat) : Int), .int .u32 ((nth st 7 : Nat) : Int)]) ∧ (L 5 = true → vq5 = hptr hg) ∧ (L 6 = true → vq6 = hptr hg) ∧ (L 7 = true → vq7 = .pointer (some ⟨hg, 8, none⟩)) ∧ (L 8 = true → vq8 = .slice (some ⟨g, off, none⟩) r.length cap) ∧ (L 9 = true → vq9 = .slice (some ⟨g, off, none⟩) 64 cap) ∧ (L 10 = true → vq10 = .agg #[.int .u32 ((nth sn 0 : Nat) : Int), .int .u32 ((nth sn 1 : Nat) : Int), .int .u32 ((nth sn 2 : Nat) : Int), .int .u32 ((nth sn 3 : Nat) : Int), .int .u32 ((nth sn 4 : Nat) : Int), .int .u32 ((nth sn 5 : Nat) : Int), .int .u32 ((nth sn 6 : Nat) : Int), .int .u32 ((nth sn 7 : Nat) : Int)]) ∧ (L 11 = true → vq11 = hptr hg) ∧ (L 12 = true → vq12 = hptr hg) ∧ (L 13 = false → W.heap[hg]? = some (hrow st (.slice (some ⟨g, off, none⟩) r.length cap) bz.length)) ∧ (L 13 = true → W.heap[hg]? = some (hrow sn (.slice (some ⟨g, off, none⟩) r.length cap) bz.length)) ∧ (L 13 = true → L 4 = true) ∧ (L 13 = true → L 8 = true)) := ⟨_, rfl⟩
            have HI := Lib.hid hI0; clear hI0
            refine wp_region_frame (by kernel_rfl) (by kernel_rfl) I (fun T0 hT0 => ⟨?start, ?step, ?fin⟩)
            case start =>
              rw [HI.out]
              exact ⟨T0.getD 37 undef, T0.getD 38 undef, T0.getD 39 undef, T0.getD 40 undef, T0.getD 41 undef, T0.getD 42 undef, T0.getD 43 undef, T0.getD 44 undef, T0.getD 45 undef, T0.getD 46 undef, T0.getD 47 undef, T0.getD 48 undef, T0.getD 49 undef, by (refine Eq.trans ?_ (congrArg (fun T => Act.mk T []) (sets_self [37, 38, 39, 40, 41, 42, 43, 44, 45, 46, 47, 48, 49] T0).symm)); rw [hT0], KS, nofun, nofun, nofun, nofun, nofun, nofun, nofun, nofun, nofun, nofun, nofun, nofun, nofun, fun _ => HROW.out, nofun, nofun, nofun⟩
            case step =>
              refine ⟨?_, ?_, ?_, ?_, ?_, ?_, ?_, ?_, ?_, ?_, ?_, ?_, ?_, ?_, trivial⟩
              · intro L act W hI hno hdep
                rw [HI.out] at hI
                obtain ⟨vq0, vq1, vq2, vq3, vq4, vq5, vq6, vq7, vq8, vq9, vq10, vq11, vq12, hact, hS, hq0, hq1, hq2, hq3, hq4, hq5, hq6, hq7, hq8, hq9, hq10, hq11, hq12, oq13, nq13, dq13_4, dq13_8⟩ := hI
                subst hact
                rw [hT0]; simp only [sets, List.setIfInBounds_toArray, List.set_cons_zero, List.set_cons_succ]
                go_simp
                rw [HI.out]
                exact ⟨hptr hg, vq1, vq2, vq3, vq4, vq5, vq6, vq7, vq8, vq9, vq10, vq11, vq12, by simp only [sets, List.setIfInBounds_toArray, List.set_cons_zero, List.set_cons_succ], hS, fun _ => rfl, keepI hq1 rfl, keepI hq2 rfl, keepI hq3 rfl, keepI hq4 rfl, keepI hq5 rfl, keepI hq6 rfl, keepI hq7 rfl, keepI hq8 rfl, keepI hq9 rfl, keepI hq10 rfl, keepI hq11 rfl, keepI hq12 rfl, keepF oq13, keepI nq13 rfl, keepD dq13_4 rfl, keepD dq13_8 rfl⟩
              · intro L act W hI hno hdep
                rw [HI.out] at hI
                obtain ⟨vq0, vq1, vq2, vq3, vq4, vq5, vq6, vq7, vq8, vq9, vq10, vq11, vq12, hact, hS, hq0, hq1, hq2, hq3, hq4, hq5, hq6, hq7, hq8, hq9, hq10, hq11, hq12, oq13, nq13, dq13_4, dq13_8⟩ := hI
                subst hact
                rw [hT0]; simp only [sets, List.setIfInBounds_toArray, List.set_cons_zero, List.set_cons_succ]
                go_simp
                rw [HI.out]
                exact ⟨vq0, hptr hg, vq2, vq3, vq4, vq5, vq6, vq7, vq8, vq9, vq10, vq11, vq12, by simp only [sets, List.setIfInBounds_toArray, List.set_cons_zero, List.set_cons_succ], hS, keepI hq0 rfl, fun _ => rfl, keepI hq2 rfl, keepI hq3 rfl, keepI hq4 rfl, keepI hq5 rfl, keepI hq6 rfl, keepI hq7 rfl, keepI hq8 rfl, keepI hq9 rfl, keepI hq10 rfl, keepI hq11 rfl, keepI hq12 rfl, keepF oq13, keepI nq13 rfl, keepD dq13_4 rfl, keepD dq13_8 rfl⟩
              · intro L act W hI hno hdep
                rw [HI.out] at hI
                obtain ⟨vq0, vq1, vq2, vq3, vq4, vq5, vq6, vq7, vq8, vq9, vq10, vq11, vq12, hact, hS, hq0, hq1, hq2, hq3, hq4, hq5, hq6, hq7, hq8, hq9, hq10, hq11, hq12, oq13, nq13, dq13_4, dq13_8⟩ := hI
                subst hact
                obtain rfl := hq1 (hdep ⟨1, .data⟩ (by simp) rfl)
                rw [hT0]; simp only [sets, List.setIfInBounds_toArray, List.set_cons_zero, List.set_cons_succ]
                go_simp
                rw [HI.out]
                exact ⟨vq0, hptr hg, hptr hg, vq3, vq4, vq5, vq6, vq7, vq8, vq9, vq10, vq11, vq12, by simp only [sets, List.setIfInBounds_toArray, List.set_cons_zero, List.set_cons_succ], hS, keepI hq0 rfl, fun _ => rfl, fun _ => rfl, keepI hq3 rfl, keepI hq4 rfl, keepI hq5 rfl, keepI hq6 rfl, keepI hq7 rfl, keepI hq8 rfl, keepI hq9 rfl, keepI hq10 rfl, keepI hq11 rfl, keepI hq12 rfl, keepF oq13, keepI nq13 rfl, keepD dq13_4 rfl, keepD dq13_8 rfl⟩
              · intro L act W hI hno hdep
                rw [HI.out] at hI
                obtain ⟨vq0, vq1, vq2, vq3, vq4, vq5, vq6, vq7, vq8, vq9, vq10, vq11, vq12, hact, hS, hq0, hq1, hq2, hq3, hq4, hq5, hq6, hq7, hq8, hq9, hq10, hq11, hq12, oq13, nq13, dq13_4, dq13_8⟩ := hI
                subst hact
                obtain rfl := hq2 (hdep ⟨2, .data⟩ (by simp) rfl)
                rw [hT0]; simp only [sets, List.setIfInBounds_toArray, List.set_cons_zero, List.set_cons_succ]
                go_simp
                rw [HI.out]
                exact ⟨vq0, vq1, hptr hg, hptr hg, vq4, vq5, vq6, vq7, vq8, vq9, vq10, vq11, vq12, by simp only [sets, List.setIfInBounds_toArray, List.set_cons_zero, List.set_cons_succ], hS, keepI hq0 rfl, keepI hq1 rfl, fun _ => rfl, fun _ => rfl, keepI hq4 rfl, keepI hq5 rfl, keepI hq6 rfl, keepI hq7 rfl, keepI hq8 rfl, keepI hq9 rfl, keepI hq10 rfl, keepI hq11 rfl, keepI hq12 rfl, keepF oq13, keepI nq13 rfl, keepD dq13_4 rfl, keepD dq13_8 rfl⟩
              · intro L act W hI hno hdep
                rw [HI.out] at hI
                obtain ⟨vq0, vq1, vq2, vq3, vq4, vq5, vq6, vq7, vq8, vq9, vq10, vq11, vq12, hact, hS, hq0, hq1, hq2, hq3, hq4, hq5, hq6, hq7, hq8, hq9, hq10, hq11, hq12, oq13, nq13, dq13_4, dq13_8⟩ := hI
                subst hact
                obtain rfl := hq3 (hdep ⟨3, .data⟩ (by simp) rfl)
                rw [hT0]; simp only [sets, List.setIfInBounds_toArray, List.set_cons_zero, List.set_cons_succ]
                have hq := oq13 (noF dq13_4 hno)
                obtain ⟨⟨c0, c1, c2, c3, c4, c5, c6, c7, c8, c9⟩, -⟩ := hrow_at hq
                have hhb := lt_of_block hq
                go_simp
                rw [HI.out]
                exact ⟨vq0, vq1, vq2, hptr hg, .agg #[.int .u32 ((nth st 0 : Nat) : Int), .int .u32 ((nth st 1 : Nat) : Int), .int .u32 ((nth st 2 : Nat) : Int), .int .u32 ((nth st 3 : Nat) : Int), .int .u32 ((nth st 4 : Nat) : Int), .int .u32 ((nth st 5 : Nat) : Int), .int .u32 ((nth st 6 : Nat) : Int), .int .u32 ((nth st 7 : Nat) : Int)], vq5, vq6, vq7, vq8, vq9, vq10, vq11, vq12, by simp only [sets, List.setIfInBounds_toArray, List.set_cons_zero, List.set_cons_succ], hS, keepI hq0 rfl, keepI hq1 rfl, keepI hq2 rfl, fun _ => rfl, fun _ => rfl, keepI hq5 rfl, keepI hq6 rfl, keepI hq7 rfl, keepI hq8 rfl, keepI hq9 rfl, keepI hq10 rfl, keepI hq11 rfl, keepI hq12 rfl, keepF oq13, keepI nq13 rfl, keepD dq13_4 rfl, keepD dq13_8 rfl⟩
              · intro L act W hI hno hdep
                rw [HI.out] at hI
                obtain ⟨vq0, vq1, vq2, vq3, vq4, vq5, vq6, vq7, vq8, vq9, vq10, vq11, vq12, hact, hS, hq0, hq1, hq2, hq3, hq4, hq5, hq6, hq7, hq8, hq9, hq10, hq11, hq12, oq13, nq13, dq13_4, dq13_8⟩ := hI
                subst hact
                rw [hT0]; simp only [sets, List.setIfInBounds_toArray, List.set_cons_zero, List.set_cons_succ]
                go_simp
                rw [HI.out]
                exact ⟨vq0, vq1, vq2, vq3, vq4, hptr hg, vq6, vq7, vq8, vq9, vq10, vq11, vq12, by simp only [sets, List.setIfInBounds_toArray, List.set_cons_zero, List.set_cons_succ], hS, keepI hq0 rfl, keepI hq1 rfl, keepI hq2 rfl, keepI hq3 rfl, keepI hq4 rfl, fun _ => rfl, keepI hq6 rfl, keepI hq7 rfl, keepI hq8 rfl, keepI hq9 rfl, keepI hq10 rfl, keepI hq11 rfl, keepI hq12 rfl, keepF oq13, keepI nq13 rfl, keepD dq13_4 rfl, keepD dq13_8 rfl⟩
              · intro L act W hI hno hdep
                rw [HI.out] at hI
                obtain ⟨vq0, vq1, vq2, vq3, vq4, vq5, vq6, vq7, vq8, vq9, vq10, vq11, vq12, hact, hS, hq0, hq1, hq2, hq3, hq4, hq5, hq6, hq7, hq8, hq9, hq10, hq11, hq12, oq13, nq13, dq13_4, dq13_8⟩ := hI
                subst hact
                obtain rfl := hq5 (hdep ⟨5, .data⟩ (by simp) rfl)
                rw [hT0]; simp only [sets, List.setIfInBounds_toArray, List.set_cons_zero, List.set_cons_succ]
                go_simp
                rw [HI.out]
                exact ⟨vq0, vq1, vq2, vq3, vq4, hptr hg, hptr hg, vq7, vq8, vq9, vq10, vq11, vq12, by simp only [sets, List.setIfInBounds_toArray, List.set_cons_zero, List.set_cons_succ], hS, keepI hq0 rfl, keepI hq1 rfl, keepI hq2 rfl, keepI hq3 rfl, keepI hq4 rfl, fun _ => rfl, fun _ => rfl, keepI hq7 rfl, keepI hq8 rfl, keepI hq9 rfl, keepI hq10 rfl, keepI hq11 rfl, keepI hq12 rfl, keepF oq13, keepI nq13 rfl, keepD dq13_4 rfl, keepD dq13_8 rfl⟩
              · intro L act W hI hno hdep
                rw [HI.out] at hI
                obtain ⟨vq0, vq1, vq2, vq3, vq4, vq5, vq6, vq7, vq8, vq9, vq10, vq11, vq12, hact, hS, hq0, hq1, hq2, hq3, hq4, hq5, hq6, hq7, hq8, hq9, hq10, hq11, hq12, oq13, nq13, dq13_4, dq13_8⟩ := hI
                subst hact
                obtain rfl := hq6 (hdep ⟨6, .data⟩ (by simp) rfl)
                rw [hT0]; simp only [sets, List.setIfInBounds_toArray, List.set_cons_zero, List.set_cons_succ]
                go_simp
                rw [HI.out]
                exact ⟨vq0, vq1, vq2, vq3, vq4, vq5, hptr hg, .pointer (some ⟨hg, 8, none⟩), vq8, vq9, vq10, vq11, vq12, by simp only [sets, List.setIfInBounds_toArray, List.set_cons_zero, List.set_cons_succ], hS, keepI hq0 rfl, keepI hq1 rfl, keepI hq2 rfl, keepI hq3 rfl, keepI hq4 rfl, keepI hq5 rfl, fun _ => rfl, fun _ => rfl, keepI hq8 rfl, keepI hq9 rfl, keepI hq10 rfl, keepI hq11 rfl, keepI hq12 rfl, keepF oq13, keepI nq13 rfl, keepD dq13_4 rfl, keepD dq13_8 rfl⟩
              · intro L act W hI hno hdep
                rw [HI.out] at hI
                obtain ⟨vq0, vq1, vq2, vq3, vq4, vq5, vq6, vq7, vq8, vq9, vq10, vq11, vq12, hact, hS, hq0, hq1, hq2, hq3, hq4, hq5, hq6, hq7, hq8, hq9, hq10, hq11, hq12, oq13, nq13, dq13_4, dq13_8⟩ := hI
                subst hact
                obtain rfl := hq7 (hdep ⟨7, .data⟩ (by simp) rfl)
                rw [hT0]; simp only [sets, List.setIfInBounds_toArray, List.set_cons_zero, List.set_cons_succ]
                have hq := oq13 (noF dq13_8 hno)
                obtain ⟨⟨c0, c1, c2, c3, c4, c5, c6, c7, c8, c9⟩, -⟩ := hrow_at hq
                have hhb := lt_of_block hq
                go_simp
                rw [HI.out]
                exact ⟨vq0, vq1, vq2, vq3, vq4, vq5, vq6, .pointer (some ⟨hg, 8, none⟩), .slice (some ⟨g, off, none⟩) r.length cap, vq9, vq10, vq11, vq12, by simp only [sets, List.setIfInBounds_toArray, List.set_cons_zero, List.set_cons_succ], hS, keepI hq0 rfl, keepI hq1 rfl, keepI hq2 rfl, keepI hq3 rfl, keepI hq4 rfl, keepI hq5 rfl, keepI hq6 rfl, fun _ => rfl, fun _ => rfl, keepI hq9 rfl, keepI hq10 rfl, keepI hq11 rfl, keepI hq12 rfl, keepF oq13, keepI nq13 rfl, keepD dq13_4 rfl, keepD dq13_8 rfl⟩
              · intro L act W hI hno hdep
                rw [HI.out] at hI
                obtain ⟨vq0, vq1, vq2, vq3, vq4, vq5, vq6, vq7, vq8, vq9, vq10, vq11, vq12, hact, hS, hq0, hq1, hq2, hq3, hq4, hq5, hq6, hq7, hq8, hq9, hq10, hq11, hq12, oq13, nq13, dq13_4, dq13_8⟩ := hI
                subst hact
                obtain rfl := hq8 (hdep ⟨8, .data⟩ (by simp) rfl)
                rw [hT0]; simp only [sets, List.setIfInBounds_toArray, List.set_cons_zero, List.set_cons_succ]
                go_simp
                rw [HI.out]
                exact ⟨vq0, vq1, vq2, vq3, vq4, vq5, vq6, vq7, .slice (some ⟨g, off, none⟩) r.length cap, .slice (some ⟨g, off, none⟩) 64 cap, vq10, vq11, vq12, by simp only [sets, List.setIfInBounds_toArray, List.set_cons_zero, List.set_cons_succ], hS, keepI hq0 rfl, keepI hq1 rfl, keepI hq2 rfl, keepI hq3 rfl, keepI hq4 rfl, keepI hq5 rfl, keepI hq6 rfl, keepI hq7 rfl, fun _ => rfl, fun _ => rfl, keepI hq10 rfl, keepI hq11 rfl, keepI hq12 rfl, keepF oq13, keepI nq13 rfl, keepD dq13_4 rfl, keepD dq13_8 rfl⟩
              · intro L act W hI hno hdep
                rw [HI.out] at hI
                obtain ⟨vq0, vq1, vq2, vq3, vq4, vq5, vq6, vq7, vq8, vq9, vq10, vq11, vq12, hact, hS, hq0, hq1, hq2, hq3, hq4, hq5, hq6, hq7, hq8, hq9, hq10, hq11, hq12, oq13, nq13, dq13_4, dq13_8⟩ := hI
                subst hact
                obtain rfl := hq4 (hdep ⟨4, .data⟩ (by simp) rfl)
                obtain rfl := hq9 (hdep ⟨9, .data⟩ (by simp) rfl)
                rw [hT0]; simp only [sets, List.setIfInBounds_toArray, List.set_cons_zero, List.set_cons_succ]
                go_simp
                refine (CMX.out _ hS.2).mono ?_
                rintro e W2 ⟨rfl, hb⟩
                rw [HI.out]
                exact ⟨vq0, vq1, vq2, vq3, .agg #[.int .u32 ((nth st 0 : Nat) : Int), .int .u32 ((nth st 1 : Nat) : Int), .int .u32 ((nth st 2 : Nat) : Int), .int .u32 ((nth st 3 : Nat) : Int), .int .u32 ((nth st 4 : Nat) : Int), .int .u32 ((nth st 5 : Nat) : Int), .int .u32 ((nth st 6 : Nat) : Int), .int .u32 ((nth st 7 : Nat) : Int)], vq5, vq6, vq7, vq8, .slice (some ⟨g, off, none⟩) 64 cap, .agg #[.int .u32 ((nth sn 0 : Nat) : Int), .int .u32 ((nth sn 1 : Nat) : Int), .int .u32 ((nth sn 2 : Nat) : Int), .int .u32 ((nth sn 3 : Nat) : Int), .int .u32 ((nth sn 4 : Nat) : Int), .int .u32 ((nth sn 5 : Nat) : Int), .int .u32 ((nth sn 6 : Nat) : Int), .int .u32 ((nth sn 7 : Nat) : Int)], vq11, vq12, by simp only [sets, List.setIfInBounds_toArray, List.set_cons_zero, List.set_cons_succ], ⟨hS.1.trans (Keeps.of_below (F := fun _ => False) hb) (fun _ h => h.elim), keepH hb hS.2⟩, keepI hq0 rfl, keepI hq1 rfl, keepI hq2 rfl, keepI hq3 rfl, fun _ => rfl, keepI hq5 rfl, keepI hq6 rfl, keepI hq7 rfl, keepI hq8 rfl, fun _ => rfl, fun _ => rfl, keepI hq11 rfl, keepI hq12 rfl, keepF (fun h => keepH hb (oq13 h)), keepI (fun h => keepH hb (nq13 h)) rfl, keepD dq13_4 rfl, keepD dq13_8 rfl⟩
              · intro L act W hI hno hdep
                rw [HI.out] at hI
                obtain ⟨vq0, vq1, vq2, vq3, vq4, vq5, vq6, vq7, vq8, vq9, vq10, vq11, vq12, hact, hS, hq0, hq1, hq2, hq3, hq4, hq5, hq6, hq7, hq8, hq9, hq10, hq11, hq12, oq13, nq13, dq13_4, dq13_8⟩ := hI
                subst hact
                obtain rfl := hq0 (hdep ⟨0, .data⟩ (by simp) rfl)
                rw [hT0]; simp only [sets, List.setIfInBounds_toArray, List.set_cons_zero, List.set_cons_succ]
                go_simp
                rw [HI.out]
                exact ⟨hptr hg, vq1, vq2, vq3, vq4, vq5, vq6, vq7, vq8, vq9, vq10, hptr hg, vq12, by simp only [sets, List.setIfInBounds_toArray, List.set_cons_zero, List.set_cons_succ], hS, fun _ => rfl, keepI hq1 rfl, keepI hq2 rfl, keepI hq3 rfl, keepI hq4 rfl, keepI hq5 rfl, keepI hq6 rfl, keepI hq7 rfl, keepI hq8 rfl, keepI hq9 rfl, keepI hq10 rfl, fun _ => rfl, keepI hq12 rfl, keepF oq13, keepI nq13 rfl, keepD dq13_4 rfl, keepD dq13_8 rfl⟩
              · intro L act W hI hno hdep
                rw [HI.out] at hI
                obtain ⟨vq0, vq1, vq2, vq3, vq4, vq5, vq6, vq7, vq8, vq9, vq10, vq11, vq12, hact, hS, hq0, hq1, hq2, hq3, hq4, hq5, hq6, hq7, hq8, hq9, hq10, hq11, hq12, oq13, nq13, dq13_4, dq13_8⟩ := hI
                subst hact
                obtain rfl := hq11 (hdep ⟨11, .data⟩ (by simp) rfl)
                rw [hT0]; simp only [sets, List.setIfInBounds_toArray, List.set_cons_zero, List.set_cons_succ]
                go_simp
                rw [HI.out]
                exact ⟨vq0, vq1, vq2, vq3, vq4, vq5, vq6, vq7, vq8, vq9, vq10, hptr hg, hptr hg, by simp only [sets, List.setIfInBounds_toArray, List.set_cons_zero, List.set_cons_succ], hS, keepI hq0 rfl, keepI hq1 rfl, keepI hq2 rfl, keepI hq3 rfl, keepI hq4 rfl, keepI hq5 rfl, keepI hq6 rfl, keepI hq7 rfl, keepI hq8 rfl, keepI hq9 rfl, keepI hq10 rfl, fun _ => rfl, fun _ => rfl, keepF oq13, keepI nq13 rfl, keepD dq13_4 rfl, keepD dq13_8 rfl⟩
              · intro L act W hI hno hdep
                rw [HI.out] at hI
                obtain ⟨vq0, vq1, vq2, vq3, vq4, vq5, vq6, vq7, vq8, vq9, vq10, vq11, vq12, hact, hS, hq0, hq1, hq2, hq3, hq4, hq5, hq6, hq7, hq8, hq9, hq10, hq11, hq12, oq13, nq13, dq13_4, dq13_8⟩ := hI
                subst hact
                obtain rfl := hq12 (hdep ⟨12, .data⟩ (by simp) rfl)
                obtain rfl := hq10 (hdep ⟨10, .data⟩ (by simp) rfl)
                have hg1 := oq13 hno
                rw [hT0]; simp only [sets, List.setIfInBounds_toArray, List.set_cons_zero, List.set_cons_succ]
                with_reducible refine wp_store_mid 77 (Operand.tmp 49) (Operand.tmp 47) rfl hg 0 (st8 sn) ?_ ?_ (hrow_there hg1 sn) (by kernel_rfl) (by simp [Value.oneCell']) ?_
                · rfl
                · rfl
                rw [HI.out]
                exact ⟨vq0, vq1, vq2, vq3, vq4, vq5, vq6, vq7, vq8, vq9, .agg #[.int .u32 ((nth sn 0 : Nat) : Int), .int .u32 ((nth sn 1 : Nat) : Int), .int .u32 ((nth sn 2 : Nat) : Int), .int .u32 ((nth sn 3 : Nat) : Int), .int .u32 ((nth sn 4 : Nat) : Int), .int .u32 ((nth sn 5 : Nat) : Int), .int .u32 ((nth sn 6 : Nat) : Int), .int .u32 ((nth sn 7 : Nat) : Int)], vq11, hptr hg, by simp only [sets, Act.put, List.setIfInBounds_toArray, List.set_cons_zero, List.set_cons_succ], ⟨Keeps.setCells (F := fun b => b = hg) (Or.inl rfl) _ _ _ hS.1, (other_setCells hghg _ _ _).trans hS.2⟩, keepI hq0 rfl, keepI hq1 rfl, keepI hq2 rfl, keepI hq3 rfl, keepI hq4 rfl, keepI hq5 rfl, keepI hq6 rfl, keepI hq7 rfl, keepI hq8 rfl, keepI hq9 rfl, fun _ => rfl, keepI hq11 rfl, fun _ => rfl, alsoF, fun _ => hrow_cells8 hg1 sn, fun _ => alsoD (hdep ⟨4, .phase⟩ (by simp) rfl), fun _ => alsoD (hdep ⟨8, .phase⟩ (by simp) rfl)⟩
            case fin =>
              intro L act W hall hI
              rw [HI.out] at hI
              obtain ⟨vq0, vq1, vq2, vq3, vq4, vq5, vq6, vq7, vq8, vq9, vq10, vq11, vq12, hact, hS, hq0, hq1, hq2, hq3, hq4, hq5, hq6, hq7, hq8, hq9, hq10, hq11, hq12, oq13, nq13, dq13_4, dq13_8⟩ := hI
              subst hact
              obtain rfl := hq0 (hall 0 (by decide))
              obtain rfl := hq1 (hall 1 (by decide))
              obtain rfl := hq2 (hall 2 (by decide))
              obtain rfl := hq3 (hall 3 (by decide))
              obtain rfl := hq4 (hall 4 (by decide))
              obtain rfl := hq5 (hall 5 (by decide))
              obtain rfl := hq6 (hall 6 (by decide))
              obtain rfl := hq7 (hall 7 (by decide))
              obtain rfl := hq8 (hall 8 (by decide))
              obtain rfl := hq9 (hall 9 (by decide))
              obtain rfl := hq10 (hall 10 (by decide))
              obtain rfl := hq11 (hall 11 (by decide))
              obtain rfl := hq12 (hall 12 (by decide))
              have thh := Lib.hid (nq13 (hall 13 (by decide)))
              clear hq0 hq1 hq2 hq3 hq4 hq5 hq6 hq7 hq8 hq9 hq10 hq11 hq12 oq13 nq13 dq13_4 dq13_8 hall
              rw [hT0]; simp only [sets, List.setIfInBounds_toArray, List.set_cons_zero, List.set_cons_succ]
              clear hT0 HI
              have c8 := (hrow_at thh.out).1.2.2.2.2.2.2.2.2.1
              have f8 := (hrow_at thh.out).2 8
              have hhb := lt_of_block thh.out
              have hKW : Keeps (HF hg v0) w W := HJ.out.keeps.trans hS.1 (fun b h => Or.inl (Or.inl h))
              have hdr2 : bz.drop (64 * (m + 1)) = r.drop 64 := by rw [HR0.out, List.drop_drop]; congr 1
              have hgW : ∀ u : Value, (W.setCell ⟨hg, 8, none⟩ u).heap[g]? = some (.cells cur 5 (0, 0)) := fun u => (heap_setCell_other W ⟨hg, 8, none⟩ _ u hghg).trans hS.2
              have AMN : ∀ u : Value, u.ownBlock = some g → RestV (W.setCell ⟨hg, 8, none⟩ u) u (r.drop 64) → AddMid w B hg v0 bz (bz.length - 64 * (m + 1)) (W.setCell ⟨hg, 8, none⟩ u) := fun u hu hr' => by
                have h5 := HML.out; have h6 := HRLX.out
                refine ⟨hKW.setCell _ (Or.inl (Or.inl rfl)), u, m + 1, ⟨by omega, ?_, by rw [hdr2]; exact hr'⟩, by omega, fun b hb => HVN2.out b (by rw [← hb, hu]; rfl)⟩
                rw [HNX.out]; exact hrow_set8 thh.out u
              have HAMN := Lib.hid AMN
              have HME : Hid (bz.length - 64 * (m + 1) < gk) := by show _ < _; have h5 := HML.out; have h6 := HRLX.out; omega
              clear AMN hdr2 hKW
              by_cases hc64 : cap = 64
              · have hf1 := Lib.hid (HAMN.out (.slice (some ⟨g, off, none⟩) (r.length - 64) 0) rfl (rest_empty (hgW _) (by omega) (by omega)))
                clear hgW
                go_wp2_with fail
                go_roundg (bz.length - 64 * (m + 1))
                case measure => exact HME.out
                case rel => exact hf1
              · have hf1 := Lib.hid (HAMN.out (.slice (some ⟨g, off + 64, none⟩) (r.length - 64) (cap - 64)) rfl ((rest_shift (hgW _) h1 h2 H3.out).resolve_right (by omega)))
                clear hgW
                go_wp2_with fail
                go_roundg (bz.length - 64 * (m + 1))
                case measure => exact HME.out
                case rel => exact hf1

/-- Add, its pieces below the hasher. -/
theorem add_h (B hg : Nat) (v0 lv : Value) (bs0 : List Nat) (pss : List (List Nat)) (w : World) (hh : HasherV w hg v0 bs0) (hp : Pcs w B lv pss) (hbg : B ≤ hg) (hbv : ∀ b, v0.ownBlock = some b → B ≤ b) (hby : ∀ y, y ∈ bs0 ++ pss.flatten → y < 256)
    (hlen : (bs0 ++ pss.flatten).length ≤ 1000000000) (hpl : pss.length ≤ 1000000) :
    Calls Try.prog 36 #[hptr hg, lv] w fun e w' => e = .returned (.tuple #[]) ∧ Hid (AddInv w B hg v0 bs0 pss pss.length w') :=
  add_s B _ hg v0 lv bs0 pss w hh hp (fun b hb e => by have hb' : b < B := hb; omega) (fun b hv hb => by have hb' : b < B := hb; have := hbv b hv; omega) hby hlen hpl
end Go.Proofs.Ytbjcigokimieoaa
