/-
  Hashes as values: thirty-two bytes in a row, loaded, stored, compared; short ones of twenty.
-/
import Derived.Test.YtbjcigokimieoaaHj
namespace Go.Proofs.Ytbjcigokimieoaa
open Go.RowKit

/-- The row of a hash in memory. -/
def hobj (l : List Nat) : Obj := .cells (wcells .u8 l) 61 (0, 0)
def zobj : Obj := .cells (wcells .u8 (List.replicate 32 0)) 61 (0, 0)
/-- A hash comes out of its variable. -/
theorem wpList_hash {ops : Array Oper} {rest : List Oper} {o : Oper} {a : Act} {W : World} {Q : Exit → Act → World → Prop} (hw : Region.wanted o (yielded ops a.tmps) = true) (x : Operand) (ho : o.op = .load 61 x)
    (g : Nat) (hx : a.eval x = .pointer (some ⟨g, 0, none⟩)) (l : List Nat) (hl : l.length = 32) (hg : W.heap[g]? = some (hobj l))
    (h : wpList Try.prog ops Q rest (a.put o.dst (.agg (wcells .u8 l))) W) : wpList Try.prog ops Q (o :: rest) a W :=
  wpList_step fun K hK => by
    rw [if_pos hw]
    exact wp_load_row 61 x ho g hx 61 (wcells .u8 l) (0, 0) _ hg Try.underlying61 rfl (by rw [wcells_size, hl]; kernel_rfl) (hK _ _ h)
/-- .. and goes into it. -/
theorem wpList_puth {ops : Array Oper} {rest : List Oper} {o : Oper} {a : Act} {W : World} {Q : Exit → Act → World → Prop} (hgd : o.guard = none) (x y : Operand) (ho : o.op = .store 61 x y)
    (g : Nat) (hx : a.eval x = .pointer (some ⟨g, 0, none⟩)) (l l0 : List Nat) (hl : l.length = 32) (hl0 : l0.length = 32) (hy : a.eval y = .agg (wcells .u8 l)) (hg : W.heap[g]? = some (hobj l0)) (h : wpList Try.prog ops Q rest (a.put o.dst undef) (W.setRow g (wcells .u8 l))) : wpList Try.prog ops Q (o :: rest) a W :=
  wpList_store_row hgd 61 x y ho g (wcells .u8 l) hx hy 61 (wcells .u8 l0) hg (by rw [wcells_size, hl]; kernel_rfl) (by rw [wcells_size, wcells_size, hl, hl0]) (wcells_one _ _) h
theorem set_hash {W : World} {g : Nat} {l l0 : List Nat} (hg : W.heap[g]? = some (hobj l0)) : (W.setRow g (wcells .u8 l)).heap[g]? = some (hobj l) := setRow_heap W g _ _ _ _ hg

/-- Are two rows the same? -/
def heq (a b : List Nat) : Bool := decide (a = b)
theorem alike_lists (n : Nat) (a b : List Nat) (ha : a.length = n) (hb : b.length = n) : alike n (fun i => ((nth a i : Nat) : Int)) (fun i => ((nth b i : Nat) : Int)) = heq a b := by
  unfold heq
  rw [Bool.eq_iff_iff, alike_iff, decide_eq_true_iff]
  constructor
  · intro h
    exact nth_ext a b (by omega) (fun i hi => by have := h i (by omega); omega)
  · rintro rfl i _; rfl
theorem u8_info : (Try.prog.info? 5).isSome = true := by kernel_rfl
theorem u8_cells : Try.prog.cellsOf 5 = 1 := by kernel_rfl
theorem eql_hash (a b : List Nat) (ha : a.length = 32) (hb : b.length = 32) (w : World) : (Op.equalIn 10000 61 (.agg (wcells .u8 a)) (.agg (wcells .u8 b))).run Try.prog w = .ok (heq a b) w := by
  obtain ⟨i, hi⟩ := Option.isSome_iff_exists.1 u8_info
  have := run_eql_array w Try.underlying61 Try.underlying5 hi u8_cells (fun i => ((nth a i : Nat) : Int)) (fun i => ((nth b i : Nat) : Int)) _ _ (fun j hj => wcells_get .u8 a j (by omega)) (fun j hj => wcells_get .u8 b j (by omega))
  rw [alike_lists 32 a b ha hb] at this
  exact this
theorem hash_guard : Try.prog.eqGuardType Try.prog.depth 61 = false := by kernel_rfl
theorem heq_self (a : List Nat) : heq a a = true := by simp [heq]
theorem St.puth {w W : World} {L : List (Nat × Obj)} {g : Nat} {l0 : List Nat} (h : St w L W) (hge : w.heap.size ≤ g) (hg : W.heap[g]? = some (hobj l0)) (hne : ∀ p, p ∈ L → p.1 ≠ g) (l : List Nat) : St w ((g, hobj l) :: L) (W.setRow g (wcells .u8 l)) :=
  (h.setRow hge hne _).cons (set_hash hg)
theorem St.ne {w W : World} {L : List (Nat × Obj)} (h : St w L W) {p : Nat × Obj} (hp : p ∈ L) {g : Nat} (hg : g = W.heap.size) : p.1 ≠ g := by have := lt_of_block (h.rows p hp); omega
/-- A variable is made, and a hash goes into it. -/
theorem St.newh {w W : World} {L : List (Nat × Obj)} (h : St w L W) (l : List Nat) : St w ((W.heap.size, hobj l) :: L) ((W.alloc zobj).setRow W.heap.size (wcells .u8 l)) :=
  (h.alloc0 zobj).puth h.below.size (lastH W zobj _ rfl) (fun p hp => by have := lt_of_block (h.rows p hp); omega) l
end Go.Proofs.Ytbjcigokimieoaa
