/-
  What a law holds in memory while it calls: rows that stay, in worlds of which nothing else is known.
-/
import Derived.Test.YtbjcigokimieoaaDv
namespace Go.Proofs.Ytbjcigokimieoaa
open Go.RowKit

/-- W is w with new blocks; each row of the list lies there. -/
structure St (w : World) (L : List (Nat × Obj)) (W : World) : Prop where
  below : Below w.heap.size w W
  rows : ∀ p, p ∈ L → W.heap[p.1]? = some p.2

theorem St.nil (w : World) : St w [] w := ⟨Below.refl _ _, fun _ h => by cases h⟩
theorem St.get {w W : World} {L : List (Nat × Obj)} (h : St w L W) {b : Nat} {o : Obj} (hm : (b, o) ∈ L) : W.heap[b]? = some o := h.rows _ hm
theorem St.keep {w W W' : World} {L : List (Nat × Obj)} (h : St w L W) (hb : Below W.heap.size W W') : St w L W' :=
  ⟨below_step h.below hb, fun p hp => (hb.block _ (lt_of_block (h.rows p hp))).trans (h.rows p hp)⟩
theorem St.alloc {w W : World} {L : List (Nat × Obj)} (h : St w L W) (o : Obj) (n : Nat) (hn : W.heap.size = n) : St w ((n, o) :: L) (W.alloc o) := by
  refine ⟨h.below.alloc h.below.size o, fun p hp => ?_⟩
  rcases List.mem_cons.1 hp with rfl | hp
  · rw [heapAt, if_pos hn.symm]
  · have := lt_of_block (h.rows p hp)
    rw [heapAt, if_neg (by omega)]
    exact h.rows p hp
theorem St.drew {w W : World} {L : List (Nat × Obj)} (h : St w L W) : St w L W.drew := ⟨h.below.drew, h.rows⟩
theorem St.drop {w W : World} {L L' : List (Nat × Obj)} (h : St w L W) (hs : ∀ p, p ∈ L' → p ∈ L) : St w L' W := ⟨h.below, fun p hp => h.rows p (hs p hp)⟩

theorem eql_wide_iff {x y : Nat} (hx : x < W256) (hy : y < W256) (h : x = y) : weq x y = true := (weq_iff hx hy).2 h
theorem weq_false {x y : Nat} (hx : x < W256) (hy : y < W256) (h : x ≠ y) : weq x y = false := by
  rw [weq_decide hx hy]; simpa using h

theorem St.alloc0 {w W : World} {L : List (Nat × Obj)} (h : St w L W) (o : Obj) : St w L (W.alloc o) := (h.alloc o _ rfl).drop (fun _ hp => List.mem_cons_of_mem _ hp)

/-- What a call that makes new blocks alone gives the walk, as rules. -/
theorem bfacts {W w1 : World} (hb : Below W.heap.size W w1) : (∀ b o, b < W.heap.size → w1.cell? ⟨b, o, none⟩ = W.cell? ⟨b, o, none⟩) ∧ (∀ b o, b < W.heap.size → w1.frozen? ⟨b, o, none⟩ = W.frozen? ⟨b, o, none⟩) ∧
    (∀ n, n < W.heap.size → n < w1.heap.size) ∧ (∀ n, n < W.heap.size → n ≤ w1.heap.size) :=
  ⟨fun b o h => hb.cell (p := ⟨b, o, none⟩) h, fun b o h => hb.frozen (p := ⟨b, o, none⟩) h, fun _ h => Nat.lt_of_lt_of_le h hb.size, fun _ h => Nat.le_of_lt (Nat.lt_of_lt_of_le h hb.size)⟩

theorem St.setCell1 {w W W0 : World} {L : List (Nat × Obj)} (h0 : St w L W0) (h : St w L W) (o : Nat) (v : Value) : St w L (W.setCell ⟨W0.heap.size, o, none⟩ v) :=
  ⟨h.below.setCell h0.below.size _, fun p hp => (heap_setCell_other _ _ _ _ (by have := lt_of_block (h0.rows p hp); show p.1 ≠ W0.heap.size; omega)).trans (h.rows p hp)⟩

theorem St.setCell2 {w W W0 : World} {L : List (Nat × Obj)} {n : Nat} (h0 : St w L W0) (hn : W0.heap.size ≤ n) (h : St w L W) (o : Nat) (v : Value) : St w L (W.setCell ⟨n, o, none⟩ v) :=
  ⟨h.below.setCell (Nat.le_trans h0.below.size hn) _, fun p hp => (heap_setCell_other _ _ _ _ (by have := lt_of_block (h0.rows p hp); show p.1 ≠ n; omega)).trans (h.rows p hp)⟩

theorem St.cons {w W : World} {L : List (Nat × Obj)} (h : St w L W) {g : Nat} {o : Obj} (hg : W.heap[g]? = some o) : St w ((g, o) :: L) W :=
  ⟨h.below, fun p hp => by
    rcases List.mem_cons.1 hp with rfl | hp
    · exact hg
    · exact h.rows p hp⟩
theorem keepH {W W' : World} (hb : Below W.heap.size W W') {b : Nat} {o : Obj} (h : W.heap[b]? = some o) : W'.heap[b]? = some o := (hb.block _ (lt_of_block h)).trans h
theorem lastH (W : World) (o : Obj) (n : Nat) (h : W.heap.size = n) : (W.alloc o).heap[n]? = some o := by rw [heapAt, if_pos h.symm]
end Go.Proofs.Ytbjcigokimieoaa
