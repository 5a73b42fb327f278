/-
  What a law holds in memory while it calls: rows that stay, in worlds of which nothing else is known.
-/
import Derived.Test.YtiodcmgpajdmoaaDv
namespace Go.Proofs.Ytiodcmgpajdmoaa
open Go.RowKit

/-- W is w with new blocks; each row of the list lies there. -/
structure St (w : World) (L : List (Nat × Obj)) (W : World) : Prop where
  below : Below w.heap.size w W
  rows : ∀ p, p ∈ L → W.heap[p.1]? = some p.2

theorem St.nil (w : World) : St w [] w := ⟨Below.refl _ _, fun _ h => by cases h⟩
theorem St.get {w W : World} {L : List (Nat × Obj)} (h : St w L W) {b : Nat} {o : Obj} (hm : (b, o) ∈ L) : W.heap[b]? = some o := h.rows _ hm
theorem St.keep {w W W' : World} {L : List (Nat × Obj)} (h : St w L W) (hb : Below W.heap.size W W') : St w L W' :=
  ⟨below_step h.below hb, fun p hp => (hb.block _ (lt_of_block (h.rows p hp))).trans (h.rows p hp)⟩
theorem St.alloc {w W : World} {L : List (Nat × Obj)} (h : St w L W) (o : Obj) (n : Nat) (hn : W.heap.size = n) : St w ((n, o) :: L) (W.alloc o) := by
  refine ⟨h.below.alloc h.below.size o, fun p hp => ?_⟩
  rcases List.mem_cons.1 hp with rfl | hp
  · rw [heapAt, if_pos hn.symm]
  · have := lt_of_block (h.rows p hp)
    rw [heapAt, if_neg (by omega)]
    exact h.rows p hp
theorem St.drew {w W : World} {L : List (Nat × Obj)} (h : St w L W) : St w L W.drew := ⟨h.below.drew, h.rows⟩
theorem St.drop {w W : World} {L L' : List (Nat × Obj)} (h : St w L W) (hs : ∀ p, p ∈ L' → p ∈ L) : St w L' W := ⟨h.below, fun p hp => h.rows p (hs p hp)⟩

/-- A row of four limbs. -/
@[reducible] def wrow (z : Nat) : Obj := .cells (limbs4 z) 24

/-- A number comes out of its variable. -/
theorem wpList_wide {ops : Array Oper} {rest : List Oper} {o : Oper} {a : Act} {w W : World} {L : List (Nat × Obj)} {Q : Exit → Act → World → Prop} (hw : Region.wanted o (yielded ops a.tmps) = true) (x : Operand) (ho : o.op = .load 24 x)
    (g : Nat) (hx : a.eval x = .pointer (some ⟨g, 0, none⟩)) (S : St w L W) (z : Nat) (hm : (g, wrow z) ∈ L)
    (h : wpList Try.prog ops Q rest (a.put o.dst (wv z)) W) : wpList Try.prog ops Q (o :: rest) a W :=
  wpList_step fun K hK => by
    rw [if_pos hw]
    exact wp_load_row 24 x ho g hx 24 (limbs4 z) (0, 0) _ (S.get hm) Try.underlying24 rfl (by kernel_rfl) (hK _ _ h)

theorem eql_wide_iff {x y : Nat} (hx : x < W256) (hy : y < W256) (h : x = y) : weq x y = true := (weq_iff hx hy).2 h
theorem weq_false {x y : Nat} (hx : x < W256) (hy : y < W256) (h : x ≠ y) : weq x y = false := by
  rw [weq_decide hx hy]; simpa using h
end Go.Proofs.Ytiodcmgpajdmoaa
