/-
  What the digests' laws share: slices that came in; lists of pieces; short ones compared.
-/
import Derived.Test.YtbjcigokimieoaaIa
import Derived.Test.YtbjcigokimieoaaHk
namespace Go.Proofs.Ytbjcigokimieoaa
open Go.RowKit

theorem eql_short (a b : List Nat) (ha : a.length = 20) (hb : b.length = 20) (w : World) : (Op.equalIn 10000 27 (.agg (wcells .u8 a)) (.agg (wcells .u8 b))).run Try.prog w = .ok (heq a b) w := by
  obtain ⟨i, hi⟩ := Option.isSome_iff_exists.1 u8_info
  have := run_eql_array w Try.underlying27 Try.underlying5 hi u8_cells (fun i => ((nth a i : Nat) : Int)) (fun i => ((nth b i : Nat) : Int)) _ _ (fun j hj => wcells_get .u8 a j (by omega)) (fun j hj => wcells_get .u8 b j (by omega))
  rw [alike_lists 20 a b ha hb] at this
  exact this
theorem short_guard : Try.prog.eqGuardType Try.prog.depth 27 = false := by kernel_rfl

/-- A piece that came in, in a later world. -/
theorem PieceV.later {w W : World} {v : Value} {bs : List Nat} (h : PieceV w w.heap.size v bs) (hb : Below w.heap.size w W) : PieceV W W.heap.size v bs :=
  (h.keep (Nat.le_refl _) (F := fun _ => False) (Keeps.of_below hb) (fun _ _ h => h)).mono hb.size
theorem RestV.piece {W : World} {v : Value} {bs : List Nat} (h : RestV W v bs) : PieceV W W.heap.size v bs := by
  rcases h with ⟨rfl, rfl⟩ | ⟨g, off, cap, cur, rfl, hg, h1, h2, h3⟩
  · exact Or.inl ⟨⟨_, _, rfl⟩, rfl⟩
  · exact Or.inr ⟨g, off, cap, lt_of_block hg, rfl, fun i hi => (cell_of_row _ _ _ _ _ _ hg).trans (h3 i hi)⟩
theorem PadR.keep {w W W' : World} {v : Value} {z : List Nat} (h : PadR w v z W) (hb : Below W.heap.size W W') : PadR w v z W' :=
  ⟨below_step h.below hb, h.rest.keep (F := fun _ => False) (Keeps.of_below hb) (fun _ _ h => h), h.own⟩
/-- Pieces in a row of their own. -/
theorem pcs_row {W : World} {g : Nat} {xs : List Value} {t : TypeId} {pss : List (List Nat)} (hg : W.heap[g]? = some (.cells xs.toArray t (0, 0))) (hl : xs.length = pss.length) (hp : ∀ (i : Nat) (x : Value) (ys : List Nat), xs[i]? = some x → pss[i]? = some ys → PieceV W W.heap.size x ys) :
    Pcs W W.heap.size (.slice (some ⟨g, 0, none⟩) pss.length pss.length) pss :=
  ⟨fun _ h => h, Or.inr ⟨g, 0, pss.length, lt_of_block hg, rfl, fun i ys hi => by
    have hlt : i < pss.length := (List.getElem?_eq_some_iff.1 hi).1
    obtain ⟨x, hx⟩ : ∃ x, xs[i]? = some x := ⟨xs[i]'(by omega), List.getElem?_eq_getElem (by omega)⟩
    exact ⟨x, by rw [Nat.zero_add, cell_of_row _ _ _ _ _ _ hg, List.getElem?_toArray, hx], hp i x ys hx hi⟩⟩⟩
theorem pcs1 {W : World} {g : Nat} {x : Value} {t : TypeId} {a : List Nat} (hg : W.heap[g]? = some (.cells #[x] t (0, 0))) (hp : PieceV W W.heap.size x a) : Pcs W W.heap.size (.slice (some ⟨g, 0, none⟩) 1 1) [a] :=
  pcs_row (xs := [x]) (pss := [a]) hg rfl (fun i y ys hy hys => by
    match i with
    | 0 => simp at hy hys; subst hy hys; exact hp
    | i + 1 => simp at hys)
theorem pcs2 {W : World} {g : Nat} {x y : Value} {t : TypeId} {a b : List Nat} (hg : W.heap[g]? = some (.cells #[x, y] t (0, 0))) (hp : PieceV W W.heap.size x a) (hq : PieceV W W.heap.size y b) : Pcs W W.heap.size (.slice (some ⟨g, 0, none⟩) 2 2) [a, b] :=
  pcs_row (xs := [x, y]) (pss := [a, b]) hg rfl (fun i z ys hy hys => by
    match i with
    | 0 => simp at hy hys; subst hy hys; exact hp
    | 1 => simp at hy hys; subst hy hys; exact hq
    | i + 2 => simp at hys)
theorem pcs3 {W : World} {g : Nat} {x y z : Value} {t : TypeId} {a b c : List Nat} (hg : W.heap[g]? = some (.cells #[x, y, z] t (0, 0))) (hp : PieceV W W.heap.size x a) (hq : PieceV W W.heap.size y b) (hr : PieceV W W.heap.size z c) : Pcs W W.heap.size (.slice (some ⟨g, 0, none⟩) 3 3) [a, b, c] :=
  pcs_row (xs := [x, y, z]) (pss := [a, b, c]) hg rfl (fun i u ys hy hys => by
    match i with
    | 0 => simp at hy hys; subst hy hys; exact hp
    | 1 => simp at hy hys; subst hy hys; exact hq
    | 2 => simp at hy hys; subst hy hys; exact hr
    | i + 3 => simp at hys)
end Go.Proofs.Ytbjcigokimieoaa
