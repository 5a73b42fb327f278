/-
  digestAlive, the chapter's example: it answers true.
-/
import Derived.Test.YtbjcigokimieoaaHj
namespace Go.Proofs.Ytbjcigokimieoaa
open Go.RowKit

theorem pcs_nil (w : World) : Pcs w w.heap.size (.slice none 0 0) [] := ⟨fun _ h => h, Or.inl ⟨⟨_, _, rfl⟩, rfl⟩⟩
theorem alive_at : nth (sha []) 0 = 227 ∧ nth (sha []) 1 = 176 ∧ nth (sha []) 2 = 196 ∧ nth (sha []) 3 = 66 := by
  have h := sha_nil
  have e : ∀ i, i < 4 → nth (sha []) i = nth ((sha []).take 4) i := fun i hi => by
    unfold nth; rw [List.getD_eq_getElem?_getD, List.getD_eq_getElem?_getD, List.getElem?_take, if_pos hi]
  rw [e 0 (by omega), e 1 (by omega), e 2 (by omega), e 3 (by omega), h]
  exact ⟨rfl, rfl, rfl, rfl⟩

end Go.Proofs.Ytbjcigokimieoaa
