/-
  What every law's claim needs behind its walk: how the arguments are opened, and what is said when the call has answered true and laid nothing but new blocks.
-/
import Derived.Test.YtbjcigokimieoaaNum
import Derived.Test.YtbjcigokimieoaaRows
import Derived.ProofKit
import Derived.OpenShut
import Derived.Carry
import Derived.Lib.SmallJoins
import Derived.Laws.IdiomArrays
namespace Go.Proofs.Ytbjcigokimieoaa
open Go.ChangeShapes Go.WideShapes Go.ChangeAt Go.RowKit

theorem own_c : ownKnob Try.prog.godebug = none := by kernel_rfl
theorem laid_c : laidOutB Try.prog = true := by kernel_rfl

theorem trodAll_stays {H : Type} {enc : TypeId × Value → H} {P : Program} (hl : laidOutB P = true) {W W' : World} (hb : Below W.heap.size W W') : ∀ (ts : List TypeId) (args : List Value) (ds : List (DataW H)) (p : List MemPlace),
    (∀ t, t ∈ ts → P.readableRec t = true ∧ t < P.types.size) → DataW.TrodAll enc P W 0 (fun _ => true) true ts args ds p → (∀ x ∈ p, x.block < W.heap.size) →
    DataW.TrodAll enc P W' 0 (fun b => decide (b < W.heap.size)) true ts args ds p
  | [], args, ds, p, _, h, _ => by
    obtain ⟨rfl, rfl, rfl⟩ := trodAll_nil h
    exact rfl
  | t :: ts, args, ds, p, ht, h, hp => by
    obtain ⟨v, vs, d, ds', p1, p2, rfl, rfl, rfl, h1, h2⟩ := trodAll_cons h
    exact trodAll_cons_mk (Below.trod hl (ht t (by simp)).1 (ht t (by simp)).2 h1 hb (fun x hx => hp x (by simp [hx]))) (trodAll_stays hl hb ts vs ds' p2 (fun t h => ht t (by simp [h])) h2 (fun x hx => hp x (by simp [hx])))

/-- A law that has answered true. -/
theorem law_post {H : Type} {enc : TypeId × Value → H} {f : Func} {s : ChangeSpec} {W W' : World} {args : Array Value} {ds gs : List (DataW H)} {before : List MemPlace} {apart fresh handsOn : Bool} (hv : s.vars = [])
    (hr : f.resultTypes = #[4]) (hf : ∀ t, t ∈ f.params.toList → Try.prog.readableRec t = true ∧ t < Try.prog.types.size)
    (hW : DataW.Whole enc Try.prog f.params.toList s.vars apart W args.toList ds gs before) (h1 : (s.fn H (ds ++ gs)).results = [.lit (.bool true)]) (h2 : (s.fn H (ds ++ gs)).args = ds) (h3 : (s.fn H (ds ++ gs)).vars = [])
    (hb : Below W.heap.size W W') : s.post enc Try.prog f apart fresh handsOn false W args (.bool true) W' := by
  have hW' := hW
  obtain ⟨p, q, hA, hV, rfl, hfz, hnd⟩ := hW
  rw [hv] at hV
  obtain ⟨rfl, rfl⟩ := trodVars_none hV
  refine ⟨ds, [], _, [], p, [], hW', ?_, ?_, ?_, hb.frame _, fun h => by cases h⟩
  · rw [h1, hr]; exact trodAll_mk1 (shut_bool Try.underlying4 _)
  · rw [h2]
    exact trodAll_stays laid_c hb _ _ _ _ hf hA (fun x hx => hW'.lt x (by simp [hx]))
  · rw [h3, hv]; exact rfl

/-- What 'wf' says of a uint64. -/
theorem wd_of_wf {x : Int} (h : (Lit.int .u64 x).wf = true) : 0 ≤ x ∧ x < 18446744073709551616 := by
  simp [Lit.wf, IntKind.min, IntKind.max, IntKind.signed, IntKind.bits] at h
  exact ⟨by omega, by omega⟩

/-- What 'wf' says of an int. -/
theorem i64_of_wf {x : Int} (h : (Lit.int .i64 x).wf = true) : -9223372036854775808 ≤ x ∧ x ≤ 9223372036854775807 := by
  simp [Lit.wf, IntKind.min, IntKind.max, IntKind.signed, IntKind.bits] at h
  exact ⟨by omega, by omega⟩

end Go.Proofs.Ytbjcigokimieoaa
