/-
  The statement SignBack holds: for every input, the program's function SignBack answers true.
-/
import Derived.Test.YtknoamaapnbibaaZx4
namespace Go.Proofs.Ytknoamaapnbibaa
open Go.ChangeShapes Go.WideShapes Go.ChangeAt Go.RowKit

set_option maxRecDepth 100000 in
theorem signBack_lifted (os : Os) (started : os.Started) (H : Type) (enc : TypeId × Value → H) :
    ReturnsInHanded {} Try.checked os 7 .any (Rows.signBackSpec.pre6 enc Try.prog Try.f7 Rows.signBackRow.domain false) (Rows.signBackSpec.post enc Try.prog Try.f7 false true false false) := by
  refine returnsInHanded_of_change (C := Try.checked) own_c started (by kernel_rfl) Try.func7
    (ChangeSpec.witness6 (enc := enc) (C := Try.checked) false ⟨#[], #[.agg (limbs8 0 0), .agg (row32 fun _ => 0), .int .i64 0], []⟩ 8 (by kernel_rfl) (by kernel_rfl) (by kernel_rfl) (by kernel_rfl)) ?_
  intro W base args ds gs before hval0 hW hcnd _
  have hval : ∀ (j : Nat) t v, Try.f7.params[j]? = some t → args[j]? = some v → Value.okWide Try.prog W .any base t v := hval0
  have hW' := hW
  obtain ⟨p, q, hA0, hV, rfl, hfz, hnd⟩ := hW
  have hA : DataW.TrodAll enc Try.prog W 0 (fun _ => true) true Try.f7.params.toList args.toList ds p := hA0
  rw [Try.params7] at hA hval
  obtain ⟨v0, vs0, d0, ds0, p0, q0, hargs, rfl, rfl, h0, r0⟩ := trodAll_cons hA
  obtain ⟨v1, vs1, d1, ds1, p1, q1, rfl, rfl, rfl, h1, r1⟩ := trodAll_cons r0
  obtain ⟨v2, vs2, d2, ds2, p2, q2, rfl, rfl, rfl, h2, r2⟩ := trodAll_cons r1
  obtain ⟨rfl, rfl, rfl⟩ := trodAll_nil r2
  obtain rfl : args = #[v0, v1, v2] := by cases args; simpa using hargs
  obtain ⟨rfl, rfl⟩ := trodVars_none hV
  obtain ⟨x0, y0, b0, rfl⟩ := open_wide2 (hval 0 58 v0 rfl rfl) h0
  obtain ⟨x1, b1, rfl⟩ := open_h32 (hval 1 26 v1 rfl rfl) h1
  obtain ⟨x2, rfl, -, -, c2⟩ := open_int Try.underlying3 (hval 2 3 v2 rfl rfl) h2; have b2 := i64_of_wf c2
  clear hA0 hval0
  refine (signback_w x0 y0 x1 x2 b0.1 b0.2 b1 b2 W ).mono fun e W' ⟨he, hb⟩ => ?_
  subst he
  exact ⟨_, rfl, law_post rfl rfl (by rw [Try.params7]; intro t ht; simp at ht; rcases ht with rfl | rfl | rfl <;> exact ⟨by kernel_rfl, of_decide_eq_true (by kernel_rfl)⟩) hW' rfl rfl rfl hb⟩

theorem signBack_holds : Rows.SignBackSaid :=
  OpenClaim.holds_of_wide 7 Try.f7 rfl rfl rfl rfl rfl rfl rfl ⟨rfl, rfl, rfl, rfl, rfl⟩ rfl rfl rfl rfl rfl (by kernel_rfl) Try.func7 (by kernel_rfl)
    (of_decide_eq_true (by kernel_rfl)) (by unfold Func.isWrapper; rw [if_neg (of_decide_eq_false (by kernel_rfl))]; exact ⟨rfl, rfl⟩)
    (fun os started H enc _ => signBack_lifted os started H enc)
end Go.Proofs.Ytknoamaapnbibaa
