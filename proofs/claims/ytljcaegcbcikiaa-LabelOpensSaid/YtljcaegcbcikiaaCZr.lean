/-
  The statement LabelOpens holds: for every input, the program's function LabelOpens answers true.
-/
import Derived.Test.YtljcaegcbcikiaaZr6
import Derived.SizedLaws
namespace Go.Proofs.Ytljcaegcbcikiaa
open Go.ChangeShapes Go.WideShapes Go.ChangeAt Go.RowKit

set_option maxRecDepth 100000 in
theorem labelOpens_lifted (os : Os) (started : os.Started) (H : Type) (enc : TypeId × Value → H) :
    ReturnsInHanded {} Try.checked os 3 .any (Rows.labelOpensSpec.pre6 enc Try.prog Try.f3 Rows.labelOpensRow.domain false) (Rows.labelOpensSpec.post enc Try.prog Try.f3 false true false false) := by
  refine returnsInHanded_of_change_sized (C := Try.checked) own_c started (by kernel_rfl) Try.func3
    (ChangeSpec.witness6 (enc := enc) (C := Try.checked) false ⟨#[], #[.agg (deedc noDd), .slice none 0 0, .slice none 0 0], []⟩ 8 (by kernel_rfl) (by kernel_rfl) (by kernel_rfl) (by kernel_rfl)) ?_
  intro W base args ds gs before hval0 hW hcnd hwt _
  have hval : ∀ (j : Nat) t v, Try.f3.params[j]? = some t → args[j]? = some v → Value.okWide Try.prog W .any base t v := hval0
  have hW' := hW
  obtain ⟨p, q, hA0, hV, rfl, hfz, hnd⟩ := hW
  have hA : DataW.TrodAll enc Try.prog W 0 (fun _ => true) true Try.f3.params.toList args.toList ds p := hA0
  rw [Try.params3] at hA hval
  obtain ⟨v0, vs0, d0, ds0, p0, q0, hargs, rfl, rfl, h0, r0⟩ := trodAll_cons hA
  obtain ⟨v1, vs1, d1, ds1, p1, q1, rfl, rfl, rfl, h1, r1⟩ := trodAll_cons r0
  obtain ⟨v2, vs2, d2, ds2, p2, q2, rfl, rfl, rfl, h2, r2⟩ := trodAll_cons r1
  obtain ⟨rfl, rfl, rfl⟩ := trodAll_nil r2
  obtain rfl : args = #[v0, v1, v2] := by cases args; simpa using hargs
  obtain ⟨rfl, rfl⟩ := trodVars_none hV
  obtain ⟨⟨k, nm, vl, rd, cm⟩, rfl, b0, b8, x0, x4, hd0⟩ := open_deedz (hval 0 25 v0 rfl rfl) h0
  obtain ⟨x1, b1, pc1, cc1⟩ := open_bytesc (hval 1 26 v1 rfl rfl) h1
  obtain ⟨x2, b2, pc2, cc2⟩ := open_bytesc (hval 2 26 v2 rfl rfl) h2
  clear hA0 hval0
  subst hd0
  have hz := deed_sizes hwt
  have hr : reachBytes = 140737488351232 := rfl
  rw [hr] at hz
  refine (lopens_w k nm vl rd cm v1 x1 v2 x2 ⟨b0, b8, ?_⟩ b1 b2 W pc1 cc1 pc2 cc2).mono fun e W' ⟨he, hb⟩ => ?_
  · have h1 : nm.size = nm.data.toList.length := by simp
    have h2 : vl.size = vl.data.toList.length := by simp
    have h3 : rd.size = rd.data.toList.length := by simp
    simp only at hz; omega
  subst he
  exact ⟨_, rfl, law_post rfl rfl (by rw [Try.params3]; intro t ht; simp at ht; rcases ht with rfl | rfl <;> exact ⟨by kernel_rfl, of_decide_eq_true (by kernel_rfl)⟩) hW' rfl rfl rfl hb⟩

theorem labelOpens_holds : Rows.LabelOpensSaid :=
  OpenClaim.holds_of_wide 3 Try.f3 rfl rfl rfl rfl rfl rfl rfl ⟨rfl, rfl, rfl, rfl, rfl⟩ rfl rfl rfl rfl rfl (by kernel_rfl) Try.func3 (by kernel_rfl)
    (of_decide_eq_true (by kernel_rfl)) (by unfold Func.isWrapper; rw [if_neg (of_decide_eq_false (by kernel_rfl))]; exact ⟨rfl, rfl⟩)
    (fun os started H enc _ => labelOpens_lifted os started H enc)
end Go.Proofs.Ytljcaegcbcikiaa
