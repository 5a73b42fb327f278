/-
  What every law's claim needs behind its walk: how the arguments are opened, and what is said when the call has answered true and laid nothing but new blocks.
-/
import Derived.Test.YtiodcmgpajdmoaaNum
import Derived.Test.YtiodcmgpajdmoaaRows
import Derived.ProofKit
import Derived.OpenShut
import Derived.Carry
import Derived.Lib.SmallJoins
import Derived.Laws.IdiomArrays
namespace Go.Proofs.Ytiodcmgpajdmoaa
open Go.ChangeShapes Go.WideShapes Go.ChangeAt Go.RowKit

theorem own_c : ownKnob Try.prog.godebug = none := by kernel_rfl
theorem laid_c : laidOutB Try.prog = true := by kernel_rfl

theorem trodAll_stays {H : Type} {enc : TypeId × Value → H} {P : Program} (hl : laidOutB P = true) {W W' : World} (hb : Below W.heap.size W W') : ∀ (ts : List TypeId) (args : List Value) (ds : List (DataW H)) (p : List MemPlace),
    (∀ t, t ∈ ts → P.readableRec t = true ∧ t < P.types.size) → DataW.TrodAll enc P W 0 (fun _ => true) true ts args ds p → (∀ x ∈ p, x.block < W.heap.size) →
    DataW.TrodAll enc P W' 0 (fun b => decide (b < W.heap.size)) true ts args ds p
  | [], args, ds, p, _, h, _ => by
    obtain ⟨rfl, rfl, rfl⟩ := trodAll_nil h
    exact rfl
  | t :: ts, args, ds, p, ht, h, hp => by
    obtain ⟨v, vs, d, ds', p1, p2, rfl, rfl, rfl, h1, h2⟩ := trodAll_cons h
    exact trodAll_cons_mk (Below.trod hl (ht t (by simp)).1 (ht t (by simp)).2 h1 hb (fun x hx => hp x (by simp [hx]))) (trodAll_stays hl hb ts vs ds' p2 (fun t h => ht t (by simp [h])) h2 (fun x hx => hp x (by simp [hx])))

/-- A law that has answered true. -/
theorem law_post {H : Type} {enc : TypeId × Value → H} {f : Func} {s : ChangeSpec} {W W' : World} {args : Array Value} {ds gs : List (DataW H)} {before : List MemPlace} {apart fresh handsOn : Bool} (hv : s.vars = [])
    (hr : f.resultTypes = #[4]) (hf : ∀ t, t ∈ f.params.toList → Try.prog.readableRec t = true ∧ t < Try.prog.types.size)
    (hW : DataW.Whole enc Try.prog f.params.toList s.vars apart W args.toList ds gs before) (h1 : (s.fn H (ds ++ gs)).results = [.lit (.bool true)]) (h2 : (s.fn H (ds ++ gs)).args = ds) (h3 : (s.fn H (ds ++ gs)).vars = [])
    (hb : Below W.heap.size W W') : s.post enc Try.prog f apart fresh handsOn false W args (.bool true) W' := by
  have hW' := hW
  obtain ⟨p, q, hA, hV, rfl, hfz, hnd⟩ := hW
  rw [hv] at hV
  obtain ⟨rfl, rfl⟩ := trodVars_none hV
  refine ⟨ds, [], _, [], p, [], hW', ?_, ?_, ?_, hb.frame _, fun h => by cases h⟩
  · rw [h1, hr]; exact trodAll_mk1 (shut_bool Try.underlying4 _)
  · rw [h2]
    exact trodAll_stays laid_c hb _ _ _ _ hf hA (fun x hx => hW'.lt x (by simp [hx]))
  · rw [h3, hv]; exact rfl

/-- What 'wf' says of a uint64. -/
theorem wd_of_wf {x : Int} (h : (Lit.int .u64 x).wf = true) : 0 ≤ x ∧ x < 18446744073709551616 := by
  simp [Lit.wf, IntKind.min, IntKind.max, IntKind.signed, IntKind.bits] at h
  exact ⟨by omega, by omega⟩

/-- What 'wf' says of an int. -/
theorem i64_of_wf {x : Int} (h : (Lit.int .i64 x).wf = true) : -9223372036854775808 ≤ x ∧ x ≤ 9223372036854775807 := by
  simp [Lit.wf, IntKind.min, IntKind.max, IntKind.signed, IntKind.bits] at h
  exact ⟨by omega, by omega⟩

set_option maxRecDepth 100000 in
/-- An argument that is a number of 256 bits. -/
theorem open_wide {H : Type} {enc : TypeId × Value → H} {W : World} {r : Reach} {base : Nat} {sp : Nat → Bool} {held : Bool} {b0 : Nat} {v : Value} {d : DataW H} {p : List MemPlace} (hv : Value.okWide Try.prog W r base 24 v) (h : DataW.Trod enc Try.prog W b0 sp held 24 v d p) :
    ∃ n, n < W256 ∧ v = wv n := by
  unfold Value.okWide at hv
  rw [Try.underlying24] at hv
  obtain ⟨cs, rfl, hsz, -⟩ := hv
  have hc : Try.prog.cellsOf 24 = 4 := by kernel_rfl
  obtain ⟨c0, c1, c2, c3, rfl⟩ := Joins.array4 (hsz.trans hc)
  obtain ⟨fuel, hf⟩ := h
  obtain ⟨y0, y1, y2, y3, n, -, h0, h1, h2, h3⟩ := trod_array4 Try.underlying24 (by kernel_rfl) hf
  obtain ⟨a0, e0, -, w0⟩ := DataW.trod_int Try.underlying22 h0
  obtain ⟨a1, e1, -, w1⟩ := DataW.trod_int Try.underlying22 h1
  obtain ⟨a2, e2, -, w2⟩ := DataW.trod_int Try.underlying22 h2
  obtain ⟨a3, e3, -, w3⟩ := DataW.trod_int Try.underlying22 h3
  simp at e0 e1 e2 e3
  subst e0 e1 e2 e3
  have b0 := wd_of_wf w0; have b1 := wd_of_wf w1; have b2 := wd_of_wf w2; have b3 := wd_of_wf w3
  obtain ⟨n0, rfl⟩ := Int.eq_ofNat_of_zero_le b0.1
  obtain ⟨n1, rfl⟩ := Int.eq_ofNat_of_zero_le b1.1
  obtain ⟨n2, rfl⟩ := Int.eq_ofNat_of_zero_le b2.1
  obtain ⟨n3, rfl⟩ := Int.eq_ofNat_of_zero_le b3.1
  obtain ⟨l0, l1, l2, l3, hw⟩ := limbs_of n0 n1 n2 n3 (by omega) (by omega) (by omega) (by omega)
  exact ⟨_, hw, by simp only [wv, l0, l1, l2, l3]⟩

end Go.Proofs.Ytiodcmgpajdmoaa
