/-
  A region that draws its order, by an invariant: what holds when a set of its operations has been carried out. One step for each operation, whatever the order.
-/
import Derived.Orders
import Derived.RegionTactic
import Derived.Below
namespace Go.Proofs.Ytiodcmgpajdmoaa
open Go.RowKit

/-- One operation more. -/
def also (L : Nat → Bool) (i : Nat) : Nat → Bool := fun j => j == i || L j

theorem wp_region_inv {P : Program} {ops : Array Oper} {Q : Exit → Act → World → Prop} {id : Nat} {a : Act} {w : World} (n : Nat) (hn : ops.size = n) (hm : P.follows .mixedOrders = true)
    (hac : ∀ (i : Nat) (o : Oper), ops[i]? = some o → ∀ e ∈ o.after, Region.binds .any e = true → e.on < i) (I : (Nat → Bool) → Act → World → Prop) (h0 : I (fun _ => false) a w.drew)
    (step : ∀ (i : Nat) (o : Oper), ops[i]? = some o → ∀ L a w, I L a w → L i = false → (∀ e ∈ o.after, Region.binds .any e = true → L e.on = true) →
      if Region.wanted o (yielded ops a.tmps) = true then Oper.wp P o a w (I (also L i)) Q else I (also L i) (a.put o.dst undef) w)
    (fin : ∀ L a w, (∀ i, i < n → L i = true) → I L a w → Q .normal a w) : (Code.region id ops true).wp P Q a w := by
  refine wp_region_any hm ?_
  have key : ∀ (fuel : Nat) (listed : Array Bool) (a : Act) (w : World), listed.size = n → (List.range n).countP (fun i => !listed.getD i false) ≤ fuel → I (fun i => listed.getD i false) a w → wpAny P .any ops Q fuel listed a w := by
    have full : ∀ (listed : Array Bool), listed.size = n → Region.ready .any ops listed = [] → ∀ i, i < n → listed.getD i false = true := by
      intro listed hs hr i
      induction i using Nat.strongRecOn with
      | _ i ih =>
        intro hi
        cases hl : listed.getD i false with
        | true => rfl
        | false =>
          have hmem : i ∈ Region.ready .any ops listed := by
            have hsz : i < ops.size := by omega
            refine mem_ready.2 ⟨?_, ops[i], Array.getElem?_eq_getElem hsz, fun e he hbd => ih _ (hac i _ (Array.getElem?_eq_getElem hsz) e he hbd) (by have := hac i _ (Array.getElem?_eq_getElem hsz) e he hbd; omega)⟩
            rw [Array.getD_eq_getD_getElem?] at hl ⊢
            rw [Array.getElem?_eq_getElem (by omega)] at hl ⊢
            exact hl
          rw [hr] at hmem; cases hmem
    intro fuel
    induction fuel with
    | zero =>
      intro listed a w hs hc hI
      have hall : ∀ i, i < n → listed.getD i false = true := by
        intro i hi
        have := List.countP_eq_zero.1 (Nat.le_zero.1 hc) i (List.mem_range.2 hi)
        simpa using this
      refine ⟨?_, fin _ a w hall hI⟩
      refine List.eq_nil_iff_forall_not_mem.2 fun i hi => ?_
      obtain ⟨h1, o, ho, -⟩ := mem_ready.1 hi
      have hlt : i < n := by have := (Array.getElem?_eq_some_iff.1 ho).1; omega
      have := hall i hlt
      rw [Array.getD_eq_getD_getElem?, Array.getElem?_eq_getElem (by omega)] at this h1
      simp at this h1
      rw [this] at h1; cases h1
    | succ fuel ih =>
      intro listed a w hs hc hI
      refine ⟨fun hr => fin _ a w (full listed hs hr) hI, fun i hi => ?_⟩
      obtain ⟨h1, o, ho, hdep⟩ := mem_ready.1 hi
      have hlt : i < n := by have := (Array.getElem?_eq_some_iff.1 ho).1; omega
      refine wpOp_step ho fun K' hK => ?_
      have hf0 : listed.getD i false = false := by
        rw [Array.getD_eq_getD_getElem?, Array.getElem?_eq_getElem (by omega)] at h1 ⊢; exact h1
      have st := step i o ho _ a w hI hf0 hdep
      have hset : (fun j => (listed.setIfInBounds i true).getD j false) = also (fun j => listed.getD j false) i := by
        funext j
        unfold also
        simp only [Array.getD_eq_getD_getElem?, Array.getElem?_setIfInBounds]
        by_cases e : i = j
        · subst e; simp [hs, hlt]
        · simp [e, show ¬ j = i from fun h => e h.symm]
      have hcount : (List.range n).countP (fun j => !(listed.setIfInBounds i true).getD j false) ≤ fuel := by
        have hf : listed.getD i false = false := by
          rw [Array.getD_eq_getD_getElem?, Array.getElem?_eq_getElem (by omega)] at h1 ⊢; exact h1
        have hlt2 : (List.range n).countP (fun j => !(listed.setIfInBounds i true).getD j false) < (List.range n).countP (fun j => !listed.getD j false) := by
          have h3 := congrFun hset
          simp only [h3]
          clear h3 hset
          have : ∀ l : List Nat, i ∈ l → l.countP (fun j => !also (fun j => listed.getD j false) i j) < l.countP (fun j => !listed.getD j false) := by
            intro l
            induction l with
            | nil => intro h; cases h
            | cons x l ihl =>
              intro h
              have hle : l.countP (fun j => !also (fun j => listed.getD j false) i j) ≤ l.countP (fun j => !listed.getD j false) := List.countP_mono_left fun y _ hy => by simp [also] at hy ⊢; exact hy.2
              by_cases e : x = i
              · subst e
                rw [List.countP_cons, List.countP_cons]; simp only [also, beq_self_eq_true, Bool.true_or, hf]; simp only [Bool.not_true, Bool.false_eq_true, if_false, Bool.not_false, if_true]
                exact Nat.lt_succ_of_le hle
              · have hm2 : i ∈ l := by rcases List.mem_cons.1 h with h | h; exact absurd h.symm e; exact h
                have := ihl hm2
                rw [List.countP_cons, List.countP_cons]
                have e2 : (also (fun j => listed.getD j false) i x) = listed.getD x false := by simp [also, e]
                rw [e2]; omega
          exact this _ (List.mem_range.2 hlt)
        omega
      have goK : ∀ a' w', I (also (fun j => listed.getD j false) i) a' w' → K' a' w' := fun a' w' h => hK a' w' (ih _ a' w' (by simpa using hs) hcount (by rw [hset]; exact h))
      split
      · rename_i hw; rw [if_pos hw] at st; exact Oper.wp_mono goK st
      · rename_i hw; rw [if_neg hw] at st; exact goK _ _ st
  refine key _ _ _ _ (by simp [hn]) ?_ ?_
  · rw [hn]; exact Nat.le_trans (List.countP_le_length) (by simp)
  · have : (fun i => (Array.replicate ops.size false).getD i false) = fun _ => false := by
      funext i
      rw [Array.getD_eq_getD_getElem?, Array.getElem?_replicate]; split <;> rfl
    rw [this]; exact h0

/-- Each edge that binds goes back, and nothing is guarded. -/
def plainOps (ops : List Oper) : Bool := (List.range ops.length).all fun i => match ops[i]? with | some o => o.guard.isNone && o.after.all (fun e => !Region.binds .any e || decide (e.on < i)) | none => true

/-- The steps, one for each operation from number i on. -/
def Steps (P : Program) (I : (Nat → Bool) → Act → World → Prop) (Q : Exit → Act → World → Prop) : Nat → List Oper → Prop
  | _, [] => True
  | i, o :: rest => (∀ L a w, I L a w → L i = false → (∀ e ∈ o.after, Region.binds .any e = true → L e.on = true) → Oper.wp P o a w (I (also L i)) Q) ∧ Steps P I Q (i + 1) rest

theorem Steps.at_ {P : Program} {I : (Nat → Bool) → Act → World → Prop} {Q : Exit → Act → World → Prop} : ∀ {l : List Oper} {i : Nat}, Steps P I Q i l → ∀ (j : Nat) (o : Oper), l[j]? = some o →
    ∀ L a w, I L a w → L (i + j) = false → (∀ e ∈ o.after, Region.binds .any e = true → L e.on = true) → Oper.wp P o a w (I (also L (i + j))) Q
  | [], _, _, j, o, h => by simp at h
  | x :: l, i, hs, 0, o, h => by
    simp at h; subst h
    exact hs.1
  | x :: l, i, hs, j + 1, o, h => by
    have := Steps.at_ hs.2 j o (by simpa using h)
    rw [show i + 1 + j = i + (j + 1) by omega] at this
    exact this

theorem wp_region_steps {P : Program} {l : List Oper} {Q : Exit → Act → World → Prop} {id : Nat} {a : Act} {w : World} (hm : P.follows .mixedOrders = true) (hp : plainOps l = true)
    (I : (Nat → Bool) → Act → World → Prop) (h0 : I (fun _ => false) a w.drew) (step : Steps P I Q 0 l)
    (fin : ∀ L a w, (∀ i, i < l.length → L i = true) → I L a w → Q .normal a w) : (Code.region id l.toArray true).wp P Q a w := by
  have look : ∀ (i : Nat) (o : Oper), l.toArray[i]? = some o → o.guard.isNone = true ∧ ∀ e ∈ o.after, Region.binds .any e = true → e.on < i := by
    intro i o ho
    have ho' : l[i]? = some o := by simpa using ho
    have hi : i < l.length := (List.getElem?_eq_some_iff.1 ho').1
    have h1 := List.all_eq_true.1 hp i (List.mem_range.2 hi)
    rw [ho', Bool.and_eq_true] at h1
    refine ⟨h1.1, fun e he hbd => ?_⟩
    have h2 := Array.all_eq_true_iff_forall_mem.1 h1.2 e he
    rw [hbd] at h2
    simpa using h2
  refine wp_region_inv l.length (by simp) hm (fun i o ho => (look i o ho).2) I h0 (fun i o ho L a w hI hf hd => ?_) fin
  have hg : o.guard = none := by have := (look i o ho).1; simpa using this
  rw [if_pos (by simp [Region.wanted, hg])]
  have := step.at_ i o (by simpa using ho) L a w hI (by rw [Nat.zero_add]; exact hf) hd
  rwa [Nat.zero_add] at this

theorem also_of {L : Nat → Bool} {j k : Nat} (hk : k ≠ j) : also L j k = L k := by simp [also, hk]
theorem also_self {L : Nat → Bool} {j : Nat} : also L j j = true := by simp [also]
end Go.Proofs.Ytiodcmgpajdmoaa
