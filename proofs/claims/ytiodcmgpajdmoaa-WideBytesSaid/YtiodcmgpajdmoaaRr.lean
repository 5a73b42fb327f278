/-
  A region that draws its order, guarded or not: what each operation yields is said by a relation that stays when new blocks are made. One step for each operation, whatever the order; the frame is a letter.
-/
import Derived.Test.YtiodcmgpajdmoaaRi
import Derived.Test.YtiodcmgpajdmoaaFm
import Derived.Test.YtiodcmgpajdmoaaRw
namespace Go.Proofs.Ytiodcmgpajdmoaa
open Go.RowKit

/-- What stays when new blocks are made. -/
def Stable (p : Value → World → Prop) : Prop := ∀ v W W', Below W.heap.size W W' → p v W → p v W'
theorem stable_is (x : Value) : Stable (fun v _ => v = x) := fun _ _ _ _ h => h
theorem stable_any : Stable (fun _ _ => True) := fun _ _ _ _ _ => trivial
/-- A new block that holds these cells. -/
def Fresh (n : Nat) (mk : Nat → Value) (o : Obj) (v : Value) (W : World) : Prop := ∃ g, v = mk g ∧ n ≤ g ∧ W.heap[g]? = some o
theorem stable_fresh (n : Nat) (mk : Nat → Value) (o : Obj) : Stable (Fresh n mk o) := fun _ _ _ hb ⟨g, h1, h2, h3⟩ => ⟨g, h1, h2, keepH hb h3⟩

/-- Edges that bind go back; each slot is written once, and lies in the frame; a guard is behind an edge. -/
def relOps (n : Nat) (ops : List Oper) : Bool :=
  ((List.range ops.length).all fun i => match ops[i]? with
    | some o => o.after.all (fun e => !Region.binds .any e || decide (e.on < i)) && (match o.dst with | some d => decide (d < n) && (List.range i).all (fun j => match ops[j]? with | some o' => o'.dst != some d | none => true) | none => true)
    | none => true)

/-- What holds when a set of operations has been carried out. -/
structure RelInv (ops : List Oper) (T0 : Array Value) (Rs : List (Value → World → Prop)) (J : World → Prop) (L : Nat → Bool) (a : Act) (W : World) : Prop where
  defers : a.defers = []
  size : a.tmps.size = T0.size
  st : J W
  done : ∀ (i : Nat) (o : Oper) (d : Tmp), ops[i]? = some o → L i = true → o.dst = some d → (Rs.getD i (fun _ _ => True)) (slot a.tmps d) W
  rest : ∀ s, (∀ (i : Nat) (o : Oper), ops[i]? = some o → o.dst = some s → L i = false) → slot a.tmps s = slot T0 s
  shut : ∀ (i : Nat) (o : Oper), ops[i]? = some o → L i = true → ∀ e ∈ o.after, Region.binds .any e = true → L e.on = true

/-- What a step of operation i may lean on, and must show. -/
def RelStep (P : Program) (ops : List Oper) (T0 : Array Value) (Rs : List (Value → World → Prop)) (J : World → Prop) (Q : Exit → Act → World → Prop) (i : Nat) (o : Oper) : Prop :=
  ∀ (T : Array Value) (W : World), T.size = T0.size → J W →
    (∀ j d, (∃ e ∈ o.after, Region.binds .any e = true ∧ e.on = j) → (ops[j]?.bind (·.dst)) = some d → (Rs.getD j (fun _ _ => True)) (slot T d) W) →
    (∀ s, (∀ (j : Nat) (o' : Oper), ops[j]? = some o' → o'.dst = some s → i = j ∨ ∃ e ∈ o'.after, Region.binds .any e = true ∧ e.on = i) → slot T s = slot T0 s) →
    ∀ K : Act → World → Prop, (∀ v W', (Rs.getD i (fun _ _ => True)) v W' → J W' → Below W.heap.size W W' → K ((⟨T, []⟩ : Act).put o.dst v) W') →
      if Region.wanted o (yielded ops.toArray T) = true then Oper.wp P o ⟨T, []⟩ W K Q else K ((⟨T, []⟩ : Act).put o.dst undef) W

def RelSteps (P : Program) (ops : List Oper) (T0 : Array Value) (Rs : List (Value → World → Prop)) (J : World → Prop) (Q : Exit → Act → World → Prop) : Nat → List Oper → Prop
  | _, [] => True
  | i, o :: rest => RelStep P ops T0 Rs J Q i o ∧ RelSteps P ops T0 Rs J Q (i + 1) rest
theorem RelSteps.at_ {P : Program} {ops : List Oper} {T0 : Array Value} {Rs : List (Value → World → Prop)} {J : World → Prop} {Q : Exit → Act → World → Prop} : ∀ {l : List Oper} {i : Nat}, RelSteps P ops T0 Rs J Q i l → ∀ (j : Nat) (o : Oper), l[j]? = some o → RelStep P ops T0 Rs J Q (i + j) o
  | [], _, _, j, o, h => by simp at h
  | x :: l, i, hs, 0, o, h => by simp at h; subst h; exact hs.1
  | x :: l, i, hs, j + 1, o, h => by
    have := RelSteps.at_ hs.2 j o (by simpa using h)
    rwa [show i + 1 + j = i + (j + 1) by omega] at this

theorem slot_put_same (T : Array Value) (d : Nat) (v : Value) (h : d < T.size) : slot ((⟨T, []⟩ : Act).put (some d) v).tmps d = v := by
  simp [slot, Act.put, h, Array.getD]
theorem slot_put_other (T : Array Value) (x : Option Tmp) (s : Nat) (v : Value) (h : x ≠ some s) : slot ((⟨T, []⟩ : Act).put x v).tmps s = slot T s := by
  cases x with
  | none => rfl
  | some d =>
    have hd : d ≠ s := fun e => h (by rw [e])
    simp only [slot, Act.put, Array.getD_eq_getD_getElem?, Array.getElem?_setIfInBounds, if_neg hd]
theorem put_size (T : Array Value) (x : Option Tmp) (v : Value) : ((⟨T, []⟩ : Act).put x v).tmps.size = T.size := by
  cases x <;> simp [Act.put]
theorem put_defers (T : Array Value) (x : Option Tmp) (v : Value) : ((⟨T, []⟩ : Act).put x v).defers = [] := by
  cases x <;> rfl

theorem slot_set (T : Array Value) (d s : Nat) (v : Value) (h : d < T.size) : slot (T.setIfInBounds d v) s = if d = s then v else slot T s := by
  simp only [slot, Array.getD_eq_getD_getElem?, Array.getElem?_setIfInBounds]
  by_cases e : d = s
  · subst e; simp [h]
  · simp [e]
theorem sets_size : ∀ (l : List (Nat × Value)) (T : Array Value), (sets T l).size = T.size
  | [], _ => rfl
  | (i, v) :: l, T => by
    show (sets (T.setIfInBounds i v) l).size = T.size
    rw [sets_size l]; simp
theorem slot_sets (V : Nat → Value) : ∀ (ds : List Nat) (T : Array Value) (s : Nat), (∀ d, d ∈ ds → d < T.size) → slot (sets T (ds.map fun d => (d, V d))) s = if s ∈ ds then V s else slot T s
  | [], _, _, _ => rfl
  | d :: ds, T, s, h => by
    show slot (sets (T.setIfInBounds d (V d)) (ds.map fun d => (d, V d))) s = _
    rw [slot_sets V ds _ s (fun x hx => by simpa using h x (List.mem_cons_of_mem _ hx)), slot_set _ _ _ _ (h d (List.mem_cons_self ..))]
    by_cases e : d = s
    · subst e; simp
    · simp [e, Ne.symm e]
theorem frame_eq (T U : Array Value) (h : T.size = U.size) (hs : ∀ s, slot T s = slot U s) : T = U := by
  apply Array.ext h
  intro i h1 h2
  have := hs i
  simpa [slot, Array.getD, h1, h2] using this
theorem frame_sets (T : Array Value) (ds : List Nat) (T0 : Array Value) (h : T.size = T0.size) (hs : ∀ s, s ∉ ds → slot T s = slot T0 s) (hd : ∀ s, s ∈ ds → s < T0.size) : T = sets T0 (ds.map fun d => (d, slot T d)) := by
  refine frame_eq _ _ (by rw [sets_size, h]) (fun s => ?_)
  rw [slot_sets (slot T) ds T0 s hd]
  split
  · rfl
  · next h1 => exact hs s h1

theorem wp_region_rel {P : Program} {l : List Oper} {Q : Exit → Act → World → Prop} {id : Nat} {T0 : Array Value} {w : World} (hm : P.follows .mixedOrders = true) (hp : relOps T0.size l = true)
    (Rs : List (Value → World → Prop)) (J : World → Prop) (hst : ∀ p, p ∈ Rs → Stable p)
    (h0 : J w.drew) (step : RelSteps P l T0 Rs J Q 0 l)
    (ds : List Tmp) (hds : l.filterMap (·.dst) = ds)
    (fin : ∀ (V : Nat → Value) W, J W → (∀ (i : Nat) (o : Oper) (d : Tmp), l[i]? = some o → o.dst = some d → (Rs.getD i (fun _ _ => True)) (V d) W) → Q .normal ⟨sets T0 (ds.map fun d => (d, V d)), []⟩ W) : (Code.region id l.toArray true).wp P Q ⟨T0, []⟩ w := by
  have look : ∀ (i : Nat) (o : Oper), l[i]? = some o → (∀ e ∈ o.after, Region.binds .any e = true → e.on < i) ∧ (∀ d, o.dst = some d → d < T0.size ∧ ∀ j o', j < i → l[j]? = some o' → o'.dst ≠ some d) := by
    intro i o ho
    have hi : i < l.length := (List.getElem?_eq_some_iff.1 ho).1
    have h1 := List.all_eq_true.1 hp i (List.mem_range.2 hi)
    rw [ho, Bool.and_eq_true] at h1
    refine ⟨fun e he hbd => ?_, fun d hd => ?_⟩
    · have h2 := Array.all_eq_true_iff_forall_mem.1 h1.1 e he
      rw [hbd] at h2
      simpa using h2
    · have h2 := h1.2
      rw [hd] at h2
      simp only [Bool.and_eq_true, decide_eq_true_eq] at h2
      refine ⟨h2.1, fun j o' hj ho' => ?_⟩
      have h3 := List.all_eq_true.1 h2.2 j (List.mem_range.2 hj)
      rw [ho'] at h3
      simpa using h3
  have one : ∀ (i j : Nat) (o o' : Oper) (d : Tmp), l[i]? = some o → l[j]? = some o' → o.dst = some d → o'.dst = some d → i = j := by
    intro i j o o' d h1 h2 h3 h4
    rcases Nat.lt_trichotomy i j with h | h | h
    · exact absurd h3 ((look j o' h2).2 d h4 |>.2 i o h h1)
    · exact h
    · exact absurd h4 ((look i o h1).2 d h3 |>.2 j o' h h2)
  have stay : ∀ i v W W', Below W.heap.size W W' → (Rs.getD i (fun _ _ => True)) v W → (Rs.getD i (fun _ _ => True)) v W' := by
    intro i v W W' hb h
    rw [List.getD_eq_getElem?_getD] at h ⊢
    cases hr : Rs[i]? with
    | none => simp
    | some p =>
      rw [hr] at h
      exact hst p (List.mem_of_getElem? hr) v W W' hb h
  refine wp_region_inv l.length (by simp) hm (fun i o ho => (look i o (by simpa using ho)).1) (RelInv l T0 Rs J) ?_ ?_ ?_
  · exact ⟨rfl, rfl, h0, fun i o d _ h => by simp at h, fun s _ => rfl, fun i o _ h => by simp at h⟩
  · intro i o ho L a W hI hf hd
    have ho' : l[i]? = some o := by simpa using ho
    obtain ⟨T, ds⟩ := a
    obtain rfl : ds = [] := hI.defers
    have hs : T.size = T0.size := hI.size
    have hstep := step.at_ i o ho'
    rw [Nat.zero_add] at hstep
    have next : ∀ v W', (Rs.getD i (fun _ _ => True)) v W' → J W' → Below W.heap.size W W' → RelInv l T0 Rs J (also L i) ((⟨T, []⟩ : Act).put o.dst v) W' := by
      intro v W' hv hJ hb
      refine ⟨put_defers _ _ _, by rw [put_size]; exact hs, hJ, fun k ok d hk hL hdk => ?_, fun s hno => ?_, fun k ok hk hL e he hbd => ?_⟩
      · by_cases hki : k = i
        · subst hki
          have : ok = o := by rw [ho'] at hk; exact (Option.some.inj hk).symm
          subst this
          rw [hdk, slot_put_same T d v (by rw [hs]; exact ((look k ok ho').2 d hdk).1)]
          exact hv
        · have hL' : L k = true := by simpa [also, hki] using hL
          rw [slot_put_other _ _ _ _ (fun e => hki (one k i ok o d hk ho' hdk e))]
          exact stay k _ W W' hb (hI.done k ok d hk hL' hdk)
      · rw [slot_put_other _ _ _ _ (fun e => by have := hno i o ho' e; simp [also] at this)]
        exact hI.rest s (fun k ok hk hdk => by have := hno k ok hk hdk; simp [also] at this; exact this.2)
      · by_cases hki : k = i
        · subst hki
          have : ok = o := by rw [ho'] at hk; exact (Option.some.inj hk).symm
          subst this
          have := hd e he hbd
          simp [also, this]
        · have hL' : L k = true := by simpa [also, hki] using hL
          have := hI.shut k ok hk hL' e he hbd
          simp [also, this]
    have goal := hstep T W hs hI.st (fun j d hj hdj => by
      obtain ⟨e, he, hbd, rfl⟩ := hj
      cases ho2 : l[e.on]? with
      | none => rw [ho2] at hdj; simp at hdj
      | some oj =>
        rw [ho2] at hdj
        exact hI.done _ oj d ho2 (hd e he hbd) hdj) (fun s hno => hI.rest s (fun j o' hj hdj => by
      rcases hno j o' hj hdj with rfl | ⟨e, he, hbd, hon⟩
      · exact hf
      · cases hL : L j with
        | false => rfl
        | true =>
          have := hI.shut j o' hj hL e he hbd
          rw [hon, hf] at this; cases this)) (RelInv l T0 Rs J (also L i)) next
    exact goal
  · intro L a W hall hI
    obtain ⟨T, ds⟩ := a
    obtain rfl : ds = [] := hI.defers
    have e : T = sets T0 (ds.map fun d => (d, slot T d)) := by
      subst hds
      refine frame_sets T _ T0 hI.size (fun s hs => hI.rest s (fun i o ho hd => absurd (List.mem_filterMap.2 ⟨o, List.mem_of_getElem? ho, hd⟩) hs)) (fun s hs => ?_)
      obtain ⟨o, ho, hd⟩ := List.mem_filterMap.1 hs
      obtain ⟨i, hi⟩ := List.getElem?_of_mem ho
      exact (look i o hi).2 s hd |>.1
    have := fin (slot T) W hI.st (fun i o d ho hd => hI.done i o d ho (hall i (List.getElem?_eq_some_iff.1 ho).1) hd)
    rw [← e] at this
    exact this

/-- Is a guarded operation wanted? -/
theorem wanted_by {ops : List Oper} {T : Array Value} {o oj : Oper} {j d : Nat} {b c : Bool} (hg : o.guard = some (j, b)) (ho : ops[j]? = some oj) (hd : oj.dst = some d) (hlt : d < T.size) (hv : slot T d = .bool c) : Region.wanted o (yielded ops.toArray T) = (c == b) := by
  have h1 : T[d]? = some (.bool c) := by
    rw [Array.getElem?_eq_getElem hlt]
    simp [slot, Array.getD, hlt] at hv
    rw [hv]
  simp only [Region.wanted, hg, yielded, List.getElem?_toArray, ho, Option.bind_some, hd, h1]
  cases c <;> cases b <;> rfl
/-- A slot that no operation has written yet. -/
def lateB (ops : List Oper) (i s : Nat) : Bool := (List.range ops.length).all fun j => match ops[j]? with
  | some o => o.dst != some s || i == j || o.after.any (fun e => Region.binds .any e && e.on == i)
  | none => true
theorem late {ops : List Oper} {i s : Nat} (h : lateB ops i s = true) : ∀ (j : Nat) (o' : Oper), ops[j]? = some o' → o'.dst = some s → i = j ∨ ∃ e ∈ o'.after, Region.binds .any e = true ∧ e.on = i := fun j o' ho hd => by
  have h1 := List.all_eq_true.1 h j (List.mem_range.2 (List.getElem?_eq_some_iff.1 ho).1)
  rw [ho] at h1
  simp only [hd, bne_self_eq_false, Bool.false_or, Bool.or_eq_true, beq_iff_eq] at h1
  rcases h1 with h1 | h1
  · exact Or.inl h1
  · obtain ⟨k, hk, h2⟩ := Array.any_eq_true.1 h1
    simp only [Bool.and_eq_true, beq_iff_eq] at h2
    exact Or.inr ⟨_, Array.getElem_mem hk, h2.1, h2.2⟩
theorem slot_get (T : Array Value) (i : Nat) : slot T i = T[i]?.getD undef := by simp [slot, Array.getD_eq_getD_getElem?]
theorem all_nil : ∀ p, p ∈ ([] : List (Value → World → Prop)) → Stable p := fun _ h => by cases h
theorem all_cons {p : Value → World → Prop} {l : List (Value → World → Prop)} (h : Stable p) (hl : ∀ q, q ∈ l → Stable q) : ∀ q, q ∈ p :: l → Stable q := fun q hq => by
  rcases List.mem_cons.1 hq with rfl | hq
  · exact h
  · exact hl q hq
theorem wanted_none {o : Oper} (h : o.guard = none) (y : Nat → Option Bool) : Region.wanted o y = true := by simp [Region.wanted, h]
theorem eval_slot (T : Array Value) (k : Nat) : (⟨T, []⟩ : Act).eval (.tmp k) = slot T k := rfl
end Go.Proofs.Ytiodcmgpajdmoaa
