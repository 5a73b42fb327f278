/-
  Regions that draw their order, by reckoning: what each operation yields hangs on letters, one for each block that is made and each answer that is not known ahead.
-/
import Derived.Test.YtiodcmgpajdmoaaSy
namespace Go.Proofs.Ytiodcmgpajdmoaa
open Go.RowKit

/-- A letter. -/
structure Lt where
  a : Option Addr
  n : Nat
  c : Nat
  p : Option Addr × Nat × Nat
  q : Option Addr × Nat × Nat
@[reducible] def lt0 (a : Option Addr) (n c : Nat) : Lt := ⟨a, n, c, (none, 0, 0), (none, 0, 0)⟩
/-- Its second and its third slice. -/
@[reducible] def Lt.s2 (y : Lt) : Lt := lt0 y.p.1 y.p.2.1 y.p.2.2
@[reducible] def Lt.s3 (y : Lt) : Lt := lt0 y.q.1 y.q.2.1 y.q.2.2
/-- As a slice. -/
@[reducible] def Lt.sl (y : Lt) : Value := .slice y.a y.n y.c
/-- A letter put in. -/
def upd (u : Nat → Lt) (m : Nat) (y : Lt) : Nat → Lt := fun k => bif Nat.beq k m then y else u k
theorem upd_same (u : Nat → Lt) (m : Nat) (y : Lt) : upd u m y m = y := by simp [upd]
/-- A block that an operation makes: as a variable, or as a slice of so many. -/
structure Mk where
  sl : Option Nat
  cs : Array Value
  ty : TypeId
def Mk.val (A : Mk) (g : Nat) : Value := match A.sl with
  | none => .pointer (some ⟨g, 0, none⟩)
  | some n => .slice (some ⟨g, 0, none⟩) n n
@[reducible] def Mk.row (A : Mk) : Obj := .cells A.cs A.ty (0, 0)

/-- Does operation o wait for the j-th? -/
def waits (o : Oper) (j : Nat) : Bool := o.after.toList.any fun e => Region.binds .any e && Nat.beq e.on j
theorem waits_of {o : Oper} {j : Nat} (h : waits o j = true) : ∃ e ∈ o.after, Region.binds .any e = true ∧ e.on = j := by
  obtain ⟨e, he, h2⟩ := List.any_eq_true.1 h
  rw [Bool.and_eq_true] at h2
  exact ⟨e, by simpa using he, h2.1, Nat.eq_of_beq_eq_true h2.2⟩
theorem of_waits {o : Oper} {j : Nat} {e : Edge} (he : e ∈ o.after) (hb : Region.binds .any e = true) (hj : e.on = j) : waits o j = true :=
  List.any_eq_true.2 ⟨e, by simpa using he, by rw [Bool.and_eq_true]; exact ⟨hb, by rw [hj]; simp⟩⟩
/-- Which operation writes a slot? -/
def writer (l : List Oper) (k : Nat) : Option Nat := (List.range l.length).find? fun j => match l[j]? with
  | some o => match o.dst with
    | some d => Nat.beq d k
    | none => false
  | none => false
/-- Where the i-th operation's operand comes from: another operation, or the frame ahead of the region. -/
def lookD (E F : List (Nat × Value)) (l : List Oper) (i : Nat) (o : Oper) (k : Nat) : Option Value := match writer l k with
  | none => look F k
  | some j => match waits o j with
    | true => look E j
    | false => match Nat.beq j i || (match l[j]? with | some oj => waits oj i | none => false) with
      | true => look F k
      | false => none
def opdD (E F : List (Nat × Value)) (l : List Oper) (i : Nat) (o : Oper) (T : Array Value) : Operand → Value
  | .tmp k => match lookD E F l i o k with
    | some v => v
    | none => T.getD k undef
  | .const v => v
  | .global g => .pointer (some ⟨g, 0, none⟩)
  | .func f => .func (.func f) #[] #[]
def wantD (E : List (Nat × Value)) (o : Oper) : Option Bool := match o.guard with
  | none => some true
  | some (j, b) => match waits o j, look E j with
    | true, some (.bool c) => some (c == b)
    | true, some _ => some false
    | _, _ => none
def oneD (P : Program) (ρ : Operand → Value) (L : List (Nat × Obj)) (j : Nat) (o : Oper) : Option (Value × List Nat) :=
  match aggEq P ρ o with
  | some v => some (v, [])
  | none => oneR P ρ L j o
/-- What the operations yield, in the text's order. -/
def devs (P : Program) (L : List (Nat × Obj)) (F : List (Nat × Value)) (l : List Oper) (cs : List (Nat × Value)) : List Nat → Nat → List (Nat × Value) → List Oper → List (Nat × Value)
  | _, _, E, [] => E
  | hs, i, E, o :: os => match wantD E o with
    | some true => match look cs i with
      | some v => devs P L F l cs hs.tail (i + 1) ((i, v) :: E) os
      | none => match oneD P (opdD E F l i o #[]) L (hs.headD 0) o with
        | some (v, _) => devs P L F l cs hs.tail (i + 1) ((i, v) :: E) os
        | none => E
    | some false => devs P L F l cs hs.tail (i + 1) ((i, undef) :: E) os
    | none => E

/-- What is known of a region that draws its order: answers that are known; blocks that are made; answers that are not known, and what is said of them. -/
structure Dw where
  ks : List (Nat × Value)
  As : List (Nat × Mk)
  Rs : List (Nat × (Lt → Value) × (Lt → World → Prop))
  es : List (Nat × Value × Value)
def Dw.cs (D : Dw) (u : Nat → Lt) : List (Nat × Value) := D.ks ++ D.As.map (fun p => (p.1, p.2.val (u p.1).n)) ++ D.Rs.map (fun p => (p.1, p.2.1 (u p.1))) ++ D.es.map (fun p => (p.1, p.2.2))
def lookL {β : Type} : List (Nat × β) → Nat → Option β
  | [], _ => none
  | (a, v) :: l, k => bif Nat.beq a k then some v else lookL l k
noncomputable def Dw.E (D : Dw) (P : Program) (L : List (Nat × Obj)) (F : List (Nat × Value)) (l : List Oper) (n1 : Nat) (hs : List Nat) (u : Nat → Lt) : List (Nat × Value) := devs P L F l (D.cs u) hs 0 [] (l.take n1)

/-- What the i-th operation leans on, as bits. -/
def masks : List Nat → List Oper → List Nat
  | acc, [] => acc
  | acc, o :: os => masks (acc ++ [o.after.toList.foldl (fun b e => bif Region.binds .any e then (b ||| (1 <<< e.on)) ||| acc.getD e.on 0 else b) 0]) os
def leans (l : List Oper) (i m : Nat) : Bool := Nat.testBit ((masks [] l).getD i 0) m

section masks
variable {l : List Oper}
/-- A set of operations that holds with each what it waits for. -/
def Shut (l : List Oper) (D : Nat → Bool) : Prop := ∀ k ok, l[k]? = some ok → D k = true → ∀ j, waits ok j = true → D j = true
def Good (l : List Oper) (k b : Nat) : Prop := ∀ D, Shut l D → (∀ o j, l[k]? = some o → waits o j = true → D j = true) → ∀ m, Nat.testBit b m = true → D m = true
theorem fold_good {acc : List Nat} {o : Oper} {D : Nat → Bool} (hD : Shut l D) (ha : ∀ k, k < acc.length → Good l k (acc.getD k 0)) : ∀ (es : List Edge) (b : Nat), (∀ e, e ∈ es → Region.binds .any e = true → D e.on = true) → (∀ m, Nat.testBit b m = true → D m = true) →
    ∀ m, Nat.testBit (es.foldl (fun b e => bif Region.binds .any e then (b ||| (1 <<< e.on)) ||| acc.getD e.on 0 else b) b) m = true → D m = true
  | [], b, _, hb => hb
  | e :: es, b, he, hb => by
    refine fold_good (o := o) hD ha es _ (fun e' h => he e' (List.mem_cons_of_mem _ h)) (fun m hm => ?_)
    simp only at hm
    cases hbd : Region.binds .any e with
    | false => rw [hbd] at hm; exact hb m hm
    | true =>
      rw [hbd] at hm
      simp only [cond_true, Nat.testBit_or, Bool.or_eq_true] at hm
      have h1 := he e (List.mem_cons_self ..) hbd
      rcases hm with (hm | hm) | hm
      · exact hb m hm
      · rw [Nat.testBit_shiftLeft] at hm
        simp only [Bool.and_eq_true, decide_eq_true_eq] at hm
        have : m = e.on := by
          have h2 := hm.2
          rw [Nat.testBit_one_eq_true_iff_self_eq_zero] at h2
          omega
        rw [this]; exact h1
      · by_cases hlt : e.on < acc.length
        · exact ha e.on hlt D hD (fun o j ho hw => hD _ _ ho h1 j hw) m hm
        · rw [List.getD_eq_getElem?_getD, List.getElem?_eq_none (by omega)] at hm
          simp at hm
theorem masks_good : ∀ (os : List Oper) (acc : List Nat), l.drop acc.length = os → (∀ k, k < acc.length → Good l k (acc.getD k 0)) → ∀ k, Good l k ((masks acc os).getD k 0)
  | [], acc, _, ha, k => by
    by_cases hlt : k < acc.length
    · exact ha k hlt
    · intro D _ _ m hm
      simp only [masks] at hm
      rw [List.getD_eq_getElem?_getD, List.getElem?_eq_none (by omega)] at hm
      simp at hm
  | o :: os, acc, hd, ha, k => by
    simp only [masks]
    have hlen : acc.length < l.length := by
      have h1 := congrArg List.length hd
      simp at h1; omega
    have ho : l[acc.length]? = some o := by
      have := List.drop_eq_getElem_cons hlen
      rw [hd] at this
      rw [List.getElem?_eq_getElem hlen]
      exact congrArg some (List.cons.inj this).1.symm
    refine masks_good os _ ?_ ?_ k
    · rw [List.length_append, List.length_singleton, ← List.drop_drop, hd]; rfl
    · intro j hj
      rw [List.length_append, List.length_singleton] at hj
      rw [List.getD_eq_getElem?_getD]
      by_cases hlt : j < acc.length
      · rw [List.getElem?_append_left hlt, ← List.getD_eq_getElem?_getD]; exact ha j hlt
      · have : j = acc.length := by omega
        subst this
        rw [List.getElem?_append_right (Nat.le_refl _)]
        simp only [Nat.sub_self, List.getElem?_cons_zero, Option.getD_some]
        intro D hD hw m hm
        refine fold_good (o := o) hD ha o.after.toList 0 (fun e he hb => hw o e.on ho (of_waits (by simpa using he) hb rfl)) (fun m hm => by simp at hm) m hm
theorem leans_in {D : Nat → Bool} {i m : Nat} (hD : Shut l D) (hi : ∀ o j, l[i]? = some o → waits o j = true → D j = true) (h : leans l i m = true) : D m = true :=
  masks_good l [] rfl (fun k hk => by cases hk) i D hD hi m h
end masks

section drawn
variable {P : Program} {l : List Oper} {N n1 : Nat} {F : List (Nat × Value)} {w W0 : World} {L : List (Nat × Obj)} {X : List Xt} {D : Dw} {E : (Nat → Lt) → List (Nat × Value)} {T0 : Array Value} {Q : Exit → Act → World → Prop}
/-- What holds when a set of operations has been carried out. -/
structure GInv (l : List Oper) (N n1 : Nat) (w W0 : World) (L : List (Nat × Obj)) (X : List Xt) (D : Dw) (E : (Nat → Lt) → List (Nat × Value)) (T0 : Array Value) (u : Nat → Lt) (Ld : Nat → Bool) (T : Array Value) (W : World) : Prop where
  size : T.size = N
  sx : Sx w L X W
  big : W0.heap.size ≤ W.heap.size
  val : ∀ i o d v, i < n1 → l[i]? = some o → Ld i = true → o.dst = some d → look (E u) i = some v → T.getD d undef = v
  rest : ∀ s, (∀ (i : Nat) o, l[i]? = some o → o.dst = some s → Ld i = false) → T.getD s undef = T0.getD s undef
  al : ∀ m A, lookL D.As m = some A → Ld m = true → W0.heap.size ≤ (u m).n ∧ W.heap[(u m).n]? = some A.row
  dis : ∀ m m' A A', lookL D.As m = some A → lookL D.As m' = some A' → Ld m = true → Ld m' = true → m ≠ m' → (u m).n ≠ (u m').n
  rs : ∀ m R, lookL D.Rs m = some R → Ld m = true → R.2 (u m) W

theorem writer_none {k : Nat} (h : writer l k = none) : ∀ (i : Nat) o, l[i]? = some o → o.dst ≠ some k := by
  intro i o ho hd
  have := List.find?_eq_none.1 h i (List.mem_range.2 (List.getElem?_eq_some_iff.1 ho).1)
  rw [ho] at this
  simp [hd] at this
theorem writer_some {k j : Nat} (h : writer l k = some j) : ∃ o, l[j]? = some o ∧ o.dst = some k := by
  have := List.find?_some h
  split at this
  · rename_i o ho
    split at this
    · rename_i d hd
      exact ⟨o, ho, hd.trans (congrArg some (Nat.eq_of_beq_eq_true this))⟩
    · cases this
  · cases this
/-- Each slot is written once; edges go back. -/
structure Plain (l : List Oper) (N : Nat) : Prop where
  back : ∀ (i : Nat) o j, l[i]? = some o → waits o j = true → j < i
  lt : ∀ (i : Nat) o d, l[i]? = some o → o.dst = some d → d < N
  one : ∀ (i j : Nat) o o' d, l[i]? = some o → l[j]? = some o' → o.dst = some d → o'.dst = some d → i = j
theorem plain_of (h : relOps N l = true) : Plain l N := by
  have look : ∀ (i : Nat) (o : Oper), l[i]? = some o → (∀ e ∈ o.after, Region.binds .any e = true → e.on < i) ∧ (∀ d, o.dst = some d → d < N ∧ ∀ j o', j < i → l[j]? = some o' → o'.dst ≠ some d) := by
    intro i o ho
    have hi : i < l.length := (List.getElem?_eq_some_iff.1 ho).1
    have h1 := List.all_eq_true.1 h i (List.mem_range.2 hi)
    rw [ho, Bool.and_eq_true] at h1
    refine ⟨fun e he hbd => ?_, fun d hd => ?_⟩
    · have h2 := Array.all_eq_true_iff_forall_mem.1 h1.1 e he
      rw [hbd] at h2
      simpa using h2
    · have h2 := h1.2
      rw [hd] at h2
      simp only [Bool.and_eq_true, decide_eq_true_eq] at h2
      refine ⟨h2.1, fun j o' hj ho' => ?_⟩
      have h3 := List.all_eq_true.1 h2.2 j (List.mem_range.2 hj)
      rw [ho'] at h3
      simpa using h3
  refine ⟨fun i o j ho hw => ?_, fun i o d ho hd => ((look i o ho).2 d hd).1, fun i j o o' d h1 h2 h3 h4 => ?_⟩
  · obtain ⟨e, he, hb, rfl⟩ := waits_of hw
    exact (look i o ho).1 e he hb
  · rcases Nat.lt_trichotomy i j with h | h | h
    · exact absurd h3 ((look j o' h2).2 d h4 |>.2 i o h h1)
    · exact h
    · exact absurd h4 ((look i o h1).2 d h3 |>.2 j o' h h2)

/-- What the i-th operation's operands are, whenever its turn comes. -/
theorem GInv.eval {u : Nat → Lt} {Ld : Nat → Bool} {T : Array Value} {W : World} (hp : Plain l N) (hF : Fq N T0 F) (h : GInv l N n1 w W0 L X D E T0 u Ld T W) (hs : Shut l Ld) {i : Nat} {o : Oper} (ho : l[i]? = some o) (hi : i < n1) (hL : Ld i = false) (hd : ∀ j, waits o j = true → Ld j = true) :
    (⟨T, []⟩ : Act).eval = opdD (E u) F l i o T := by
  funext x
  cases x with
  | tmp k =>
    show T.getD k undef = _
    simp only [opdD]
    cases e : lookD (E u) F l i o k with
    | none => rfl
    | some v =>
      simp only
      unfold lookD at e
      split at e
      · rename_i e1
        rw [h.rest k (fun i o ho hd => absurd hd (writer_none e1 i o ho))]
        exact hF.known k v e
      · rename_i j e1
        obtain ⟨oj, hj, hjd⟩ := writer_some e1
        split at e
        · rename_i e2
          exact h.val j oj k v (Nat.lt_trans (hp.back i o j ho e2) hi) hj (hd j e2) hjd e
        · split at e
          · rename_i e3
            have hLj : Ld j = false := by
              rw [Bool.or_eq_true] at e3
              rcases e3 with e3 | e3
              · rw [Nat.eq_of_beq_eq_true e3]; exact hL
              · rw [hj] at e3
                cases hLj : Ld j with
                | false => rfl
                | true => rw [hs j oj hj hLj i e3] at hL; cases hL
            rw [h.rest k (fun i' o' ho' hd' => by rw [hp.one i' j o' oj k ho' hj hd' hjd]; exact hLj)]
            exact hF.known k v e
          · cases e
  | const v => rfl
  | global g => rfl
  | func f => rfl
theorem GInv.want {u : Nat → Lt} {Ld : Nat → Bool} {T : Array Value} {W : World} (hp : Plain l N) (h : GInv l N n1 w W0 L X D E T0 u Ld T W) {i : Nat} {o : Oper} (ho : l[i]? = some o) (hi : i < n1) (hd : ∀ j, waits o j = true → Ld j = true) {b : Bool} (hw : wantD (E u) o = some b) (hdst : ∀ (j : Nat) oj, l[j]? = some oj → j < n1 → oj.dst.isSome = true) :
    Region.wanted o (yielded l.toArray T) = b := by
  unfold wantD at hw
  unfold Region.wanted
  split at hw
  · rename_i e; rw [e]; simp_all
  · rename_i j w' e
    rw [e]
    simp only
    have key : ∀ v, waits o j = true → look (E u) j = some v → ∃ d, d < T.size ∧ ((l.toArray[j]?).bind (·.dst)) = some d ∧ T[d]? = some v := by
      intro v hwt hl
      have hji := hp.back i o j ho hwt
      have hjl : j < l.length := Nat.lt_trans hji (List.getElem?_eq_some_iff.1 ho).1
      have hoj : l[j]? = some l[j] := List.getElem?_eq_getElem hjl
      have := hdst j _ hoj (Nat.lt_trans hji hi)
      obtain ⟨d, hdd⟩ := Option.isSome_iff_exists.1 this
      have hlt : d < T.size := by rw [h.size]; exact hp.lt j _ d hoj hdd
      refine ⟨d, hlt, by simp [hjl, hdd], ?_⟩
      have hv := h.val j _ d v (Nat.lt_trans hji hi) hoj (hd j hwt) hdd hl
      rw [Array.getD_eq_getD_getElem?, Array.getElem?_eq_getElem hlt, Option.getD_some] at hv
      rw [Array.getElem?_eq_getElem hlt, hv]
    unfold yielded
    split at hw
    · rename_i c e1 e2
      obtain ⟨d, -, h1, h2⟩ := key _ e1 e2
      rw [h1]
      simp only [Option.bind_some, h2]
      simp at hw; subst hw
      cases c <;> cases w' <;> rfl
    · rename_i v hne e1 e2
      obtain ⟨d, -, h1, h2⟩ := key _ e1 e2
      rw [h1]
      simp only [Option.bind_some, h2]
      simp at hw; subst hw
      cases v <;> first | rfl | exact absurd rfl (hne _)
    · cases hw

/-- What is said of answers stays when blocks are made. -/
def Dw.Stays (D : Dw) : Prop := ∀ m R, lookL D.Rs m = some R → ∀ y W W', Below W.heap.size W W' → R.2 y W → R.2 y W'
theorem also_ne {Ld : Nat → Bool} {i j : Nat} (h : j ≠ i) : also Ld i j = Ld j := by simp [also, h]
theorem GInv.next {u u' : Nat → Lt} {Ld : Nat → Bool} {T : Array Value} {W W' : World} (hp : Plain l N) (hst : D.Stays) (h : GInv l N n1 w W0 L X D E T0 u Ld T W) (hb : Below W.heap.size W W') {i d : Nat} {o : Oper} {v : Value} (ho : l[i]? = some o) (hL : Ld i = false) (hd : o.dst = some d)
    (hu : ∀ m, m ≠ i → u' m = u m) (hE : ∀ j, j < n1 → Ld j = true → look (E u') j = look (E u) j) (hv : look (E u') i = some v)
    (hA : ∀ A, lookL D.As i = some A → W0.heap.size ≤ (u' i).n ∧ W'.heap[(u' i).n]? = some A.row ∧ ∀ m A', lookL D.As m = some A' → Ld m = true → (u m).n ≠ (u' i).n) (hR : ∀ R, lookL D.Rs i = some R → R.2 (u' i) W') :
    GInv l N n1 w W0 L X D E T0 u' (also Ld i) (T.setIfInBounds d v) W' := by
  have ne : ∀ {m}, Ld m = true → m ≠ i := fun hm e => by rw [e, hL] at hm; cases hm
  have old : ∀ {m}, also Ld i m = true → m ≠ i → Ld m = true := fun hm e => by rwa [also_ne e] at hm
  have hdT : d < T.size := by rw [h.size]; exact hp.lt i o d ho hd
  have gs : ∀ s, s ≠ d → (T.setIfInBounds d v).getD s undef = T.getD s undef := fun s hs => by
    rw [Array.getD_eq_getD_getElem?, Array.getElem?_setIfInBounds, if_neg (Ne.symm hs), ← Array.getD_eq_getD_getElem?]
  refine ⟨by simpa using h.size, h.sx.keep hb, Nat.le_trans h.big hb.size, fun j oj dj vj hj hoj hLj hdj hvj => ?_, fun s hno => ?_, fun m A hm hLm => ?_, fun m m' A A' hm hm' hLm hLm' hne => ?_, fun m R hm hLm => ?_⟩
  · by_cases e : j = i
    · subst e
      rw [ho] at hoj; cases hoj
      rw [hd] at hdj; cases hdj
      rw [hv] at hvj; cases hvj
      rw [Array.getD_eq_getD_getElem?, Array.getElem?_setIfInBounds, if_pos rfl, if_pos hdT]; rfl
    · have hLj' := old hLj e
      rw [gs dj (fun e2 => e (hp.one j i oj o d hoj ho (e2 ▸ hdj) hd))]
      exact h.val j oj dj vj hj hoj hLj' hdj (by rw [← hE j hj hLj']; exact hvj)
  · have hsd : s ≠ d := fun e => by
      have := hno i o ho (e ▸ hd)
      simp [also] at this
    rw [gs s hsd]
    exact h.rest s (fun j oj hoj hdj => by have := hno j oj hoj hdj; simp [also] at this; exact this.2)
  · by_cases e : m = i
    · subst e; obtain ⟨h1, h2, -⟩ := hA A hm; exact ⟨h1, h2⟩
    · obtain ⟨h1, h2⟩ := h.al m A hm (old hLm e)
      rw [hu m e]
      exact ⟨h1, (hb.block _ (lt_of_block h2)).trans h2⟩
  · by_cases e : m = i
    · subst e
      have hne' : m' ≠ m := Ne.symm hne
      rw [hu m' hne']
      exact Ne.symm ((hA A hm).2.2 m' A' hm' (old hLm' hne'))
    · by_cases e' : m' = i
      · subst e'
        rw [hu m e]
        exact (hA A' hm').2.2 m A hm (old hLm e)
      · rw [hu m e, hu m' e']
        exact h.dis m m' A A' hm hm' (old hLm e) (old hLm' e') hne
  · by_cases e : m = i
    · subst e; exact hR R hm
    · rw [hu m e]
      exact hst m R hm _ W W' hb (h.rs m R hm (old hLm e))

/-- Operations that hang on their operands' values alone. -/
def semOp : Op → Bool
  | .slice .. | .sliceToArrayPointer .. | .load .. | .convert .. | .binOp .. | .makeSlice .. | .indexAddr .. | .index .. => true
  | .call c => match c.callee with
    | .builtin _ => true
    | _ => false
  | _ => false
theorem exec_same {o : Oper} {ρ ρ' : Operand → Value} (h : semOp o.op = true) (he : o.op.operands.toList.map ρ = o.op.operands.toList.map ρ') : execOp ρ o = execOp ρ' o := by
  have hm : ∀ x, x ∈ o.op.operands.toList → ρ x = ρ' x := List.map_inj_left.1 he
  unfold execOp
  cases e : o.op <;> rw [e] at h <;> first | cases h | skip
  all_goals rw [e] at hm
  case load t x => simp only; rw [hm x (by simp [Op.operands])]
  case binOp op t x y t' => simp only; rw [hm x (by simp [Op.operands]), hm y (by simp [Op.operands])]
  case convert s d x => simp only; rw [hm x (by simp [Op.operands])]
  case indexAddr t x ix => simp only; rw [hm x (by simp [Op.operands]), hm ix (by simp [Op.operands])]
  case sliceToArrayPointer d x => simp only; rw [hm x (by simp [Op.operands])]
  case index t x ix => simp only; rw [hm x (by simp [Op.operands]), hm ix (by simp [Op.operands])]
  case makeSlice t l c => simp only; rw [hm l (by simp [Op.operands]), hm c (by simp [Op.operands])]
  case slice t x l hh m =>
    simp only
    rw [hm x (by simp [Op.operands])]
    have e1 : l.map ρ = l.map ρ' := by cases l with
      | none => rfl
      | some y => simp only [Option.map_some]; rw [hm y (by simp [Op.operands])]
    have e2 : hh.map ρ = hh.map ρ' := by cases hh with
      | none => rfl
      | some y => simp only [Option.map_some]; rw [hm y (by simp [Op.operands])]
    have e3 : m.map ρ = m.map ρ' := by cases m with
      | none => rfl
      | some y => simp only [Option.map_some]; rw [hm y (by simp [Op.operands])]
    rw [e1, e2, e3]
  case call c =>
    obtain ⟨callee, args, argTypes⟩ := c
    unfold semOp at h
    simp only at h
    split at h
    · simp only
      have : args.map ρ = args.map ρ' := by
        apply Array.map_congr_left
        intro x hx
        exact hm x (by simp [Op.operands, Call.operands]; exact hx)
      simp only [resolve, this]
    · cases h
/-- What a call may lean on. -/
def Dw.Hs (D : Dw) (l : List Oper) (i : Nat) (u : Nat → Lt) (W : World) : Prop :=
  (∀ m A, lookL D.As m = some A → leans l i m = true → W.heap[(u m).n]? = some (A.row)) ∧ ∀ m R, lookL D.Rs m = some R → leans l i m = true → R.2 (u m) W
/-- What a call is to answer. -/
def Dw.post (D : Dw) (i : Nat) (W : World) : Ending → World → Prop := match look D.ks i with
  | some v => fun e w' => e = .returned v ∧ Below W.heap.size W w'
  | none => match lookL D.Rs i with
    | some R => fun e w' => ∃ y : Lt, e = .returned (R.1 y) ∧ R.2 y w' ∧ Below W.heap.size W w'
    | none => fun _ _ => False
def Dw.ob (D : Dw) (P : Program) (E : (Nat → Lt) → List (Nat × Value)) (F : List (Nat × Value)) (l : List Oper) (i : Nat) (o : Oper) : (Nat → Lt) → World → Prop := fun u W => match callOf (opdD (E u) F l i o #[]) o with
  | some (fid, vs) => Calls P fid vs W (D.post i W)
  | none => ∃ e w', D.post i W e w' ∧ ∃ v, e = .returned v ∧ (execOp (opdD (E u) F l i o #[]) o).run P W = .ok (.value v) w'
/-- Contracts for the calls of a region, in the text's order. -/
inductive Pf (w : World) (L : List (Nat × Obj)) (X : List Xt) (Hs : Nat → (Nat → Lt) → World → Prop) : List (Nat × ((Nat → Lt) → World → Prop)) → Prop
  | nil : Pf w L X Hs []
  | cons (i : Nat) {C : (Nat → Lt) → World → Prop} {l : List (Nat × ((Nat → Lt) → World → Prop))} (h : ∀ u W, Sx w L X W → Hs i u W → C u W) (t : Pf w L X Hs l) : Pf w L X Hs ((i, C) :: l)
theorem Pf.at {Hs : Nat → (Nat → Lt) → World → Prop} {l : List (Nat × ((Nat → Lt) → World → Prop))} (h : Pf w L X Hs l) {i : Nat} {C : (Nat → Lt) → World → Prop} (hm : (i, C) ∈ l) : ∀ u W, Sx w L X W → Hs i u W → C u W := by
  induction h with
  | nil => cases hm
  | cons j h t ih =>
    rcases List.mem_cons.1 hm with e | e
    · cases e; exact h
    · exact ih e
/-- Is the i-th operation a call that a contract is given for? -/
def Dw.isCall (D : Dw) (i : Nat) : Bool := (lookL D.As i).isNone && ((look D.ks i).isSome || (lookL D.Rs i).isSome)
def Dw.obs (D : Dw) (P : Program) (E : (Nat → Lt) → List (Nat × Value)) (F : List (Nat × Value)) (l : List Oper) : Nat → List Oper → List (Nat × ((Nat → Lt) → World → Prop))
  | _, [] => []
  | i, o :: os => bif D.isCall i then (i, D.ob P E F l i o) :: D.obs P E F l (i + 1) os else D.obs P E F l (i + 1) os
theorem Dw.obs_mem : ∀ {os : List Oper} {k i : Nat} {o : Oper}, os[i]? = some o → D.isCall (k + i) = true → (k + i, D.ob P E F l (k + i) o) ∈ D.obs P E F l k os
  | [], _, _, _, h, _ => by simp at h
  | x :: os, k, 0, o, h, hc => by
    simp at h; subst h
    simp only [Dw.obs]
    rw [Nat.add_zero] at hc ⊢
    rw [hc]; exact List.mem_cons_self ..
  | x :: os, k, i + 1, o, h, hc => by
    have h' : os[i]? = some o := by simpa using h
    have e : k + (i + 1) = k + 1 + i := by omega
    rw [e] at hc ⊢
    simp only [Dw.obs]
    have := Dw.obs_mem (k := k + 1) h' hc
    cases D.isCall k with
    | true => exact List.mem_cons_of_mem _ this
    | false => exact this

/-- What a call answers, by letters. -/
def Dw.res (D : Dw) (u : Nat → Lt) (i : Nat) : Option Value := match look D.ks i with
  | some v => some v
  | none => (lookL D.Rs i).map fun R => R.1 (u i)
def Dw.stL (D : Dw) (P : Program) (L : List (Nat × Obj)) (F : List (Nat × Value)) (l : List Oper) (hs : List Nat) (E : List (Nat × Value)) (g : Nat) (T : Array Value) (i : Nat) (o : Oper) : Option (List (Option Value) × List Nat × Option Obj × Bool) :=
  match wantD E o with
  | none => none
  | some false => some ([look E i], [], none, o.dst.isSome && ((lookL D.As i).isNone && (lookL D.Rs i).isNone))
  | some true => match lookL D.As i with
    | some _ => match symN P g (execOp (opdD E F l i o T) o) with
      | some (.value v, ob) => some ([some v, look E i], [], some ob, o.dst.isSome && (lookL D.Rs i).isNone)
      | _ => none
    | none => match D.isCall i with
      | true => match callOf (opdD E F l i o T) o with
        | some (fid, vs) => some (look E i :: vs.toList.map some, [fid], none, callableF P fid && (o.dst.isSome && ((look D.ks i).isNone || (lookL D.Rs i).isNone)))
        | none => some (look E i :: o.op.operands.toList.map (fun x => some (opdD E F l i o T x)), [], none, semOp o.op && (o.dst.isSome && ((look D.ks i).isNone || (lookL D.Rs i).isNone)))
      | false => match oneD P (opdD E F l i o T) L (hs.getD i 0) o with
        | some (v, bl) => match lookL D.es i with
          | some _ => some ([some v, look E i], bl, none, o.dst.isSome)
          | none => some ([some v], bl, none, o.dst.isSome)
        | none => none
def Dw.stR (D : Dw) (P : Program) (L : List (Nat × Obj)) (F : List (Nat × Value)) (l : List Oper) (hs : List Nat) (E : List (Nat × Value)) (u : Nat → Lt) (g : Nat) (T : Array Value) (i : Nat) (o : Oper) : Option (List (Option Value) × List Nat × Option Obj × Bool) :=
  match wantD E o with
  | none => some ([], [], none, true)
  | some false => some ([some undef], [], none, true)
  | some true => match lookL D.As i with
    | some A => some ([some (A.val g), some (A.val (u i).n)], [], some A.row, true)
    | none => match D.isCall i with
      | true => match callOf (opdD E F l i o #[]) o with
        | some (fid, vs) => some (D.res u i :: vs.toList.map some, [fid], none, true)
        | none => some (D.res u i :: o.op.operands.toList.map (fun x => some (opdD E F l i o #[] x)), [], none, true)
      | false => match oneD P (opdD E F l i o T) L (hs.getD i 0) o with
        | some (_, bl) => match lookL D.es i with
          | some q => some ([some q.1, some q.2], bl.map (fun _ => gAt L (hs.getD i 0)), none, true)
          | none => some ([look E i], bl.map (fun _ => gAt L (hs.getD i 0)), none, true)
        | none => some ([], [], none, true)
def mapI {β : Type} (h : Nat → Oper → β) : Nat → List Oper → List β
  | _, [] => []
  | i, o :: os => h i o :: mapI h (i + 1) os
theorem mapI_at {β : Type} {h h' : Nat → Oper → β} : ∀ {os : List Oper} {k i : Nat} {o : Oper}, mapI h k os = mapI h' k os → os[i]? = some o → h (k + i) o = h' (k + i) o
  | [], _, _, _, _, ho => by simp at ho
  | x :: os, k, 0, o, he, ho => by
    simp at ho; subst ho
    exact (List.cons.inj he).1
  | x :: os, k, i + 1, o, he, ho => by
    have := mapI_at (k := k + 1) (List.cons.inj he).2 (by simpa using ho : os[i]? = some o)
    rwa [show k + 1 + i = k + (i + 1) by omega] at this
theorem oneD_run {ρ : Operand → Value} {W : World} {j : Nat} {o : Oper} {v : Value} {bl : List Nat} (hS : Sx w L X W) (h : oneD P ρ L j o = some (v, bl)) (hl : bl = bl.map fun _ => gAt L j) : (execOp ρ o).run P W = .ok (.value v) W := by
  unfold oneD at h
  split at h
  · rename_i v' e
    cases h
    exact aggEq_run e
  · exact oneR_run hS h hl
/-- All that the kernel is asked about a region. -/
structure Dw.Ok (D : Dw) (P : Program) (L : List (Nat × Obj)) (F : List (Nat × Value)) (l : List Oper) (n1 : Nat) (hs : List Nat) (E : (Nat → Lt) → List (Nat × Value)) : Prop where
  steps : ∀ u g T, mapI (D.stL P L F l hs (E u) g T) 0 (l.take n1) = mapI (D.stR P L F l hs (E u) u g T) 0 (l.take n1)
  ind : ∀ u m y, (lookL D.As m).isSome = true ∨ (lookL D.Rs m).isSome = true → ∀ j, j < n1 → j ≠ m → leans l j m = false → look (E (upd u m y)) j = look (E u) j
  eqs : ∀ i q, lookL D.es i = some q → q.1 = q.2
theorem Dw.st_off {hs : List Nat} {E : List (Nat × Value)} {u : Nat → Lt} {g : Nat} {T : Array Value} {i : Nat} {o : Oper} (h : D.stL P L F l hs E g T i o = D.stR P L F l hs E u g T i o) (hw : wantD E o = some false) : o.dst.isSome = true ∧ look E i = some undef ∧ lookL D.As i = none ∧ lookL D.Rs i = none := by
  unfold Dw.stL Dw.stR at h
  rw [hw] at h
  simp only [Option.some.injEq, Prod.mk.injEq, List.cons.injEq, and_true, true_and, Bool.and_eq_true, Option.isNone_iff_eq_none] at h
  exact ⟨h.2.1, h.1, h.2.2⟩
theorem Dw.st_al {hs : List Nat} {E : List (Nat × Value)} {u : Nat → Lt} {g : Nat} {T : Array Value} {i : Nat} {o : Oper} (h : D.stL P L F l hs E g T i o = D.stR P L F l hs E u g T i o) (hw : wantD E o = some true) {A : Mk} (hA : lookL D.As i = some A) :
    o.dst.isSome = true ∧ symN P g (execOp (opdD E F l i o T) o) = some (.value (A.val g), A.row) ∧ look E i = some (A.val (u i).n) ∧ lookL D.Rs i = none := by
  unfold Dw.stL Dw.stR at h
  rw [hw] at h
  simp only [hA] at h
  split at h
  · rename_i v ob e1
    simp only [Option.some.injEq, Prod.mk.injEq, List.cons.injEq, and_true, true_and, Bool.and_eq_true, Option.isNone_iff_eq_none] at h
    obtain ⟨⟨rfl, h2⟩, rfl, h4, h5⟩ := h
    exact ⟨h4, e1, h2, h5⟩
  · cases h
theorem Dw.st_call {hs : List Nat} {E : List (Nat × Value)} {u : Nat → Lt} {g : Nat} {T : Array Value} {i : Nat} {o : Oper} (h : D.stL P L F l hs E g T i o = D.stR P L F l hs E u g T i o) (hw : wantD E o = some true) (hC : D.isCall i = true) :
    o.dst.isSome = true ∧ look E i = D.res u i ∧ (look D.ks i = none ∨ lookL D.Rs i = none) ∧ ((∃ fid vs, callOf (opdD E F l i o T) o = some (fid, vs) ∧ callOf (opdD E F l i o #[]) o = some (fid, vs) ∧ callableF P fid = true) ∨ (callOf (opdD E F l i o #[]) o = none ∧ semOp o.op = true ∧ o.op.operands.toList.map (opdD E F l i o T) = o.op.operands.toList.map (opdD E F l i o #[]))) := by
  have hA : lookL D.As i = none := by
    unfold Dw.isCall at hC
    simp only [Bool.and_eq_true, Option.isNone_iff_eq_none] at hC
    exact hC.1
  unfold Dw.stL Dw.stR at h
  rw [hw] at h
  simp only [hA, hC] at h
  cases e : callOf (opdD E F l i o T) o with
  | none =>
    cases e2 : callOf (opdD E F l i o #[]) o with
    | some q2 => rw [e, e2] at h; simp only [Option.some.injEq, Prod.mk.injEq] at h; cases h.2.1
    | none =>
      rw [e, e2] at h
      simp only [Option.some.injEq, Prod.mk.injEq, List.cons.injEq, true_and, Bool.and_eq_true, Bool.or_eq_true, Option.isNone_iff_eq_none] at h
      obtain ⟨⟨h1, h2⟩, h3, h4, h5⟩ := h
      refine ⟨h4, h1, h5, Or.inr ⟨rfl, h3, List.map_inj_left.2 fun x hx => ?_⟩⟩
      exact Option.some.inj (List.map_inj_left.1 h2 x hx)
  | some q =>
    cases e2 : callOf (opdD E F l i o #[]) o with
    | none => rw [e, e2] at h; simp only [Option.some.injEq, Prod.mk.injEq] at h; cases h.2.1
    | some q2 =>
      obtain ⟨fid, vs⟩ := q
      obtain ⟨fid2, vs2⟩ := q2
      rw [e, e2] at h
      simp only [Option.some.injEq, Prod.mk.injEq, List.cons.injEq, and_true, true_and, Bool.and_eq_true, Bool.or_eq_true, Option.isNone_iff_eq_none] at h
      obtain ⟨⟨h1, h2⟩, rfl, h3, h4, h5⟩ := h
      have : vs = vs2 := by
        apply Array.toList_inj.1
        exact (List.map_inj_right (fun _ _ h => Option.some.inj h)).1 h2
      subst this
      exact ⟨h4, h1, h5, Or.inl ⟨_, _, rfl, rfl, h3⟩⟩
def Dw.Eqs (D : Dw) : Prop := ∀ i q, lookL D.es i = some q → q.1 = q.2
theorem Dw.st_one {hs : List Nat} {E : List (Nat × Value)} {u : Nat → Lt} {g : Nat} {T : Array Value} {i : Nat} {o : Oper} (he : D.Eqs) (h : D.stL P L F l hs E g T i o = D.stR P L F l hs E u g T i o) (hw : wantD E o = some true) (hA : lookL D.As i = none) (hC : D.isCall i = false) :
    o.dst.isSome = true ∧ ∃ v bl, oneD P (opdD E F l i o T) L (hs.getD i 0) o = some (v, bl) ∧ look E i = some v ∧ (bl = bl.map fun _ => gAt L (hs.getD i 0)) ∧ lookL D.Rs i = none := by
  have hR : lookL D.Rs i = none := by
    unfold Dw.isCall at hC
    rw [hA] at hC
    simp at hC
    exact hC.2
  unfold Dw.stL Dw.stR at h
  rw [hw] at h
  simp only [hA, hC] at h
  cases e : oneD P (opdD E F l i o T) L (hs.getD i 0) o with
  | none => rw [e] at h; cases h
  | some q =>
    obtain ⟨v, bl⟩ := q
    rw [e] at h
    simp only at h
    cases e2 : lookL D.es i with
    | none =>
      rw [e2] at h
      simp only [Option.some.injEq, Prod.mk.injEq, List.cons.injEq, and_true, true_and] at h
      exact ⟨h.2.2, v, bl, rfl, h.1.symm, h.2.1, hR⟩
    | some q =>
      rw [e2] at h
      simp only [Option.some.injEq, Prod.mk.injEq, List.cons.injEq, and_true, true_and] at h
      exact ⟨h.2.2, v, bl, rfl, by rw [h.1.2, h.1.1, he i q e2], h.2.1, hR⟩
theorem Dw.st_want {hs : List Nat} {E : List (Nat × Value)} {u : Nat → Lt} {g : Nat} {T : Array Value} {i : Nat} {o : Oper} (h : D.stL P L F l hs E g T i o = D.stR P L F l hs E u g T i o) : wantD E o ≠ none := fun e => by
  unfold Dw.stL Dw.stR at h
  rw [e] at h; cases h
theorem Dw.st_dst {hs : List Nat} {E : List (Nat × Value)} {u : Nat → Lt} {g : Nat} {T : Array Value} {i : Nat} {o : Oper} (he : D.Eqs) (h : D.stL P L F l hs E g T i o = D.stR P L F l hs E u g T i o) : o.dst.isSome = true := by
  cases hw : wantD E o with
  | none => exact absurd hw (Dw.st_want h)
  | some b =>
    cases b with
    | false => exact (Dw.st_off h hw).1
    | true =>
      cases hA : lookL D.As i with
      | some A => exact (Dw.st_al h hw hA).1
      | none =>
        cases hC : D.isCall i with
        | true => exact (Dw.st_call h hw hC).1
        | false => exact (Dw.st_one he h hw hA hC).1
theorem call_wpD {ρ : Operand → Value} {T : Array Value} {o : Oper} {fid : FuncId} {vs : Array Value} {d : Nat} {W : World} {K : Act → World → Prop} (hρ : (⟨T, []⟩ : Act).eval = ρ) (hb : callOf ρ o = some (fid, vs)) (hc : callableF P fid = true) (hd : o.dst = some d)
    (h : Calls P fid vs W (fun e w' => ∃ v, e = .returned v ∧ K ⟨T.setIfInBounds d v, []⟩ w')) : o.wp P ⟨T, []⟩ W K Q := by
  unfold callOf at hb
  split at hb
  · rename_i c ho
    obtain ⟨callee, args, argTypes⟩ := c
    simp only at hb
    split at hb
    · rename_i f2
      simp only [Option.some.injEq, Prod.mk.injEq] at hb
      obtain ⟨rfl, rfl⟩ := hb
      unfold callableF at hc
      split at hc
      · rename_i fn hfn
        refine wp_call ho hfn hc (by rw [hρ]) ?_
        rw [hd]; exact h
      · cases hc
    · cases hb
  · cases hb
theorem Dw.step (hp : Plain l N) (hst : D.Stays) (hF : Fq N T0 F) {hs : List Nat} (hok : D.Ok P L F l n1 hs E) (hpf : Pf w L X (D.Hs l) (D.obs P E F l 0 (l.take n1))) {u : Nat → Lt} {Ld : Nat → Bool} {T : Array Value} {W : World} (h : GInv l N n1 w W0 L X D E T0 u Ld T W) (hsh : Shut l Ld)
    {i : Nat} {o : Oper} (ho : l[i]? = some o) (hi : i < n1) (hL : Ld i = false) (hd : ∀ j, waits o j = true → Ld j = true) (K : Act → World → Prop) (hK : ∀ u' T' W', GInv l N n1 w W0 L X D E T0 u' (also Ld i) T' W' → K ⟨T', []⟩ W') :
    if Region.wanted o (yielded l.toArray T) = true then o.wp P ⟨T, []⟩ W K Q else K ((⟨T, []⟩ : Act).put o.dst undef) W := by
  have hat : ∀ (u : Nat → Lt) g T (j : Nat) oj, l[j]? = some oj → j < n1 → D.stL P L F l hs (E u) g T j oj = D.stR P L F l hs (E u) u g T j oj := fun u g T j oj hj hjn => by
    have := mapI_at (i := j) (hok.steps u g T) (by rw [List.getElem?_take_of_lt hjn]; exact hj)
    rwa [Nat.zero_add] at this
  have hdst : ∀ (j : Nat) oj, l[j]? = some oj → j < n1 → oj.dst.isSome = true := fun j oj hj hjn => Dw.st_dst hok.eqs (hat u 0 #[] j oj hj hjn)
  obtain ⟨d, hdd⟩ := Option.isSome_iff_exists.1 (hdst i o ho hi)
  have hev := h.eval hp hF hsh ho hi hL hd
  have same : ∀ j, j < n1 → Ld j = true → look (E u) j = look (E u) j := fun _ _ _ => rfl
  have hstep := hat u W.heap.size T i o ho hi
  have hput : ∀ v, (⟨T, []⟩ : Act).put o.dst v = ⟨T.setIfInBounds d v, []⟩ := fun v => by rw [hdd]; rfl
  have shutd : ∀ m, leans l i m = true → Ld m = true := fun m hm => leans_in hsh (fun o' j ho' hw => by rw [ho] at ho'; cases ho'; exact hd j hw) hm
  have indep : ∀ y, ((lookL D.As i).isSome = true ∨ (lookL D.Rs i).isSome = true) → ∀ j, j < n1 → Ld j = true → look (E (upd u i y)) j = look (E u) j := fun y hl j hj hLj => by
    refine hok.ind u i y hl j hj (fun e => by rw [e, hL] at hLj; cases hLj) ?_
    cases e : leans l j i with
    | false => rfl
    | true => rw [leans_in hsh (fun o' k ho' hw => hsh j o' ho' hLj k hw) e] at hL; cases hL
  have wsame : ∀ y, ((lookL D.As i).isSome = true ∨ (lookL D.Rs i).isSome = true) → wantD (E (upd u i y)) o = wantD (E u) o := fun y hl => by
    unfold wantD
    cases hg : o.guard with
    | none => rfl
    | some q =>
      obtain ⟨j, b⟩ := q
      simp only
      cases hw : waits o j with
      | false => rfl
      | true => rw [indep y hl j (Nat.lt_trans (hp.back i o j ho hw) hi) (hd j hw)]
  have ud : ∀ y m, m ≠ i → upd u i y m = u m := fun y m hm => by
    unfold upd
    cases e : Nat.beq m i with
    | true => exact absurd (Nat.eq_of_beq_eq_true e) hm
    | false => rfl
  cases e0 : wantD (E u) o with
  | none => exact absurd e0 (Dw.st_want hstep)
  | some b =>
    cases b with
    | false =>
      rw [if_neg (by rw [h.want hp ho hi hd e0 hdst]; decide), hput]
      obtain ⟨-, h1, h2, h3⟩ := Dw.st_off hstep e0
      exact hK u _ _ (h.next hp hst (Below.refl _ _) ho hL hdd (fun _ _ => rfl) same h1 (fun A hA => by rw [h2] at hA; cases hA) (fun R hR => by rw [h3] at hR; cases hR))
    | true =>
      rw [if_pos (h.want hp ho hi hd e0 hdst)]
      cases eA : lookL D.As i with
      | some A =>
        obtain ⟨-, h1, -, h3⟩ := Dw.st_al hstep e0 eA
        have hl : (lookL D.As i).isSome = true ∨ (lookL D.Rs i).isSome = true := Or.inl (by rw [eA]; rfl)
        unfold Oper.wp
        rw [hev, symN_run h1]
        show K ((⟨T, []⟩ : Act).put o.dst _) _
        rw [hput]
        have hb : Below W.heap.size W (W.alloc A.row) := (Below.refl _ _).alloc (Nat.le_refl _) _
        have h2 := (Dw.st_al (hat (upd u i (lt0 none W.heap.size 0)) 0 #[] i o ho hi) ((wsame _ hl).trans e0) eA).2.2.1
        rw [upd_same] at h2
        refine hK (upd u i (lt0 none W.heap.size 0)) _ _ (h.next hp hst hb ho hL hdd (ud _) (indep _ hl) h2 (fun A' hA' => ?_) (fun R hR => by rw [h3] at hR; cases hR))
        rw [eA] at hA'; cases hA'
        rw [upd_same]
        exact ⟨h.big, lastH W _ _ rfl, fun m A' hm hLm => by have := lt_of_block (h.al m A' hm hLm).2; simp only; omega⟩
      | none =>
        cases eC : D.isCall i with
        | true =>
          obtain ⟨-, h1, h6, hway⟩ := Dw.st_call hstep e0 eC
          have hob := hpf.at (Dw.obs_mem (k := 0) (i := i) (o := o) (by rw [List.getElem?_take_of_lt hi]; exact ho) (by rw [Nat.zero_add]; exact eC)) u W h.sx (by
            rw [Nat.zero_add]
            exact ⟨fun m A hm hle => (h.al m A hm (shutd m hle)).2, fun m R hm hle => h.rs m R hm (shutd m hle)⟩)
          rw [Nat.zero_add] at hob
          unfold Dw.ob at hob
          have fin : ∀ e w', D.post i W e w' → ∃ v, e = .returned v ∧ K ⟨T.setIfInBounds d v, []⟩ w' := by
            intro e w' hpost
            unfold Dw.post at hpost
            unfold Dw.res at h1
            cases hv : look D.ks i with
            | some v =>
              rw [hv] at hpost h1
              obtain ⟨rfl, hb⟩ := hpost
              exact ⟨v, rfl, hK u _ _ (h.next hp hst hb ho hL hdd (fun _ _ => rfl) same h1 (fun A hA => by rw [eA] at hA; cases hA) (fun R hR => by
                rcases h6 with h6 | h6
                · rw [hv] at h6; cases h6
                · rw [h6] at hR; cases hR))⟩
            | none =>
              rw [hv] at hpost
              cases hR : lookL D.Rs i with
              | some R =>
                rw [hR] at hpost
                obtain ⟨y, rfl, hy, hb⟩ := hpost
                have hl : (lookL D.As i).isSome = true ∨ (lookL D.Rs i).isSome = true := Or.inr (by rw [hR]; rfl)
                have h5 := (Dw.st_call (hat (upd u i y) 0 #[] i o ho hi) ((wsame _ hl).trans e0) eC).2.1
                unfold Dw.res at h5
                rw [hv, hR, Option.map_some, upd_same] at h5
                refine ⟨_, rfl, hK (upd u i y) _ _ (h.next hp hst hb ho hL hdd (ud _) (indep _ hl) h5 (fun A hA => by rw [eA] at hA; cases hA) (fun R' hR' => ?_))⟩
                rw [hR] at hR'; cases hR'
                rw [upd_same]; exact hy
              | none => rw [hR] at hpost; exact hpost.elim
          rcases hway with ⟨fid, vs, h2, h3, h4⟩ | ⟨h3, h4, h5⟩
          · rw [h3] at hob
            simp only at hob
            exact call_wpD hev h2 h4 hdd (hob.mono fin)
          · rw [h3] at hob
            simp only at hob
            obtain ⟨e, w', hpost, v, rfl, hr⟩ := hob
            obtain ⟨v', hv', hk⟩ := fin _ _ hpost
            cases hv'
            unfold Oper.wp
            rw [hev, exec_same h4 h5, hr]
            show K ((⟨T, []⟩ : Act).put o.dst v) w'
            rw [hput]; exact hk
        | false =>
          obtain ⟨-, v, bl, h1, h2, h3, h4⟩ := Dw.st_one hok.eqs hstep e0 eA eC
          unfold Oper.wp
          rw [hev, oneD_run h.sx h1 h3]
          show K ((⟨T, []⟩ : Act).put o.dst v) W
          rw [hput]
          exact hK u _ _ (h.next hp hst (Below.refl _ _) ho hL hdd (fun _ _ => rfl) same h2 (fun A hA => by rw [eA] at hA; cases hA) (fun R hR => by rw [h4] at hR; cases hR))

/-- Behind the first n1 operations each waits for all ahead of it. -/
def tailOk (l : List Oper) (n1 : Nat) : Bool := decide (n1 ≤ l.length) && (List.range l.length).all fun m => decide (m < n1) || (List.range m).all fun j => leans l m j
theorem tail_leans {m j : Nat} {o : Oper} (h : tailOk l n1 = true) (hm : n1 ≤ m) (ho : l[m]? = some o) (hj : j < m) : leans l m j = true := by
  unfold tailOk at h
  rw [Bool.and_eq_true] at h
  have h1 := List.all_eq_true.1 h.2 m (List.mem_range.2 (List.getElem?_eq_some_iff.1 ho).1)
  rw [Bool.or_eq_true, decide_eq_true_eq] at h1
  rcases h1 with h1 | h1
  · omega
  · exact List.all_eq_true.1 h1 j (List.mem_range.2 hj)
/-- The rest of a region, when the free part has been carried out. -/
theorem wp_region_tail {id : Nat} {a : Act} {W : World} (hm : P.follows .mixedOrders = true) (hp : Plain l N) (htail : tailOk l n1 = true) (hst : D.Stays) (hF : Fq N T0 F) (ha : a = ⟨T0, []⟩) {hs : List Nat} (hok : D.Ok P L F l n1 hs E) (hpf : Pf w L X (D.Hs l) (D.obs P E F l 0 (l.take n1))) (hS : Sx w L X W)
    (fin : ∀ u Ld T W', (∀ i, i < n1 → Ld i = true) → (∀ m, n1 ≤ m → m < l.length → Ld m = false) → GInv l N n1 w W L X D E T0 u Ld T W' → wpSeq P l Q (l.drop n1) ⟨T, []⟩ W') : (Code.region id l.toArray true).wp P Q a W := by
  have hle : n1 ≤ l.length := by
    unfold tailOk at htail
    rw [Bool.and_eq_true, decide_eq_true_eq] at htail
    exact htail.1
  have unf : ∀ {k : Nat} {o : Oper} {a : Act} {W : World}, l[k]? = some o → wpSeq P l Q (l.drop k) a W → (∀ K : Act → World → Prop, (∀ a W, wpSeq P l Q (l.drop (k + 1)) a W → K a W) → if Region.wanted o (yielded l.toArray a.tmps) = true then o.wp P a W K Q else K (a.put o.dst undef) W) := by
    intro k o a W ho h K hK
    obtain ⟨h1, h2⟩ := List.getElem?_eq_some_iff.1 ho
    rw [List.drop_eq_getElem_cons h1, h2] at h
    unfold wpSeq at h
    split
    · rename_i hw; rw [if_pos hw] at h; exact Oper.wp_mono hK h
    · rename_i hw; rw [if_neg hw] at h; exact hK _ _ h
  refine wp_region_inv l.length (by simp) hm (fun i o ho e he hb => hp.back i o e.on (by simpa using ho) (of_waits he hb rfl))
    (fun Ld a W' => Shut l Ld ∧ ((a.defers = [] ∧ (∀ m, n1 ≤ m → m < l.length → Ld m = false) ∧ ∃ u, GInv l N n1 w W L X D E T0 u Ld a.tmps W') ∨ ((∀ i, i < n1 → Ld i = true) ∧ ∃ k, n1 < k ∧ (∀ m, n1 ≤ m → m < l.length → (Ld m = true ↔ m < k)) ∧ wpSeq P l Q (l.drop k) a W'))) ?_ ?_ ?_
  · subst ha
    have h0 : Shut l (fun _ => false) := fun k ok _ h => Bool.noConfusion h
    have h1 : GInv l N n1 w W L X D E T0 (fun _ => lt0 none 0 0) (fun _ => false) T0 W.drew := ⟨hF.size, hS.drew, Nat.le_refl _, fun i o d v _ _ h => Bool.noConfusion h, fun _ _ => rfl, fun _ _ _ h => Bool.noConfusion h, fun _ _ _ _ _ _ h => Bool.noConfusion h, fun _ _ _ h => Bool.noConfusion h⟩
    exact ⟨h0, Or.inl ⟨rfl, fun _ _ _ => rfl, _, h1⟩⟩
  · intro i o ho Ld a W' hI hf hd
    have ho' : l[i]? = some o := by simpa using ho
    have hil : i < l.length := (List.getElem?_eq_some_iff.1 ho').1
    have hd' : ∀ j, waits o j = true → Ld j = true := fun j hj => by
      obtain ⟨e, he, hb, rfl⟩ := waits_of hj
      exact hd e he hb
    obtain ⟨hsh, hI⟩ := hI
    have hsh' : Shut l (also Ld i) := fun j oj hj hLj m hm => by
      by_cases e : j = i
      · subst e; rw [ho'] at hj; cases hj
        simp [also, hd' m hm]
      · rw [also_ne e] at hLj
        simp [also, hsh j oj hj hLj m hm]
    have hall' : ∀ j, n1 ≤ i → j < i → Ld j = true := fun j h1 h2 => leans_in hsh (fun o' k hk hw => by rw [ho'] at hk; cases hk; exact hd' k hw) (tail_leans htail h1 ho' h2)
    rcases hI with ⟨hdef, hno, u, hG⟩ | ⟨hall, k, hk, hkm, hw⟩
    · obtain ⟨T, ds⟩ := a
      obtain rfl : ds = [] := hdef
      by_cases hi : i < n1
      · refine Dw.step hp hst hF hok hpf hG hsh ho' hi hf hd' _ (fun u' T' W2 hG' => ⟨hsh', Or.inl ⟨rfl, fun m h1 h2 => ?_, u', hG'⟩⟩)
        rw [also_ne (by omega)]; exact hno m h1 h2
      · have hin : i = n1 := by
          rcases Nat.lt_or_ge n1 i with h1 | h1
          · have := hall' n1 (by omega) h1
            rw [hno n1 (Nat.le_refl _) (by omega)] at this; cases this
          · omega
        subst hin
        have hall : ∀ j, j < i → Ld j = true := fun j hj => hall' j (Nat.le_refl _) hj
        refine unf ho' (fin u Ld T W' hall hno hG) _ (fun a2 W2 h2 => ⟨hsh', Or.inr ⟨fun j hj => by rw [also_ne (by omega)]; exact hall j hj, i + 1, by omega, fun m h1 h3 => ?_, h2⟩⟩)
        by_cases e : m = i
        · subst e; simp [also]
        · rw [also_ne e, hno m h1 h3]
          constructor
          · intro h; cases h
          · intro h; omega
    · have hni : n1 ≤ i := by
        rcases Nat.lt_or_ge i n1 with h1 | h1
        · rw [hall i h1] at hf; cases hf
        · exact h1
      have hki : i = k := by
        have h1 : ¬ i < k := fun h => by rw [(hkm i hni hil).2 h] at hf; cases hf
        rcases Nat.lt_or_ge k i with h2 | h2
        · have h3 := (hkm k (by omega) (by omega)).1 (hall' k hni h2)
          omega
        · omega
      subst hki
      refine unf ho' hw _ (fun a2 W2 h2 => ⟨hsh', Or.inr ⟨fun j hj => by rw [also_ne (by omega)]; exact hall j hj, i + 1, by omega, fun m h1 h3 => ?_, h2⟩⟩)
      by_cases e : m = i
      · subst e; simp [also]
      · rw [also_ne e, hkm m h1 h3]; omega
  · intro Ld a W' hall hI
    rcases hI.2 with ⟨hdef, hno, u, hG⟩ | ⟨-, k, hk, hkm, hw⟩
    · obtain ⟨T, ds⟩ := a
      obtain rfl : ds = [] := hdef
      have : n1 = l.length := by
        rcases Nat.lt_or_ge n1 l.length with h1 | h1
        · have := hno n1 (Nat.le_refl _) h1
          rw [hall n1 h1] at this; cases this
        · omega
      have h := fin u Ld T W' (fun i hi => hall i (by omega)) hno hG
      rw [this, List.drop_length] at h
      exact h
    · have : l.length ≤ k := by
        rcases Nat.lt_or_ge k l.length with h1 | h1
        · have := (hkm k (by omega) h1).1 (hall k h1); omega
        · exact h1
      rw [List.drop_eq_nil_of_le this] at hw
      exact hw

def Dw.rows (D : Dw) (u : Nat → Lt) : List (Nat × Obj) := D.As.map fun p => ((u p.1).n, p.2.row)
def keysOk {β : Type} : List (Nat × β) → Bool
  | [] => true
  | (a, _) :: l => (lookL l a).isNone && keysOk l
theorem keys_look {β : Type} : ∀ {l : List (Nat × β)}, keysOk l = true → ∀ {p : Nat × β}, p ∈ l → lookL l p.1 = some p.2
  | (a, v) :: l, h, p, hp => by
    simp only [keysOk, Bool.and_eq_true, Option.isNone_iff_eq_none] at h
    simp only [lookL]
    rcases List.mem_cons.1 hp with rfl | hp
    · simp
    · have h1 := keys_look h.2 hp
      cases e : Nat.beq a p.1 with
      | true => rw [Nat.eq_of_beq_eq_true e, h1] at h; cases h.1
      | false => exact h1
theorem keys_pair {β : Type} : ∀ {l : List (Nat × β)}, keysOk l = true → l.Pairwise fun p q => p.1 ≠ q.1
  | [], _ => List.Pairwise.nil
  | (a, v) :: l, h => by
    simp only [keysOk, Bool.and_eq_true, Option.isNone_iff_eq_none] at h
    refine List.Pairwise.cons (fun q hq e => ?_) (keys_pair h.2)
    have := keys_look h.2 hq
    rw [← e, h.1] at this; cases this
/-- The blocks that a region has made, among the rows. -/
theorem GInv.rows {u : Nat → Lt} {Ld : Nat → Bool} {T : Array Value} {W : World} (h : GInv l N n1 w W0 L X D E T0 u Ld T W) (hS0 : Sx w L X W0) (hk : keysOk D.As = true) (hall : ∀ p, p ∈ D.As → Ld p.1 = true) : Sx w (D.rows u ++ L) X W := by
  have hal : ∀ p, p ∈ D.As → W0.heap.size ≤ (u p.1).n ∧ W.heap[(u p.1).n]? = some p.2.row := fun p hp => h.al p.1 p.2 (keys_look hk hp) (hall p hp)
  refine ⟨h.sx.below, fun p hp => ?_, ?_, h.sx.ext, fun p hp q hq => ?_, h.sx.bound, h.sx.excl⟩
  · rcases List.mem_append.1 hp with hp | hp
    · obtain ⟨q, hq, rfl⟩ := List.mem_map.1 hp
      exact (hal q hq).2
    · exact h.sx.rows p hp
  · refine List.pairwise_append.2 ⟨?_, h.sx.apart, fun p hp q hq e => ?_⟩
    · rw [Dw.rows, List.pairwise_map]
      refine (keys_pair hk).imp_of_mem (fun {p q} hp hq hne => ?_)
      exact h.dis p.1 q.1 p.2 q.2 (keys_look hk hp) (keys_look hk hq) (hall p hp) (hall q hq) hne
    · obtain ⟨s, hs, rfl⟩ := List.mem_map.1 hp
      have h1 := (hal s hs).1
      have h2 := lt_of_block (hS0.rows q hq)
      simp only at e; omega
  · rcases List.mem_append.1 hp with hp | hp
    · obtain ⟨s, hs, rfl⟩ := List.mem_map.1 hp
      intro hf
      have h1 := (hal s hs).1
      have h2 := hS0.bound q hq _ hf
      simp only at h2; omega
    · exact h.sx.sep p hp q hq

section drw
variable {f : Func} {r : Nat}
theorem rgn_drawn (hd : rdrawn f r = some true) : ∃ id, rgn f r = .region id (rops f r).toArray true := by
  unfold rdrawn at hd
  unfold rops
  split at hd
  · rename_i id ops d e
    simp only [Option.some.injEq] at hd; subst hd
    rw [e]
    exact ⟨id, by simp⟩
  · cases hd
def Dw.letters (D : Dw) : List Nat := D.As.map (·.1) ++ D.Rs.map (·.1)
def indF (l : List Oper) (n1 m : Nat) (E : List (Nat × Value)) : List (Option Value) := (List.range n1).map fun j => match Nat.beq j m || leans l j m with
  | true => none
  | false => look E j
/-- What is known of the frame behind the region. -/
def newF (l : List Oper) (n1 : Nat) (E : List (Nat × Value)) (new : List (Nat × Value)) : List (Option Value) := new.map fun p => match writer l p.1 with
  | some j => match decide (j < n1) with
    | true => look E j
    | false => none
  | none => none
def loneD (l : List Oper) (n1 : Nat) (F new : List (Nat × Value)) : Bool := (l.take n1).all fun o => match o.dst with
  | some d => match look F d with
    | none => true
    | some _ => (look new d).isSome
  | none => true
theorem look_isSome {β : Type} : ∀ {l : List (Nat × β)} {m : Nat}, (lookL l m).isSome = true → m ∈ l.map (·.1)
  | (a, v) :: l, m, h => by
    simp only [lookL] at h
    cases e : Nat.beq a m with
    | true => rw [Nat.eq_of_beq_eq_true e]; exact List.mem_cons_self ..
    | false => rw [e] at h; exact List.mem_cons_of_mem _ (look_isSome h)
/-- A region that draws its order, up to its n1-th operation; behind it all is in order. -/
theorem Cd.drA (n1 : Nat) (hs : List Nat) (D : Dw) (new : (Nat → Lt) → List (Nat × Value)) {L' : (Nat → Lt) → List (Nat × Obj)} {X' : (Nat → Lt) → List Xt} {Cs : List (Nat × ((Nat → Lt) → World → Prop))}
    (hst : D.Stays) (hes : D.Eqs) (hpf : Pf w L X (D.Hs (rops f r)) Cs) (hX : ∀ u W, Sx w (D.rows u ++ L) X W → (∀ m R, lookL D.Rs m = some R → R.2 (u m) W) → Sx w (L' u) (X' u) W)
    (k : ∀ u, (∀ m A, lookL D.As m = some A → w.heap.size ≤ (u m).n) → At P f r n1 Q N (new u ++ F) w (L' u) (X' u))
    (hm : P.follows .mixedOrders = true) (h1 : ((rdrawn f r).getD false && relOps N (rops f r) && tailOk (rops f r) n1 && dstsOk N (rops f r) && keysOk D.As && D.letters.all (fun m => decide (m < n1))) = true)
    (h2 : ∀ u g T, mapI (D.stL P L F (rops f r) hs (D.E P L F (rops f r) n1 hs u) g T) 0 ((rops f r).take n1) = mapI (D.stR P L F (rops f r) hs (D.E P L F (rops f r) n1 hs u) u g T) 0 ((rops f r).take n1))
    (h3 : ∀ u y, D.letters.map (fun m => indF (rops f r) n1 m (D.E P L F (rops f r) n1 hs (upd u m y))) = D.letters.map (fun m => indF (rops f r) n1 m (D.E P L F (rops f r) n1 hs u)))
    (h4 : ∀ u, (newF (rops f r) n1 (D.E P L F (rops f r) n1 hs u) (new u), loneD (rops f r) n1 F (new u)) = ((new u).map (fun p => some p.2), true))
    (h5 : Cs = D.obs P (D.E P L F (rops f r) n1 hs) F (rops f r) 0 ((rops f r).take n1)) : Cd P (rgn f r) Q N F w L X := by
  intro T W hF hS
  simp only [Bool.and_eq_true] at h1
  obtain ⟨⟨⟨⟨⟨hd, hrel⟩, htail⟩, hN⟩, hk⟩, hlt⟩ := h1
  have hd' : rdrawn f r = some true := by
    cases e : rdrawn f r with
    | none => rw [e] at hd; cases hd
    | some b => rw [e] at hd; cases b <;> first | rfl | cases hd
  obtain ⟨id, he⟩ := rgn_drawn hd'
  rw [he]
  have hp := plain_of hrel
  have hok : D.Ok P L F (rops f r) n1 hs (D.E P L F (rops f r) n1 hs) := ⟨h2, fun u m y hl j hj hne hle => by
    have hm : m ∈ D.letters := by
      unfold Dw.letters
      rcases hl with hl | hl
      · exact List.mem_append_left _ (look_isSome hl)
      · exact List.mem_append_right _ (look_isSome hl)
    have h := List.map_inj_left.1 (h3 u y) m hm
    have h' := List.map_inj_left.1 h j (List.mem_range.2 hj)
    rw [hle, Bool.or_false] at h'
    have : Nat.beq j m = false := by
      cases e : Nat.beq j m with
      | true => exact absurd (Nat.eq_of_beq_eq_true e) hne
      | false => rfl
    rw [this] at h'
    exact h', hes⟩
  have hle : n1 ≤ (rops f r).length := by
    unfold tailOk at htail
    rw [Bool.and_eq_true, decide_eq_true_eq] at htail
    exact htail.1
  refine wp_region_tail hm hp htail hst hF rfl hok (h5 ▸ hpf) hS (fun u Ld T' W' hall hno hG => ?_)
  have hlet : ∀ m, m ∈ D.letters → m < n1 := fun m hm => of_decide_eq_true (List.all_eq_true.1 hlt m hm)
  refine k u (fun m A hA => ?_) hN T' W' ⟨hG.size, fun s v hs => ?_⟩ (hX u W' (hG.rows hS hk (fun p hp => hall p.1 (hlet _ (List.mem_append_left _ (List.mem_map_of_mem hp))))) (fun m R hR => hG.rs m R hR (hall m (hlet m (List.mem_append_right _ (look_isSome (by rw [hR]; rfl)))))))
  · exact Nat.le_trans hS.below.size (hG.al m A hA (hall m (hlet m (List.mem_append_left _ (look_isSome (by rw [hA]; rfl)))))).1
  · have h4' := h4 u
    simp only [Prod.mk.injEq] at h4'
    obtain ⟨hn, hl⟩ := h4'
    rw [look_app] at hs
    cases e : look (new u) s with
    | some v' =>
      rw [e] at hs
      simp only [Option.some.injEq] at hs
      subst hs
      have h := List.map_inj_left.1 hn _ (look_mem _ _ _ e)
      simp only at h
      split at h
      · rename_i j ej
        split at h
        · rename_i hj
          have hj := of_decide_eq_true hj
          obtain ⟨oj, hoj, hdj⟩ := writer_some ej
          exact hG.val j oj s v' hj hoj (hall j hj) hdj h
        · cases h
      · cases h
    | none =>
      rw [e] at hs
      simp only at hs
      by_cases hw : ∃ (i : Nat) (o : Oper), (rops f r)[i]? = some o ∧ o.dst = some s ∧ i < n1
      · obtain ⟨i, o, ho, hdo, hi⟩ := hw
        have := List.all_eq_true.1 hl o (List.mem_of_getElem? (by rw [List.getElem?_take_of_lt hi]; exact ho))
        rw [hdo] at this
        simp only [hs, e] at this
        cases this
      · rw [hG.rest s (fun i o ho hdo => ?_)]
        · exact hF.known s v hs
        · refine hno i ?_ (List.getElem?_eq_some_iff.1 ho).1
          rcases Nat.lt_or_ge i n1 with h5 | h5
          · exact absurd ⟨i, o, ho, hdo, h5⟩ hw
          · exact h5
theorem Dw.eqs_nil {ks : List (Nat × Value)} {As : List (Nat × Mk)} {Rs : List (Nat × (Lt → Value) × (Lt → World → Prop))} : Dw.Eqs ⟨ks, As, Rs, []⟩ := fun _ _ h => by cases h
theorem Dw.stays_nil (D : Dw) (h : D.Rs = []) : D.Stays := fun m R hR => by rw [h] at hR; cases hR
/-- .. where all answers are known and no block is made. -/
theorem Cd.dk (n1 : Nat) (hs : List Nat) (ks : List (Nat × Value)) (new : List (Nat × Value)) {Cs : List (Nat × ((Nat → Lt) → World → Prop))} (hpf : Pf w L X (Dw.Hs ⟨ks, [], [], []⟩ (rops f r)) Cs) (k : At P f r n1 Q N (new ++ F) w L X)
    (hm : P.follows .mixedOrders = true := by kernel_rfl) (h1 : ((rdrawn f r).getD false && relOps N (rops f r) && tailOk (rops f r) n1 && dstsOk N (rops f r) && true && true) = true := by kernel_rfl)
    (h2 : ∀ u g T, mapI (Dw.stL ⟨ks, [], [], []⟩ P L F (rops f r) hs (Dw.E ⟨ks, [], [], []⟩ P L F (rops f r) n1 hs u) g T) 0 ((rops f r).take n1) = mapI (Dw.stR ⟨ks, [], [], []⟩ P L F (rops f r) hs (Dw.E ⟨ks, [], [], []⟩ P L F (rops f r) n1 hs u) u g T) 0 ((rops f r).take n1) := by intro u g T; kernel_rfl)
    (h4 : ∀ u, (newF (rops f r) n1 (Dw.E ⟨ks, [], [], []⟩ P L F (rops f r) n1 hs u) new, loneD (rops f r) n1 F new) = (new.map (fun p => some p.2), true) := by intro u; kernel_rfl)
    (h5 : Cs = Dw.obs ⟨ks, [], [], []⟩ P (Dw.E ⟨ks, [], [], []⟩ P L F (rops f r) n1 hs) F (rops f r) 0 ((rops f r).take n1) := by kernel_rfl) : Cd P (rgn f r) Q N F w L X :=
  Cd.drA n1 hs ⟨ks, [], [], []⟩ (fun _ => new) (L' := fun _ => L) (X' := fun _ => X) (Dw.stays_nil _ rfl) Dw.eqs_nil hpf (fun _ _ h _ => h) (fun _ _ => k) hm h1 h2 (fun _ _ => rfl) h4 h5
/-- .. where variables are made. -/
theorem Cd.da (n1 : Nat) (hs : List Nat) (ks : List (Nat × Value)) (As : List (Nat × Mk)) (new : (Nat → Lt) → List (Nat × Value)) {Cs : List (Nat × ((Nat → Lt) → World → Prop))} (hpf : Pf w L X (Dw.Hs ⟨ks, As, [], []⟩ (rops f r)) Cs)
    (k : ∀ u, (∀ m A, lookL As m = some A → w.heap.size ≤ (u m).n) → At P f r n1 Q N (new u ++ F) w (Dw.rows ⟨ks, As, [], []⟩ u ++ L) X)
    (hm : P.follows .mixedOrders = true := by kernel_rfl) (h1 : ((rdrawn f r).getD false && relOps N (rops f r) && tailOk (rops f r) n1 && dstsOk N (rops f r) && keysOk As && (Dw.letters ⟨ks, As, [], []⟩).all (fun m => decide (m < n1))) = true := by kernel_rfl)
    (h2 : ∀ u g T, mapI (Dw.stL ⟨ks, As, [], []⟩ P L F (rops f r) hs (Dw.E ⟨ks, As, [], []⟩ P L F (rops f r) n1 hs u) g T) 0 ((rops f r).take n1) = mapI (Dw.stR ⟨ks, As, [], []⟩ P L F (rops f r) hs (Dw.E ⟨ks, As, [], []⟩ P L F (rops f r) n1 hs u) u g T) 0 ((rops f r).take n1) := by intro u g T; kernel_rfl)
    (h3 : ∀ u y, (Dw.letters ⟨ks, As, [], []⟩).map (fun m => indF (rops f r) n1 m (Dw.E ⟨ks, As, [], []⟩ P L F (rops f r) n1 hs (upd u m y))) = (Dw.letters ⟨ks, As, [], []⟩).map (fun m => indF (rops f r) n1 m (Dw.E ⟨ks, As, [], []⟩ P L F (rops f r) n1 hs u)) := by intro u y; kernel_rfl)
    (h4 : ∀ u, (newF (rops f r) n1 (Dw.E ⟨ks, As, [], []⟩ P L F (rops f r) n1 hs u) (new u), loneD (rops f r) n1 F (new u)) = ((new u).map (fun p => some p.2), true) := by intro u; kernel_rfl)
    (h5 : Cs = Dw.obs ⟨ks, As, [], []⟩ P (Dw.E ⟨ks, As, [], []⟩ P L F (rops f r) n1 hs) F (rops f r) 0 ((rops f r).take n1) := by kernel_rfl) : Cd P (rgn f r) Q N F w L X :=
  Cd.drA n1 hs ⟨ks, As, [], []⟩ new (Dw.stays_nil _ rfl) Dw.eqs_nil hpf (fun _ _ h _ => h) k hm h1 h2 h3 h4 h5
/-- .. where answers are letters, too. -/
theorem Cd.dr (n1 : Nat) (hs : List Nat) (ks : List (Nat × Value)) (As : List (Nat × Mk)) (Rs : List (Nat × (Lt → Value) × (Lt → World → Prop))) (es : List (Nat × Value × Value)) (new : (Nat → Lt) → List (Nat × Value)) (L' : (Nat → Lt) → List (Nat × Obj)) (X' : (Nat → Lt) → List Xt) {Cs : List (Nat × ((Nat → Lt) → World → Prop))}
    (hst : Dw.Stays ⟨ks, As, Rs, es⟩) (hes : Dw.Eqs ⟨ks, As, Rs, es⟩) (hpf : Pf w L X (Dw.Hs ⟨ks, As, Rs, es⟩ (rops f r)) Cs) (hX : ∀ u W, Sx w (Dw.rows ⟨ks, As, Rs, es⟩ u ++ L) X W → (∀ m R, lookL Rs m = some R → R.2 (u m) W) → Sx w (L' u) (X' u) W)
    (k : ∀ u, (∀ m A, lookL As m = some A → w.heap.size ≤ (u m).n) → At P f r n1 Q N (new u ++ F) w (L' u) (X' u))
    (hm : P.follows .mixedOrders = true := by kernel_rfl) (h1 : ((rdrawn f r).getD false && relOps N (rops f r) && tailOk (rops f r) n1 && dstsOk N (rops f r) && keysOk As && (Dw.letters ⟨ks, As, Rs, es⟩).all (fun m => decide (m < n1))) = true := by kernel_rfl)
    (h2 : ∀ u g T, mapI (Dw.stL ⟨ks, As, Rs, es⟩ P L F (rops f r) hs (Dw.E ⟨ks, As, Rs, es⟩ P L F (rops f r) n1 hs u) g T) 0 ((rops f r).take n1) = mapI (Dw.stR ⟨ks, As, Rs, es⟩ P L F (rops f r) hs (Dw.E ⟨ks, As, Rs, es⟩ P L F (rops f r) n1 hs u) u g T) 0 ((rops f r).take n1) := by intro u g T; kernel_rfl)
    (h3 : ∀ u y, (Dw.letters ⟨ks, As, Rs, es⟩).map (fun m => indF (rops f r) n1 m (Dw.E ⟨ks, As, Rs, es⟩ P L F (rops f r) n1 hs (upd u m y))) = (Dw.letters ⟨ks, As, Rs, es⟩).map (fun m => indF (rops f r) n1 m (Dw.E ⟨ks, As, Rs, es⟩ P L F (rops f r) n1 hs u)) := by intro u y; kernel_rfl)
    (h4 : ∀ u, (newF (rops f r) n1 (Dw.E ⟨ks, As, Rs, es⟩ P L F (rops f r) n1 hs u) (new u), loneD (rops f r) n1 F (new u)) = ((new u).map (fun p => some p.2), true) := by intro u; kernel_rfl)
    (h5 : Cs = Dw.obs ⟨ks, As, Rs, es⟩ P (Dw.E ⟨ks, As, Rs, es⟩ P L F (rops f r) n1 hs) F (rops f r) 0 ((rops f r).take n1) := by kernel_rfl) : Cd P (rgn f r) Q N F w L X :=
  Cd.drA n1 hs ⟨ks, As, Rs, es⟩ new hst hes hpf hX k hm h1 h2 h3 h4 h5
theorem stays_cons {ks : List (Nat × Value)} {As : List (Nat × Mk)} {Rs : List (Nat × (Lt → Value) × (Lt → World → Prop))} {es : List (Nat × Value × Value)} {m : Nat} {V : Lt → Value} {R : Lt → World → Prop} (h : ∀ y W W', Below W.heap.size W W' → R y W → R y W') (t : Dw.Stays ⟨ks, As, Rs, es⟩) : Dw.Stays ⟨ks, As, (m, V, R) :: Rs, es⟩ := fun m' R' hR => by
  simp only [lookL] at hR
  cases e : Nat.beq m m' with
  | true => rw [e] at hR; simp at hR; subst hR; exact h
  | false => rw [e] at hR; exact t m' R' hR
theorem eqs_nil {ks : List (Nat × Value)} {As : List (Nat × Mk)} {Rs : List (Nat × (Lt → Value) × (Lt → World → Prop))} : Dw.Eqs ⟨ks, As, Rs, []⟩ := fun _ _ h => by cases h
theorem eqs_cons {ks : List (Nat × Value)} {As : List (Nat × Mk)} {Rs : List (Nat × (Lt → Value) × (Lt → World → Prop))} {es : List (Nat × Value × Value)} {m : Nat} {v v' : Value} (h : v = v') (t : Dw.Eqs ⟨ks, As, Rs, es⟩) : Dw.Eqs ⟨ks, As, Rs, (m, v, v') :: es⟩ := fun i q hq => by
  simp only [lookL] at hq
  cases e : Nat.beq m i with
  | true => rw [e] at hq; simp at hq; subst hq; exact h
  | false => rw [e] at hq; exact t i q hq
theorem stays_nil {ks : List (Nat × Value)} {As : List (Nat × Mk)} {es : List (Nat × Value × Value)} : Dw.Stays ⟨ks, As, [], es⟩ := fun m R hR => by cases hR
end drw
theorem Sx.one {w : World} {g : Nat} {o : Obj} (h : w.heap[g]? = some o) : Sx w [(g, o)] [] w where
  below := Below.refl _ _
  rows := fun p hp => by
    rcases List.mem_cons.1 hp with rfl | hp
    · exact h
    · cases hp
  apart := List.pairwise_singleton _ _
  ext := fun _ h => by cases h
  sep := fun _ _ _ h => by cases h
  bound := fun _ h => by cases h
  excl := List.Pairwise.nil
/-- Some of the facts, in any order. -/
theorem Sx.selX {w W : World} {L : List (Nat × Obj)} {X : List Xt} (h : Sx w L X W) (is : List Nat) (hx : (X.all fun q => !q.ex) = true) : Sx w L (is.filterMap fun i => X[i]?) W := by
  have hm : ∀ q, q ∈ (is.filterMap fun i => X[i]?) → q ∈ X := fun q hq => by
    obtain ⟨i, -, hi⟩ := List.mem_filterMap.1 hq
    exact List.mem_of_getElem? hi
  have hn : ∀ q, q ∈ X → q.ex = false := fun q hq => by
    have := List.all_eq_true.1 hx q hq
    simpa using this
  refine ⟨h.below, h.rows, h.apart, fun q hq => h.ext q (hm q hq), fun p hp q hq => h.sep p hp q (hm q hq), fun q hq => h.bound q (hm q hq), ?_⟩
  refine List.pairwise_iff_getElem.2 (fun i j hi hj _ he => ?_)
  rw [hn _ (hm _ (List.getElem_mem hi)), hn _ (hm _ (List.getElem_mem hj))] at he
  cases he
/-- Has no row this type? -/
def rowsNot (ty : TypeId) (L : List (Nat × Obj)) : Bool := L.all fun p => match p.2 with
  | .cells _ t _ => !(Nat.beq t ty)
  | _ => false
/-- A row that is only read, of a type that no row of the list has. -/
theorem Sx.addR {w W : World} {L : List (Nat × Obj)} {X : List Xt} (h : Sx w L X W) {g : Nat} {cs : Array Value} {ty : TypeId} {fr : Nat × Nat} (hg : W.heap[g]? = some (.cells cs ty fr)) (hL : rowsNot ty L = true) (hX : (X.all fun q => !q.ex) = true) : Sx w L (xrow g (.cells cs ty fr) :: X) W :=
  h.addX _ hg (fun p hp e => by
    have h1 := h.rows p hp
    have h2 := List.all_eq_true.1 hL p hp
    have e : p.1 = g := e
    rw [e, hg] at h1
    simp only [Option.some.injEq] at h1
    rw [← h1] at h2
    simp at h2) (fun b hb => by
    have hb : b = g := hb
    rw [hb]; exact lt_of_block hg) (fun q hq hx => by
    have := List.all_eq_true.1 hX q hq
    simp only [xrow, Bool.false_or] at hx
    rw [hx] at this; cases this)
end drawn
end Go.Proofs.Ytiodcmgpajdmoaa
