/-
  Texts Sz, Sq, Sw, Sv, Su, Va, Yb, Tb, Dg, Dw, Dp, Do, Da, Ds, De, Dx, Fa, Fb of the claim, merged. (Printed by shake.py.)
-/
import Derived.Test.YtbaifchbpnmkpaaZq2
namespace Go.Proofs.Ytbaifchbpnmkpaa
open Go.RowKit
/-- A letter. -/
structure Lt where
  a : Option Addr
  n : Nat
  c : Nat
  p : Option Addr × Nat × Nat
  q : Option Addr × Nat × Nat
@[reducible] def lt0 (a : Option Addr) (n c : Nat) : Lt := ⟨a, n, c, (none, 0, 0), (none, 0, 0)⟩
/-- Its second and its third slice. -/
@[reducible] def Lt.s2 (y : Lt) : Lt := lt0 y.p.1 y.p.2.1 y.p.2.2
@[reducible] def Lt.s3 (y : Lt) : Lt := lt0 y.q.1 y.q.2.1 y.q.2.2
/-- As a slice. -/
@[reducible] def Lt.sl (y : Lt) : Value := .slice y.a y.n y.c
/-- A letter put in. -/
def upd (u : Nat → Lt) (m : Nat) (y : Lt) : Nat → Lt := fun k => bif Nat.beq k m then y else u k
theorem upd_same (u : Nat → Lt) (m : Nat) (y : Lt) : upd u m y m = y := by simp [upd]
/-- A block that an operation makes: as a variable, or as a slice of so many. -/
structure Mk where
  sl : Option Nat
  cs : Array Value
  ty : TypeId
def Mk.val (A : Mk) (g : Nat) : Value := match A.sl with
  | none => .pointer (some ⟨g, 0, none⟩)
  | some n => .slice (some ⟨g, 0, none⟩) n n
@[reducible] def Mk.row (A : Mk) : Obj := .cells A.cs A.ty (0, 0)
/-- Does operation o wait for the j-th? -/
def waits (o : Oper) (j : Nat) : Bool := o.after.toList.any fun e => Region.binds .any e && Nat.beq e.on j
theorem waits_of {o : Oper} {j : Nat} (h : waits o j = true) : ∃ e ∈ o.after, Region.binds .any e = true ∧ e.on = j := by
  obtain ⟨e, he, h2⟩ := List.any_eq_true.1 h
  rw [Bool.and_eq_true] at h2
  exact ⟨e, by simpa using he, h2.1, Nat.eq_of_beq_eq_true h2.2⟩
theorem of_waits {o : Oper} {j : Nat} {e : Edge} (he : e ∈ o.after) (hb : Region.binds .any e = true) (hj : e.on = j) : waits o j = true :=
  List.any_eq_true.2 ⟨e, by simpa using he, by rw [Bool.and_eq_true]; exact ⟨hb, by rw [hj]; simp⟩⟩
/-- Which operation writes a slot? -/
def writer (l : List Oper) (k : Nat) : Option Nat := (List.range l.length).find? fun j => match l[j]? with
  | some o => match o.dst with
    | some d => Nat.beq d k
    | none => false
  | none => false
/-- Where the i-th operation's operand comes from: another operation, or the frame ahead of the region. -/
def lookD (E F : List (Nat × Value)) (l : List Oper) (i : Nat) (o : Oper) (k : Nat) : Option Value := match writer l k with
  | none => look F k
  | some j => match waits o j with
    | true => look E j
    | false => match Nat.beq j i || (match l[j]? with | some oj => waits oj i | none => false) with
      | true => look F k
      | false => none
def opdD (E F : List (Nat × Value)) (l : List Oper) (i : Nat) (o : Oper) (T : Array Value) : Operand → Value
  | .tmp k => match lookD E F l i o k with
    | some v => v
    | none => T.getD k undef
  | .const v => v
  | .global g => .pointer (some ⟨g, 0, none⟩)
  | .func f => .func (.func f) #[] #[]
def wantD (E : List (Nat × Value)) (o : Oper) : Option Bool := match o.guard with
  | none => some true
  | some (j, b) => match waits o j, look E j with
    | true, some (.bool c) => some (c == b)
    | true, some _ => some false
    | _, _ => none
def oneD (P : Program) (ρ : Operand → Value) (L : List (Nat × Obj)) (j : Nat) (o : Oper) : Option (Value × List Nat) :=
  match aggEq P ρ o with
  | some v => some (v, [])
  | none => oneR P ρ L j o
/-- What the operations yield, in the text's order. -/
def devs (P : Program) (L : List (Nat × Obj)) (F : List (Nat × Value)) (l : List Oper) (cs : List (Nat × Value)) : List Nat → Nat → List (Nat × Value) → List Oper → List (Nat × Value)
  | _, _, E, [] => E
  | hs, i, E, o :: os => match wantD E o with
    | some true => match look cs i with
      | some v => devs P L F l cs hs.tail (i + 1) ((i, v) :: E) os
      | none => match oneD P (opdD E F l i o #[]) L (hs.headD 0) o with
        | some (v, _) => devs P L F l cs hs.tail (i + 1) ((i, v) :: E) os
        | none => E
    | some false => devs P L F l cs hs.tail (i + 1) ((i, undef) :: E) os
    | none => E
/-- What is known of a region that draws its order: answers that are known; blocks that are made; answers that are not known, and what is said of them. -/
structure Dw where
  ks : List (Nat × Value)
  As : List (Nat × Mk)
  Rs : List (Nat × (Lt → Value) × (Lt → World → Prop))
  es : List (Nat × Value × Value)
def Dw.cs (D : Dw) (u : Nat → Lt) : List (Nat × Value) := D.ks ++ D.As.map (fun p => (p.1, p.2.val (u p.1).n)) ++ D.Rs.map (fun p => (p.1, p.2.1 (u p.1))) ++ D.es.map (fun p => (p.1, p.2.2))
def lookL {β : Type} : List (Nat × β) → Nat → Option β
  | [], _ => none
  | (a, v) :: l, k => bif Nat.beq a k then some v else lookL l k
noncomputable def Dw.E (D : Dw) (P : Program) (L : List (Nat × Obj)) (F : List (Nat × Value)) (l : List Oper) (n1 : Nat) (hs : List Nat) (u : Nat → Lt) : List (Nat × Value) := devs P L F l (D.cs u) hs 0 [] (l.take n1)
/-- What the i-th operation leans on, as bits. -/
def masks : List Nat → List Oper → List Nat
  | acc, [] => acc
  | acc, o :: os => masks (acc ++ [o.after.toList.foldl (fun b e => bif Region.binds .any e then (b ||| (1 <<< e.on)) ||| acc.getD e.on 0 else b) 0]) os
def leans (l : List Oper) (i m : Nat) : Bool := Nat.testBit ((masks [] l).getD i 0) m
section masks
variable {l : List Oper}
/-- A set of operations that holds with each what it waits for. -/
def Shut (l : List Oper) (D : Nat → Bool) : Prop := ∀ k ok, l[k]? = some ok → D k = true → ∀ j, waits ok j = true → D j = true
def Good (l : List Oper) (k b : Nat) : Prop := ∀ D, Shut l D → (∀ o j, l[k]? = some o → waits o j = true → D j = true) → ∀ m, Nat.testBit b m = true → D m = true
theorem fold_good {acc : List Nat} {o : Oper} {D : Nat → Bool} (hD : Shut l D) (ha : ∀ k, k < acc.length → Good l k (acc.getD k 0)) : ∀ (es : List Edge) (b : Nat), (∀ e, e ∈ es → Region.binds .any e = true → D e.on = true) → (∀ m, Nat.testBit b m = true → D m = true) →
    ∀ m, Nat.testBit (es.foldl (fun b e => bif Region.binds .any e then (b ||| (1 <<< e.on)) ||| acc.getD e.on 0 else b) b) m = true → D m = true
  | [], b, _, hb => hb
  | e :: es, b, he, hb => by
    refine fold_good (o := o) hD ha es _ (fun e' h => he e' (List.mem_cons_of_mem _ h)) (fun m hm => ?_)
    simp only at hm
    cases hbd : Region.binds .any e with
    | false => rw [hbd] at hm; exact hb m hm
    | true =>
      rw [hbd] at hm
      simp only [cond_true, Nat.testBit_or, Bool.or_eq_true] at hm
      have h1 := he e (List.mem_cons_self ..) hbd
      rcases hm with (hm | hm) | hm
      · exact hb m hm
      · rw [Nat.testBit_shiftLeft] at hm
        simp only [Bool.and_eq_true, decide_eq_true_eq] at hm
        have : m = e.on := by
          have h2 := hm.2
          rw [Nat.testBit_one_eq_true_iff_self_eq_zero] at h2
          omega
        rw [this]; exact h1
      · by_cases hlt : e.on < acc.length
        · exact ha e.on hlt D hD (fun o j ho hw => hD _ _ ho h1 j hw) m hm
        · rw [List.getD_eq_getElem?_getD, List.getElem?_eq_none (by omega)] at hm
          simp at hm
theorem masks_good : ∀ (os : List Oper) (acc : List Nat), l.drop acc.length = os → (∀ k, k < acc.length → Good l k (acc.getD k 0)) → ∀ k, Good l k ((masks acc os).getD k 0)
  | [], acc, _, ha, k => by
    by_cases hlt : k < acc.length
    · exact ha k hlt
    · intro D _ _ m hm
      simp only [masks] at hm
      rw [List.getD_eq_getElem?_getD, List.getElem?_eq_none (by omega)] at hm
      simp at hm
  | o :: os, acc, hd, ha, k => by
    simp only [masks]
    have hlen : acc.length < l.length := by
      have h1 := congrArg List.length hd
      simp at h1; omega
    have ho : l[acc.length]? = some o := by
      have := List.drop_eq_getElem_cons hlen
      rw [hd] at this
      rw [List.getElem?_eq_getElem hlen]
      exact congrArg some (List.cons.inj this).1.symm
    refine masks_good os _ ?_ ?_ k
    · rw [List.length_append, List.length_singleton, ← List.drop_drop, hd]; rfl
    · intro j hj
      rw [List.length_append, List.length_singleton] at hj
      rw [List.getD_eq_getElem?_getD]
      by_cases hlt : j < acc.length
      · rw [List.getElem?_append_left hlt, ← List.getD_eq_getElem?_getD]; exact ha j hlt
      · have : j = acc.length := by omega
        subst this
        rw [List.getElem?_append_right (Nat.le_refl _)]
        simp only [Nat.sub_self, List.getElem?_cons_zero, Option.getD_some]
        intro D hD hw m hm
        refine fold_good (o := o) hD ha o.after.toList 0 (fun e he hb => hw o e.on ho (of_waits (by simpa using he) hb rfl)) (fun m hm => by simp at hm) m hm
theorem leans_in {D : Nat → Bool} {i m : Nat} (hD : Shut l D) (hi : ∀ o j, l[i]? = some o → waits o j = true → D j = true) (h : leans l i m = true) : D m = true :=
  masks_good l [] rfl (fun k hk => by cases hk) i D hD hi m h
end masks
section drawn
variable {P : Program} {l : List Oper} {N n1 : Nat} {F : List (Nat × Value)} {w W0 : World} {L : List (Nat × Obj)} {X : List Xt} {D : Dw} {E : (Nat → Lt) → List (Nat × Value)} {T0 : Array Value} {Q : Exit → Act → World → Prop}
/-- What holds when a set of operations has been carried out. -/
structure GInv (l : List Oper) (N n1 : Nat) (w W0 : World) (L : List (Nat × Obj)) (X : List Xt) (D : Dw) (E : (Nat → Lt) → List (Nat × Value)) (T0 : Array Value) (u : Nat → Lt) (Ld : Nat → Bool) (T : Array Value) (W : World) : Prop where
  size : T.size = N
  sx : Sx w L X W
  big : W0.heap.size ≤ W.heap.size
  val : ∀ i o d v, i < n1 → l[i]? = some o → Ld i = true → o.dst = some d → look (E u) i = some v → T.getD d undef = v
  rest : ∀ s, (∀ (i : Nat) o, l[i]? = some o → o.dst = some s → Ld i = false) → T.getD s undef = T0.getD s undef
  al : ∀ m A, lookL D.As m = some A → Ld m = true → W0.heap.size ≤ (u m).n ∧ W.heap[(u m).n]? = some A.row
  dis : ∀ m m' A A', lookL D.As m = some A → lookL D.As m' = some A' → Ld m = true → Ld m' = true → m ≠ m' → (u m).n ≠ (u m').n
  rs : ∀ m R, lookL D.Rs m = some R → Ld m = true → R.2 (u m) W
theorem writer_none {k : Nat} (h : writer l k = none) : ∀ (i : Nat) o, l[i]? = some o → o.dst ≠ some k := by
  intro i o ho hd
  have := List.find?_eq_none.1 h i (List.mem_range.2 (List.getElem?_eq_some_iff.1 ho).1)
  rw [ho] at this
  simp [hd] at this
theorem writer_some {k j : Nat} (h : writer l k = some j) : ∃ o, l[j]? = some o ∧ o.dst = some k := by
  have := List.find?_some h
  split at this
  · rename_i o ho
    split at this
    · rename_i d hd
      exact ⟨o, ho, hd.trans (congrArg some (Nat.eq_of_beq_eq_true this))⟩
    · cases this
  · cases this
/-- Each slot is written once; edges go back. -/
structure Plain (l : List Oper) (N : Nat) : Prop where
  back : ∀ (i : Nat) o j, l[i]? = some o → waits o j = true → j < i
  lt : ∀ (i : Nat) o d, l[i]? = some o → o.dst = some d → d < N
  one : ∀ (i j : Nat) o o' d, l[i]? = some o → l[j]? = some o' → o.dst = some d → o'.dst = some d → i = j
theorem plain_of (h : relOps N l = true) : Plain l N := by
  have look : ∀ (i : Nat) (o : Oper), l[i]? = some o → (∀ e ∈ o.after, Region.binds .any e = true → e.on < i) ∧ (∀ d, o.dst = some d → d < N ∧ ∀ j o', j < i → l[j]? = some o' → o'.dst ≠ some d) := by
    intro i o ho
    have hi : i < l.length := (List.getElem?_eq_some_iff.1 ho).1
    have h1 := List.all_eq_true.1 h i (List.mem_range.2 hi)
    rw [ho, Bool.and_eq_true] at h1
    refine ⟨fun e he hbd => ?_, fun d hd => ?_⟩
    · have h2 := Array.all_eq_true_iff_forall_mem.1 h1.1 e he
      rw [hbd] at h2
      simpa using h2
    · have h2 := h1.2
      rw [hd] at h2
      simp only [Bool.and_eq_true, decide_eq_true_eq] at h2
      refine ⟨h2.1, fun j o' hj ho' => ?_⟩
      have h3 := List.all_eq_true.1 h2.2 j (List.mem_range.2 hj)
      rw [ho'] at h3
      simpa using h3
  refine ⟨fun i o j ho hw => ?_, fun i o d ho hd => ((look i o ho).2 d hd).1, fun i j o o' d h1 h2 h3 h4 => ?_⟩
  · obtain ⟨e, he, hb, rfl⟩ := waits_of hw
    exact (look i o ho).1 e he hb
  · rcases Nat.lt_trichotomy i j with h | h | h
    · exact absurd h3 ((look j o' h2).2 d h4 |>.2 i o h h1)
    · exact h
    · exact absurd h4 ((look i o h1).2 d h3 |>.2 j o' h h2)
/-- What the i-th operation's operands are, whenever its turn comes. -/
theorem GInv.eval {u : Nat → Lt} {Ld : Nat → Bool} {T : Array Value} {W : World} (hp : Plain l N) (hF : Fq N T0 F) (h : GInv l N n1 w W0 L X D E T0 u Ld T W) (hs : Shut l Ld) {i : Nat} {o : Oper} (ho : l[i]? = some o) (hi : i < n1) (hL : Ld i = false) (hd : ∀ j, waits o j = true → Ld j = true) :
    (⟨T, []⟩ : Act).eval = opdD (E u) F l i o T := by
  funext x
  cases x with
  | tmp k =>
    show T.getD k undef = _
    simp only [opdD]
    cases e : lookD (E u) F l i o k with
    | none => rfl
    | some v =>
      simp only
      unfold lookD at e
      split at e
      · rename_i e1
        rw [h.rest k (fun i o ho hd => absurd hd (writer_none e1 i o ho))]
        exact hF.known k v e
      · rename_i j e1
        obtain ⟨oj, hj, hjd⟩ := writer_some e1
        split at e
        · rename_i e2
          exact h.val j oj k v (Nat.lt_trans (hp.back i o j ho e2) hi) hj (hd j e2) hjd e
        · split at e
          · rename_i e3
            have hLj : Ld j = false := by
              rw [Bool.or_eq_true] at e3
              rcases e3 with e3 | e3
              · rw [Nat.eq_of_beq_eq_true e3]; exact hL
              · rw [hj] at e3
                cases hLj : Ld j with
                | false => rfl
                | true => rw [hs j oj hj hLj i e3] at hL; cases hL
            rw [h.rest k (fun i' o' ho' hd' => by rw [hp.one i' j o' oj k ho' hj hd' hjd]; exact hLj)]
            exact hF.known k v e
          · cases e
  | const v => rfl
  | global g => rfl
  | func f => rfl
theorem GInv.want {u : Nat → Lt} {Ld : Nat → Bool} {T : Array Value} {W : World} (hp : Plain l N) (h : GInv l N n1 w W0 L X D E T0 u Ld T W) {i : Nat} {o : Oper} (ho : l[i]? = some o) (hi : i < n1) (hd : ∀ j, waits o j = true → Ld j = true) {b : Bool} (hw : wantD (E u) o = some b) (hdst : ∀ (j : Nat) oj, l[j]? = some oj → j < n1 → oj.dst.isSome = true) :
    Region.wanted o (yielded l.toArray T) = b := by
  unfold wantD at hw
  unfold Region.wanted
  split at hw
  · rename_i e; rw [e]; simp_all
  · rename_i j w' e
    rw [e]
    simp only
    have key : ∀ v, waits o j = true → look (E u) j = some v → ∃ d, d < T.size ∧ ((l.toArray[j]?).bind (·.dst)) = some d ∧ T[d]? = some v := by
      intro v hwt hl
      have hji := hp.back i o j ho hwt
      have hjl : j < l.length := Nat.lt_trans hji (List.getElem?_eq_some_iff.1 ho).1
      have hoj : l[j]? = some l[j] := List.getElem?_eq_getElem hjl
      have := hdst j _ hoj (Nat.lt_trans hji hi)
      obtain ⟨d, hdd⟩ := Option.isSome_iff_exists.1 this
      have hlt : d < T.size := by rw [h.size]; exact hp.lt j _ d hoj hdd
      refine ⟨d, hlt, by simp [hjl, hdd], ?_⟩
      have hv := h.val j _ d v (Nat.lt_trans hji hi) hoj (hd j hwt) hdd hl
      rw [Array.getD_eq_getD_getElem?, Array.getElem?_eq_getElem hlt, Option.getD_some] at hv
      rw [Array.getElem?_eq_getElem hlt, hv]
    unfold yielded
    split at hw
    · rename_i c e1 e2
      obtain ⟨d, -, h1, h2⟩ := key _ e1 e2
      rw [h1]
      simp only [Option.bind_some, h2]
      simp at hw; subst hw
      cases c <;> cases w' <;> rfl
    · rename_i v hne e1 e2
      obtain ⟨d, -, h1, h2⟩ := key _ e1 e2
      rw [h1]
      simp only [Option.bind_some, h2]
      simp at hw; subst hw
      cases v <;> first | rfl | exact absurd rfl (hne _)
    · cases hw
/-- What is said of answers stays when blocks are made. -/
def Dw.Stays (D : Dw) : Prop := ∀ m R, lookL D.Rs m = some R → ∀ y W W', Below W.heap.size W W' → R.2 y W → R.2 y W'
theorem also_ne {Ld : Nat → Bool} {i j : Nat} (h : j ≠ i) : also Ld i j = Ld j := by simp [also, h]
theorem GInv.next {u u' : Nat → Lt} {Ld : Nat → Bool} {T : Array Value} {W W' : World} (hp : Plain l N) (hst : D.Stays) (h : GInv l N n1 w W0 L X D E T0 u Ld T W) (hb : Below W.heap.size W W') {i d : Nat} {o : Oper} {v : Value} (ho : l[i]? = some o) (hL : Ld i = false) (hd : o.dst = some d)
    (hu : ∀ m, m ≠ i → u' m = u m) (hE : ∀ j, j < n1 → Ld j = true → look (E u') j = look (E u) j) (hv : look (E u') i = some v)
    (hA : ∀ A, lookL D.As i = some A → W0.heap.size ≤ (u' i).n ∧ W'.heap[(u' i).n]? = some A.row ∧ ∀ m A', lookL D.As m = some A' → Ld m = true → (u m).n ≠ (u' i).n) (hR : ∀ R, lookL D.Rs i = some R → R.2 (u' i) W') :
    GInv l N n1 w W0 L X D E T0 u' (also Ld i) (T.setIfInBounds d v) W' := by
  have ne : ∀ {m}, Ld m = true → m ≠ i := fun hm e => by rw [e, hL] at hm; cases hm
  have old : ∀ {m}, also Ld i m = true → m ≠ i → Ld m = true := fun hm e => by rwa [also_ne e] at hm
  have hdT : d < T.size := by rw [h.size]; exact hp.lt i o d ho hd
  have gs : ∀ s, s ≠ d → (T.setIfInBounds d v).getD s undef = T.getD s undef := fun s hs => by
    rw [Array.getD_eq_getD_getElem?, Array.getElem?_setIfInBounds, if_neg (Ne.symm hs), ← Array.getD_eq_getD_getElem?]
  refine ⟨by simpa using h.size, h.sx.keep hb, Nat.le_trans h.big hb.size, fun j oj dj vj hj hoj hLj hdj hvj => ?_, fun s hno => ?_, fun m A hm hLm => ?_, fun m m' A A' hm hm' hLm hLm' hne => ?_, fun m R hm hLm => ?_⟩
  · by_cases e : j = i
    · subst e
      rw [ho] at hoj; cases hoj
      rw [hd] at hdj; cases hdj
      rw [hv] at hvj; cases hvj
      rw [Array.getD_eq_getD_getElem?, Array.getElem?_setIfInBounds, if_pos rfl, if_pos hdT]; rfl
    · have hLj' := old hLj e
      rw [gs dj (fun e2 => e (hp.one j i oj o d hoj ho (e2 ▸ hdj) hd))]
      exact h.val j oj dj vj hj hoj hLj' hdj (by rw [← hE j hj hLj']; exact hvj)
  · have hsd : s ≠ d := fun e => by
      have := hno i o ho (e ▸ hd)
      simp [also] at this
    rw [gs s hsd]
    exact h.rest s (fun j oj hoj hdj => by have := hno j oj hoj hdj; simp [also] at this; exact this.2)
  · by_cases e : m = i
    · subst e; obtain ⟨h1, h2, -⟩ := hA A hm; exact ⟨h1, h2⟩
    · obtain ⟨h1, h2⟩ := h.al m A hm (old hLm e)
      rw [hu m e]
      exact ⟨h1, (hb.block _ (lt_of_block h2)).trans h2⟩
  · by_cases e : m = i
    · subst e
      have hne' : m' ≠ m := Ne.symm hne
      rw [hu m' hne']
      exact Ne.symm ((hA A hm).2.2 m' A' hm' (old hLm' hne'))
    · by_cases e' : m' = i
      · subst e'
        rw [hu m e]
        exact (hA A' hm').2.2 m A hm (old hLm e)
      · rw [hu m e, hu m' e']
        exact h.dis m m' A A' hm hm' (old hLm e) (old hLm' e') hne
  · by_cases e : m = i
    · subst e; exact hR R hm
    · rw [hu m e]
      exact hst m R hm _ W W' hb (h.rs m R hm (old hLm e))
/-- Operations that hang on their operands' values alone. -/
def semOp : Op → Bool
  | .slice .. | .sliceToArrayPointer .. | .load .. | .convert .. | .binOp .. | .makeSlice .. | .indexAddr .. => true
  | .call c => match c.callee with
    | .builtin _ => true
    | _ => false
  | _ => false
theorem exec_same {o : Oper} {ρ ρ' : Operand → Value} (h : semOp o.op = true) (he : o.op.operands.toList.map ρ = o.op.operands.toList.map ρ') : execOp ρ o = execOp ρ' o := by
  have hm : ∀ x, x ∈ o.op.operands.toList → ρ x = ρ' x := List.map_inj_left.1 he
  unfold execOp
  cases e : o.op <;> rw [e] at h <;> first | cases h | skip
  all_goals rw [e] at hm
  case load t x => simp only; rw [hm x (by simp [Op.operands])]
  case binOp op t x y t' => simp only; rw [hm x (by simp [Op.operands]), hm y (by simp [Op.operands])]
  case convert s d x => simp only; rw [hm x (by simp [Op.operands])]
  case indexAddr t x ix => simp only; rw [hm x (by simp [Op.operands]), hm ix (by simp [Op.operands])]
  case sliceToArrayPointer d x => simp only; rw [hm x (by simp [Op.operands])]
  case makeSlice t l c => simp only; rw [hm l (by simp [Op.operands]), hm c (by simp [Op.operands])]
  case slice t x l hh m =>
    simp only
    rw [hm x (by simp [Op.operands])]
    have e1 : l.map ρ = l.map ρ' := by cases l with
      | none => rfl
      | some y => simp only [Option.map_some]; rw [hm y (by simp [Op.operands])]
    have e2 : hh.map ρ = hh.map ρ' := by cases hh with
      | none => rfl
      | some y => simp only [Option.map_some]; rw [hm y (by simp [Op.operands])]
    have e3 : m.map ρ = m.map ρ' := by cases m with
      | none => rfl
      | some y => simp only [Option.map_some]; rw [hm y (by simp [Op.operands])]
    rw [e1, e2, e3]
  case call c =>
    obtain ⟨callee, args, argTypes⟩ := c
    unfold semOp at h
    simp only at h
    split at h
    · simp only
      have : args.map ρ = args.map ρ' := by
        apply Array.map_congr_left
        intro x hx
        exact hm x (by simp [Op.operands, Call.operands]; exact hx)
      simp only [resolve, this]
    · cases h
/-- What a call may lean on. -/
def Dw.Hs (D : Dw) (l : List Oper) (i : Nat) (u : Nat → Lt) (W : World) : Prop :=
  (∀ m A, lookL D.As m = some A → leans l i m = true → W.heap[(u m).n]? = some (A.row)) ∧ ∀ m R, lookL D.Rs m = some R → leans l i m = true → R.2 (u m) W
/-- What a call is to answer. -/
def Dw.post (D : Dw) (i : Nat) (W : World) : Ending → World → Prop := match look D.ks i with
  | some v => fun e w' => e = .returned v ∧ Below W.heap.size W w'
  | none => match lookL D.Rs i with
    | some R => fun e w' => ∃ y : Lt, e = .returned (R.1 y) ∧ R.2 y w' ∧ Below W.heap.size W w'
    | none => fun _ _ => False
def Dw.ob (D : Dw) (P : Program) (E : (Nat → Lt) → List (Nat × Value)) (F : List (Nat × Value)) (l : List Oper) (i : Nat) (o : Oper) : (Nat → Lt) → World → Prop := fun u W => match callOf (opdD (E u) F l i o #[]) o with
  | some (fid, vs) => Calls P fid vs W (D.post i W)
  | none => ∃ e w', D.post i W e w' ∧ ∃ v, e = .returned v ∧ (execOp (opdD (E u) F l i o #[]) o).run P W = .ok (.value v) w'
/-- Contracts for the calls of a region, in the text's order. -/
inductive Pf (w : World) (L : List (Nat × Obj)) (X : List Xt) (Hs : Nat → (Nat → Lt) → World → Prop) : List (Nat × ((Nat → Lt) → World → Prop)) → Prop
  | nil : Pf w L X Hs []
  | cons (i : Nat) {C : (Nat → Lt) → World → Prop} {l : List (Nat × ((Nat → Lt) → World → Prop))} (h : ∀ u W, Sx w L X W → Hs i u W → C u W) (t : Pf w L X Hs l) : Pf w L X Hs ((i, C) :: l)
theorem Pf.at {Hs : Nat → (Nat → Lt) → World → Prop} {l : List (Nat × ((Nat → Lt) → World → Prop))} (h : Pf w L X Hs l) {i : Nat} {C : (Nat → Lt) → World → Prop} (hm : (i, C) ∈ l) : ∀ u W, Sx w L X W → Hs i u W → C u W := by
  induction h with
  | nil => cases hm
  | cons j h t ih =>
    rcases List.mem_cons.1 hm with e | e
    · cases e; exact h
    · exact ih e
/-- Is the i-th operation a call that a contract is given for? -/
def Dw.isCall (D : Dw) (i : Nat) : Bool := (lookL D.As i).isNone && ((look D.ks i).isSome || (lookL D.Rs i).isSome)
def Dw.obs (D : Dw) (P : Program) (E : (Nat → Lt) → List (Nat × Value)) (F : List (Nat × Value)) (l : List Oper) : Nat → List Oper → List (Nat × ((Nat → Lt) → World → Prop))
  | _, [] => []
  | i, o :: os => bif D.isCall i then (i, D.ob P E F l i o) :: D.obs P E F l (i + 1) os else D.obs P E F l (i + 1) os
theorem Dw.obs_mem : ∀ {os : List Oper} {k i : Nat} {o : Oper}, os[i]? = some o → D.isCall (k + i) = true → (k + i, D.ob P E F l (k + i) o) ∈ D.obs P E F l k os
  | [], _, _, _, h, _ => by simp at h
  | x :: os, k, 0, o, h, hc => by
    simp at h; subst h
    simp only [Dw.obs]
    rw [Nat.add_zero] at hc ⊢
    rw [hc]; exact List.mem_cons_self ..
  | x :: os, k, i + 1, o, h, hc => by
    have h' : os[i]? = some o := by simpa using h
    have e : k + (i + 1) = k + 1 + i := by omega
    rw [e] at hc ⊢
    simp only [Dw.obs]
    have := Dw.obs_mem (k := k + 1) h' hc
    cases D.isCall k with
    | true => exact List.mem_cons_of_mem _ this
    | false => exact this
/-- What a call answers, by letters. -/
def Dw.res (D : Dw) (u : Nat → Lt) (i : Nat) : Option Value := match look D.ks i with
  | some v => some v
  | none => (lookL D.Rs i).map fun R => R.1 (u i)
def Dw.stL (D : Dw) (P : Program) (L : List (Nat × Obj)) (F : List (Nat × Value)) (l : List Oper) (hs : List Nat) (E : List (Nat × Value)) (g : Nat) (T : Array Value) (i : Nat) (o : Oper) : Option (List (Option Value) × List Nat × Option Obj × Bool) :=
  match wantD E o with
  | none => none
  | some false => some ([look E i], [], none, o.dst.isSome && ((lookL D.As i).isNone && (lookL D.Rs i).isNone))
  | some true => match lookL D.As i with
    | some _ => match symN P g (execOp (opdD E F l i o T) o) with
      | some (.value v, ob) => some ([some v, look E i], [], some ob, o.dst.isSome && (lookL D.Rs i).isNone)
      | _ => none
    | none => match D.isCall i with
      | true => match callOf (opdD E F l i o T) o with
        | some (fid, vs) => some (look E i :: vs.toList.map some, [fid], none, callableF P fid && (o.dst.isSome && ((look D.ks i).isNone || (lookL D.Rs i).isNone)))
        | none => some (look E i :: o.op.operands.toList.map (fun x => some (opdD E F l i o T x)), [], none, semOp o.op && (o.dst.isSome && ((look D.ks i).isNone || (lookL D.Rs i).isNone)))
      | false => match oneD P (opdD E F l i o T) L (hs.getD i 0) o with
        | some (v, bl) => match lookL D.es i with
          | some _ => some ([some v, look E i], bl, none, o.dst.isSome)
          | none => some ([some v], bl, none, o.dst.isSome)
        | none => none
def Dw.stR (D : Dw) (P : Program) (L : List (Nat × Obj)) (F : List (Nat × Value)) (l : List Oper) (hs : List Nat) (E : List (Nat × Value)) (u : Nat → Lt) (g : Nat) (T : Array Value) (i : Nat) (o : Oper) : Option (List (Option Value) × List Nat × Option Obj × Bool) :=
  match wantD E o with
  | none => some ([], [], none, true)
  | some false => some ([some undef], [], none, true)
  | some true => match lookL D.As i with
    | some A => some ([some (A.val g), some (A.val (u i).n)], [], some A.row, true)
    | none => match D.isCall i with
      | true => match callOf (opdD E F l i o #[]) o with
        | some (fid, vs) => some (D.res u i :: vs.toList.map some, [fid], none, true)
        | none => some (D.res u i :: o.op.operands.toList.map (fun x => some (opdD E F l i o #[] x)), [], none, true)
      | false => match oneD P (opdD E F l i o T) L (hs.getD i 0) o with
        | some (_, bl) => match lookL D.es i with
          | some q => some ([some q.1, some q.2], bl.map (fun _ => gAt L (hs.getD i 0)), none, true)
          | none => some ([look E i], bl.map (fun _ => gAt L (hs.getD i 0)), none, true)
        | none => some ([], [], none, true)
def mapI {β : Type} (h : Nat → Oper → β) : Nat → List Oper → List β
  | _, [] => []
  | i, o :: os => h i o :: mapI h (i + 1) os
theorem mapI_at {β : Type} {h h' : Nat → Oper → β} : ∀ {os : List Oper} {k i : Nat} {o : Oper}, mapI h k os = mapI h' k os → os[i]? = some o → h (k + i) o = h' (k + i) o
  | [], _, _, _, _, ho => by simp at ho
  | x :: os, k, 0, o, he, ho => by
    simp at ho; subst ho
    exact (List.cons.inj he).1
  | x :: os, k, i + 1, o, he, ho => by
    have := mapI_at (k := k + 1) (List.cons.inj he).2 (by simpa using ho : os[i]? = some o)
    rwa [show k + 1 + i = k + (i + 1) by omega] at this
theorem oneD_run {ρ : Operand → Value} {W : World} {j : Nat} {o : Oper} {v : Value} {bl : List Nat} (hS : Sx w L X W) (h : oneD P ρ L j o = some (v, bl)) (hl : bl = bl.map fun _ => gAt L j) : (execOp ρ o).run P W = .ok (.value v) W := by
  unfold oneD at h
  split at h
  · rename_i v' e
    cases h
    exact aggEq_run e
  · exact oneR_run hS h hl
/-- All that the kernel is asked about a region. -/
structure Dw.Ok (D : Dw) (P : Program) (L : List (Nat × Obj)) (F : List (Nat × Value)) (l : List Oper) (n1 : Nat) (hs : List Nat) (E : (Nat → Lt) → List (Nat × Value)) : Prop where
  steps : ∀ u g T, mapI (D.stL P L F l hs (E u) g T) 0 (l.take n1) = mapI (D.stR P L F l hs (E u) u g T) 0 (l.take n1)
  ind : ∀ u m y, (lookL D.As m).isSome = true ∨ (lookL D.Rs m).isSome = true → ∀ j, j < n1 → j ≠ m → leans l j m = false → look (E (upd u m y)) j = look (E u) j
  eqs : ∀ i q, lookL D.es i = some q → q.1 = q.2
theorem Dw.st_off {hs : List Nat} {E : List (Nat × Value)} {u : Nat → Lt} {g : Nat} {T : Array Value} {i : Nat} {o : Oper} (h : D.stL P L F l hs E g T i o = D.stR P L F l hs E u g T i o) (hw : wantD E o = some false) : o.dst.isSome = true ∧ look E i = some undef ∧ lookL D.As i = none ∧ lookL D.Rs i = none := by
  unfold Dw.stL Dw.stR at h
  rw [hw] at h
  simp only [Option.some.injEq, Prod.mk.injEq, List.cons.injEq, and_true, true_and, Bool.and_eq_true, Option.isNone_iff_eq_none] at h
  exact ⟨h.2.1, h.1, h.2.2⟩
theorem Dw.st_al {hs : List Nat} {E : List (Nat × Value)} {u : Nat → Lt} {g : Nat} {T : Array Value} {i : Nat} {o : Oper} (h : D.stL P L F l hs E g T i o = D.stR P L F l hs E u g T i o) (hw : wantD E o = some true) {A : Mk} (hA : lookL D.As i = some A) :
    o.dst.isSome = true ∧ symN P g (execOp (opdD E F l i o T) o) = some (.value (A.val g), A.row) ∧ look E i = some (A.val (u i).n) ∧ lookL D.Rs i = none := by
  unfold Dw.stL Dw.stR at h
  rw [hw] at h
  simp only [hA] at h
  split at h
  · rename_i v ob e1
    simp only [Option.some.injEq, Prod.mk.injEq, List.cons.injEq, and_true, true_and, Bool.and_eq_true, Option.isNone_iff_eq_none] at h
    obtain ⟨⟨rfl, h2⟩, rfl, h4, h5⟩ := h
    exact ⟨h4, e1, h2, h5⟩
  · cases h
theorem Dw.st_call {hs : List Nat} {E : List (Nat × Value)} {u : Nat → Lt} {g : Nat} {T : Array Value} {i : Nat} {o : Oper} (h : D.stL P L F l hs E g T i o = D.stR P L F l hs E u g T i o) (hw : wantD E o = some true) (hC : D.isCall i = true) :
    o.dst.isSome = true ∧ look E i = D.res u i ∧ (look D.ks i = none ∨ lookL D.Rs i = none) ∧ ((∃ fid vs, callOf (opdD E F l i o T) o = some (fid, vs) ∧ callOf (opdD E F l i o #[]) o = some (fid, vs) ∧ callableF P fid = true) ∨ (callOf (opdD E F l i o #[]) o = none ∧ semOp o.op = true ∧ o.op.operands.toList.map (opdD E F l i o T) = o.op.operands.toList.map (opdD E F l i o #[]))) := by
  have hA : lookL D.As i = none := by
    unfold Dw.isCall at hC
    simp only [Bool.and_eq_true, Option.isNone_iff_eq_none] at hC
    exact hC.1
  unfold Dw.stL Dw.stR at h
  rw [hw] at h
  simp only [hA, hC] at h
  cases e : callOf (opdD E F l i o T) o with
  | none =>
    cases e2 : callOf (opdD E F l i o #[]) o with
    | some q2 => rw [e, e2] at h; simp only [Option.some.injEq, Prod.mk.injEq] at h; cases h.2.1
    | none =>
      rw [e, e2] at h
      simp only [Option.some.injEq, Prod.mk.injEq, List.cons.injEq, true_and, Bool.and_eq_true, Bool.or_eq_true, Option.isNone_iff_eq_none] at h
      obtain ⟨⟨h1, h2⟩, h3, h4, h5⟩ := h
      refine ⟨h4, h1, h5, Or.inr ⟨rfl, h3, List.map_inj_left.2 fun x hx => ?_⟩⟩
      exact Option.some.inj (List.map_inj_left.1 h2 x hx)
  | some q =>
    cases e2 : callOf (opdD E F l i o #[]) o with
    | none => rw [e, e2] at h; simp only [Option.some.injEq, Prod.mk.injEq] at h; cases h.2.1
    | some q2 =>
      obtain ⟨fid, vs⟩ := q
      obtain ⟨fid2, vs2⟩ := q2
      rw [e, e2] at h
      simp only [Option.some.injEq, Prod.mk.injEq, List.cons.injEq, and_true, true_and, Bool.and_eq_true, Bool.or_eq_true, Option.isNone_iff_eq_none] at h
      obtain ⟨⟨h1, h2⟩, rfl, h3, h4, h5⟩ := h
      have : vs = vs2 := by
        apply Array.toList_inj.1
        exact (List.map_inj_right (fun _ _ h => Option.some.inj h)).1 h2
      subst this
      exact ⟨h4, h1, h5, Or.inl ⟨_, _, rfl, rfl, h3⟩⟩
def Dw.Eqs (D : Dw) : Prop := ∀ i q, lookL D.es i = some q → q.1 = q.2
theorem Dw.st_one {hs : List Nat} {E : List (Nat × Value)} {u : Nat → Lt} {g : Nat} {T : Array Value} {i : Nat} {o : Oper} (he : D.Eqs) (h : D.stL P L F l hs E g T i o = D.stR P L F l hs E u g T i o) (hw : wantD E o = some true) (hA : lookL D.As i = none) (hC : D.isCall i = false) :
    o.dst.isSome = true ∧ ∃ v bl, oneD P (opdD E F l i o T) L (hs.getD i 0) o = some (v, bl) ∧ look E i = some v ∧ (bl = bl.map fun _ => gAt L (hs.getD i 0)) ∧ lookL D.Rs i = none := by
  have hR : lookL D.Rs i = none := by
    unfold Dw.isCall at hC
    rw [hA] at hC
    simp at hC
    exact hC.2
  unfold Dw.stL Dw.stR at h
  rw [hw] at h
  simp only [hA, hC] at h
  cases e : oneD P (opdD E F l i o T) L (hs.getD i 0) o with
  | none => rw [e] at h; cases h
  | some q =>
    obtain ⟨v, bl⟩ := q
    rw [e] at h
    simp only at h
    cases e2 : lookL D.es i with
    | none =>
      rw [e2] at h
      simp only [Option.some.injEq, Prod.mk.injEq, List.cons.injEq, and_true, true_and] at h
      exact ⟨h.2.2, v, bl, rfl, h.1.symm, h.2.1, hR⟩
    | some q =>
      rw [e2] at h
      simp only [Option.some.injEq, Prod.mk.injEq, List.cons.injEq, and_true, true_and] at h
      exact ⟨h.2.2, v, bl, rfl, by rw [h.1.2, h.1.1, he i q e2], h.2.1, hR⟩
theorem Dw.st_want {hs : List Nat} {E : List (Nat × Value)} {u : Nat → Lt} {g : Nat} {T : Array Value} {i : Nat} {o : Oper} (h : D.stL P L F l hs E g T i o = D.stR P L F l hs E u g T i o) : wantD E o ≠ none := fun e => by
  unfold Dw.stL Dw.stR at h
  rw [e] at h; cases h
theorem Dw.st_dst {hs : List Nat} {E : List (Nat × Value)} {u : Nat → Lt} {g : Nat} {T : Array Value} {i : Nat} {o : Oper} (he : D.Eqs) (h : D.stL P L F l hs E g T i o = D.stR P L F l hs E u g T i o) : o.dst.isSome = true := by
  cases hw : wantD E o with
  | none => exact absurd hw (Dw.st_want h)
  | some b =>
    cases b with
    | false => exact (Dw.st_off h hw).1
    | true =>
      cases hA : lookL D.As i with
      | some A => exact (Dw.st_al h hw hA).1
      | none =>
        cases hC : D.isCall i with
        | true => exact (Dw.st_call h hw hC).1
        | false => exact (Dw.st_one he h hw hA hC).1
theorem call_wpD {ρ : Operand → Value} {T : Array Value} {o : Oper} {fid : FuncId} {vs : Array Value} {d : Nat} {W : World} {K : Act → World → Prop} (hρ : (⟨T, []⟩ : Act).eval = ρ) (hb : callOf ρ o = some (fid, vs)) (hc : callableF P fid = true) (hd : o.dst = some d)
    (h : Calls P fid vs W (fun e w' => ∃ v, e = .returned v ∧ K ⟨T.setIfInBounds d v, []⟩ w')) : o.wp P ⟨T, []⟩ W K Q := by
  unfold callOf at hb
  split at hb
  · rename_i c ho
    obtain ⟨callee, args, argTypes⟩ := c
    simp only at hb
    split at hb
    · rename_i f2
      simp only [Option.some.injEq, Prod.mk.injEq] at hb
      obtain ⟨rfl, rfl⟩ := hb
      unfold callableF at hc
      split at hc
      · rename_i fn hfn
        refine wp_call ho hfn hc (by rw [hρ]) ?_
        rw [hd]; exact h
      · cases hc
    · cases hb
  · cases hb
theorem Dw.step (hp : Plain l N) (hst : D.Stays) (hF : Fq N T0 F) {hs : List Nat} (hok : D.Ok P L F l n1 hs E) (hpf : Pf w L X (D.Hs l) (D.obs P E F l 0 (l.take n1))) {u : Nat → Lt} {Ld : Nat → Bool} {T : Array Value} {W : World} (h : GInv l N n1 w W0 L X D E T0 u Ld T W) (hsh : Shut l Ld)
    {i : Nat} {o : Oper} (ho : l[i]? = some o) (hi : i < n1) (hL : Ld i = false) (hd : ∀ j, waits o j = true → Ld j = true) (K : Act → World → Prop) (hK : ∀ u' T' W', GInv l N n1 w W0 L X D E T0 u' (also Ld i) T' W' → K ⟨T', []⟩ W') :
    if Region.wanted o (yielded l.toArray T) = true then o.wp P ⟨T, []⟩ W K Q else K ((⟨T, []⟩ : Act).put o.dst undef) W := by
  have hat : ∀ (u : Nat → Lt) g T (j : Nat) oj, l[j]? = some oj → j < n1 → D.stL P L F l hs (E u) g T j oj = D.stR P L F l hs (E u) u g T j oj := fun u g T j oj hj hjn => by
    have := mapI_at (i := j) (hok.steps u g T) (by rw [List.getElem?_take_of_lt hjn]; exact hj)
    rwa [Nat.zero_add] at this
  have hdst : ∀ (j : Nat) oj, l[j]? = some oj → j < n1 → oj.dst.isSome = true := fun j oj hj hjn => Dw.st_dst hok.eqs (hat u 0 #[] j oj hj hjn)
  obtain ⟨d, hdd⟩ := Option.isSome_iff_exists.1 (hdst i o ho hi)
  have hev := h.eval hp hF hsh ho hi hL hd
  have same : ∀ j, j < n1 → Ld j = true → look (E u) j = look (E u) j := fun _ _ _ => rfl
  have hstep := hat u W.heap.size T i o ho hi
  have hput : ∀ v, (⟨T, []⟩ : Act).put o.dst v = ⟨T.setIfInBounds d v, []⟩ := fun v => by rw [hdd]; rfl
  have shutd : ∀ m, leans l i m = true → Ld m = true := fun m hm => leans_in hsh (fun o' j ho' hw => by rw [ho] at ho'; cases ho'; exact hd j hw) hm
  have indep : ∀ y, ((lookL D.As i).isSome = true ∨ (lookL D.Rs i).isSome = true) → ∀ j, j < n1 → Ld j = true → look (E (upd u i y)) j = look (E u) j := fun y hl j hj hLj => by
    refine hok.ind u i y hl j hj (fun e => by rw [e, hL] at hLj; cases hLj) ?_
    cases e : leans l j i with
    | false => rfl
    | true => rw [leans_in hsh (fun o' k ho' hw => hsh j o' ho' hLj k hw) e] at hL; cases hL
  have wsame : ∀ y, ((lookL D.As i).isSome = true ∨ (lookL D.Rs i).isSome = true) → wantD (E (upd u i y)) o = wantD (E u) o := fun y hl => by
    unfold wantD
    cases hg : o.guard with
    | none => rfl
    | some q =>
      obtain ⟨j, b⟩ := q
      simp only
      cases hw : waits o j with
      | false => rfl
      | true => rw [indep y hl j (Nat.lt_trans (hp.back i o j ho hw) hi) (hd j hw)]
  have ud : ∀ y m, m ≠ i → upd u i y m = u m := fun y m hm => by
    unfold upd
    cases e : Nat.beq m i with
    | true => exact absurd (Nat.eq_of_beq_eq_true e) hm
    | false => rfl
  cases e0 : wantD (E u) o with
  | none => exact absurd e0 (Dw.st_want hstep)
  | some b =>
    cases b with
    | false =>
      rw [if_neg (by rw [h.want hp ho hi hd e0 hdst]; decide), hput]
      obtain ⟨-, h1, h2, h3⟩ := Dw.st_off hstep e0
      exact hK u _ _ (h.next hp hst (Below.refl _ _) ho hL hdd (fun _ _ => rfl) same h1 (fun A hA => by rw [h2] at hA; cases hA) (fun R hR => by rw [h3] at hR; cases hR))
    | true =>
      rw [if_pos (h.want hp ho hi hd e0 hdst)]
      cases eA : lookL D.As i with
      | some A =>
        obtain ⟨-, h1, -, h3⟩ := Dw.st_al hstep e0 eA
        have hl : (lookL D.As i).isSome = true ∨ (lookL D.Rs i).isSome = true := Or.inl (by rw [eA]; rfl)
        unfold Oper.wp
        rw [hev, symN_run h1]
        show K ((⟨T, []⟩ : Act).put o.dst _) _
        rw [hput]
        have hb : Below W.heap.size W (W.alloc A.row) := (Below.refl _ _).alloc (Nat.le_refl _) _
        have h2 := (Dw.st_al (hat (upd u i (lt0 none W.heap.size 0)) 0 #[] i o ho hi) ((wsame _ hl).trans e0) eA).2.2.1
        rw [upd_same] at h2
        refine hK (upd u i (lt0 none W.heap.size 0)) _ _ (h.next hp hst hb ho hL hdd (ud _) (indep _ hl) h2 (fun A' hA' => ?_) (fun R hR => by rw [h3] at hR; cases hR))
        rw [eA] at hA'; cases hA'
        rw [upd_same]
        exact ⟨h.big, lastH W _ _ rfl, fun m A' hm hLm => by have := lt_of_block (h.al m A' hm hLm).2; simp only; omega⟩
      | none =>
        cases eC : D.isCall i with
        | true =>
          obtain ⟨-, h1, h6, hway⟩ := Dw.st_call hstep e0 eC
          have hob := hpf.at (Dw.obs_mem (k := 0) (i := i) (o := o) (by rw [List.getElem?_take_of_lt hi]; exact ho) (by rw [Nat.zero_add]; exact eC)) u W h.sx (by
            rw [Nat.zero_add]
            exact ⟨fun m A hm hle => (h.al m A hm (shutd m hle)).2, fun m R hm hle => h.rs m R hm (shutd m hle)⟩)
          rw [Nat.zero_add] at hob
          unfold Dw.ob at hob
          have fin : ∀ e w', D.post i W e w' → ∃ v, e = .returned v ∧ K ⟨T.setIfInBounds d v, []⟩ w' := by
            intro e w' hpost
            unfold Dw.post at hpost
            unfold Dw.res at h1
            cases hv : look D.ks i with
            | some v =>
              rw [hv] at hpost h1
              obtain ⟨rfl, hb⟩ := hpost
              exact ⟨v, rfl, hK u _ _ (h.next hp hst hb ho hL hdd (fun _ _ => rfl) same h1 (fun A hA => by rw [eA] at hA; cases hA) (fun R hR => by
                rcases h6 with h6 | h6
                · rw [hv] at h6; cases h6
                · rw [h6] at hR; cases hR))⟩
            | none =>
              rw [hv] at hpost
              cases hR : lookL D.Rs i with
              | some R =>
                rw [hR] at hpost
                obtain ⟨y, rfl, hy, hb⟩ := hpost
                have hl : (lookL D.As i).isSome = true ∨ (lookL D.Rs i).isSome = true := Or.inr (by rw [hR]; rfl)
                have h5 := (Dw.st_call (hat (upd u i y) 0 #[] i o ho hi) ((wsame _ hl).trans e0) eC).2.1
                unfold Dw.res at h5
                rw [hv, hR, Option.map_some, upd_same] at h5
                refine ⟨_, rfl, hK (upd u i y) _ _ (h.next hp hst hb ho hL hdd (ud _) (indep _ hl) h5 (fun A hA => by rw [eA] at hA; cases hA) (fun R' hR' => ?_))⟩
                rw [hR] at hR'; cases hR'
                rw [upd_same]; exact hy
              | none => rw [hR] at hpost; exact hpost.elim
          rcases hway with ⟨fid, vs, h2, h3, h4⟩ | ⟨h3, h4, h5⟩
          · rw [h3] at hob
            simp only at hob
            exact call_wpD hev h2 h4 hdd (hob.mono fin)
          · rw [h3] at hob
            simp only at hob
            obtain ⟨e, w', hpost, v, rfl, hr⟩ := hob
            obtain ⟨v', hv', hk⟩ := fin _ _ hpost
            cases hv'
            unfold Oper.wp
            rw [hev, exec_same h4 h5, hr]
            show K ((⟨T, []⟩ : Act).put o.dst v) w'
            rw [hput]; exact hk
        | false =>
          obtain ⟨-, v, bl, h1, h2, h3, h4⟩ := Dw.st_one hok.eqs hstep e0 eA eC
          unfold Oper.wp
          rw [hev, oneD_run h.sx h1 h3]
          show K ((⟨T, []⟩ : Act).put o.dst v) W
          rw [hput]
          exact hK u _ _ (h.next hp hst (Below.refl _ _) ho hL hdd (fun _ _ => rfl) same h2 (fun A hA => by rw [eA] at hA; cases hA) (fun R hR => by rw [h4] at hR; cases hR))
/-- Behind the first n1 operations each waits for all ahead of it. -/
def tailOk (l : List Oper) (n1 : Nat) : Bool := decide (n1 ≤ l.length) && (List.range l.length).all fun m => decide (m < n1) || (List.range m).all fun j => leans l m j
theorem tail_leans {m j : Nat} {o : Oper} (h : tailOk l n1 = true) (hm : n1 ≤ m) (ho : l[m]? = some o) (hj : j < m) : leans l m j = true := by
  unfold tailOk at h
  rw [Bool.and_eq_true] at h
  have h1 := List.all_eq_true.1 h.2 m (List.mem_range.2 (List.getElem?_eq_some_iff.1 ho).1)
  rw [Bool.or_eq_true, decide_eq_true_eq] at h1
  rcases h1 with h1 | h1
  · omega
  · exact List.all_eq_true.1 h1 j (List.mem_range.2 hj)
/-- The rest of a region, when the free part has been carried out. -/
theorem wp_region_tail {id : Nat} {a : Act} {W : World} (hm : P.follows .mixedOrders = true) (hp : Plain l N) (htail : tailOk l n1 = true) (hst : D.Stays) (hF : Fq N T0 F) (ha : a = ⟨T0, []⟩) {hs : List Nat} (hok : D.Ok P L F l n1 hs E) (hpf : Pf w L X (D.Hs l) (D.obs P E F l 0 (l.take n1))) (hS : Sx w L X W)
    (fin : ∀ u Ld T W', (∀ i, i < n1 → Ld i = true) → (∀ m, n1 ≤ m → m < l.length → Ld m = false) → GInv l N n1 w W L X D E T0 u Ld T W' → wpSeq P l Q (l.drop n1) ⟨T, []⟩ W') : (Code.region id l.toArray true).wp P Q a W := by
  have hle : n1 ≤ l.length := by
    unfold tailOk at htail
    rw [Bool.and_eq_true, decide_eq_true_eq] at htail
    exact htail.1
  have unf : ∀ {k : Nat} {o : Oper} {a : Act} {W : World}, l[k]? = some o → wpSeq P l Q (l.drop k) a W → (∀ K : Act → World → Prop, (∀ a W, wpSeq P l Q (l.drop (k + 1)) a W → K a W) → if Region.wanted o (yielded l.toArray a.tmps) = true then o.wp P a W K Q else K (a.put o.dst undef) W) := by
    intro k o a W ho h K hK
    obtain ⟨h1, h2⟩ := List.getElem?_eq_some_iff.1 ho
    rw [List.drop_eq_getElem_cons h1, h2] at h
    unfold wpSeq at h
    split
    · rename_i hw; rw [if_pos hw] at h; exact Oper.wp_mono hK h
    · rename_i hw; rw [if_neg hw] at h; exact hK _ _ h
  refine wp_region_inv l.length (by simp) hm (fun i o ho e he hb => hp.back i o e.on (by simpa using ho) (of_waits he hb rfl))
    (fun Ld a W' => Shut l Ld ∧ ((a.defers = [] ∧ (∀ m, n1 ≤ m → m < l.length → Ld m = false) ∧ ∃ u, GInv l N n1 w W L X D E T0 u Ld a.tmps W') ∨ ((∀ i, i < n1 → Ld i = true) ∧ ∃ k, n1 < k ∧ (∀ m, n1 ≤ m → m < l.length → (Ld m = true ↔ m < k)) ∧ wpSeq P l Q (l.drop k) a W'))) ?_ ?_ ?_
  · subst ha
    have h0 : Shut l (fun _ => false) := fun k ok _ h => Bool.noConfusion h
    have h1 : GInv l N n1 w W L X D E T0 (fun _ => lt0 none 0 0) (fun _ => false) T0 W.drew := ⟨hF.size, hS.drew, Nat.le_refl _, fun i o d v _ _ h => Bool.noConfusion h, fun _ _ => rfl, fun _ _ _ h => Bool.noConfusion h, fun _ _ _ _ _ _ h => Bool.noConfusion h, fun _ _ _ h => Bool.noConfusion h⟩
    exact ⟨h0, Or.inl ⟨rfl, fun _ _ _ => rfl, _, h1⟩⟩
  · intro i o ho Ld a W' hI hf hd
    have ho' : l[i]? = some o := by simpa using ho
    have hil : i < l.length := (List.getElem?_eq_some_iff.1 ho').1
    have hd' : ∀ j, waits o j = true → Ld j = true := fun j hj => by
      obtain ⟨e, he, hb, rfl⟩ := waits_of hj
      exact hd e he hb
    obtain ⟨hsh, hI⟩ := hI
    have hsh' : Shut l (also Ld i) := fun j oj hj hLj m hm => by
      by_cases e : j = i
      · subst e; rw [ho'] at hj; cases hj
        simp [also, hd' m hm]
      · rw [also_ne e] at hLj
        simp [also, hsh j oj hj hLj m hm]
    have hall' : ∀ j, n1 ≤ i → j < i → Ld j = true := fun j h1 h2 => leans_in hsh (fun o' k hk hw => by rw [ho'] at hk; cases hk; exact hd' k hw) (tail_leans htail h1 ho' h2)
    rcases hI with ⟨hdef, hno, u, hG⟩ | ⟨hall, k, hk, hkm, hw⟩
    · obtain ⟨T, ds⟩ := a
      obtain rfl : ds = [] := hdef
      by_cases hi : i < n1
      · refine Dw.step hp hst hF hok hpf hG hsh ho' hi hf hd' _ (fun u' T' W2 hG' => ⟨hsh', Or.inl ⟨rfl, fun m h1 h2 => ?_, u', hG'⟩⟩)
        rw [also_ne (by omega)]; exact hno m h1 h2
      · have hin : i = n1 := by
          rcases Nat.lt_or_ge n1 i with h1 | h1
          · have := hall' n1 (by omega) h1
            rw [hno n1 (Nat.le_refl _) (by omega)] at this; cases this
          · omega
        subst hin
        have hall : ∀ j, j < i → Ld j = true := fun j hj => hall' j (Nat.le_refl _) hj
        refine unf ho' (fin u Ld T W' hall hno hG) _ (fun a2 W2 h2 => ⟨hsh', Or.inr ⟨fun j hj => by rw [also_ne (by omega)]; exact hall j hj, i + 1, by omega, fun m h1 h3 => ?_, h2⟩⟩)
        by_cases e : m = i
        · subst e; simp [also]
        · rw [also_ne e, hno m h1 h3]
          constructor
          · intro h; cases h
          · intro h; omega
    · have hni : n1 ≤ i := by
        rcases Nat.lt_or_ge i n1 with h1 | h1
        · rw [hall i h1] at hf; cases hf
        · exact h1
      have hki : i = k := by
        have h1 : ¬ i < k := fun h => by rw [(hkm i hni hil).2 h] at hf; cases hf
        rcases Nat.lt_or_ge k i with h2 | h2
        · have h3 := (hkm k (by omega) (by omega)).1 (hall' k hni h2)
          omega
        · omega
      subst hki
      refine unf ho' hw _ (fun a2 W2 h2 => ⟨hsh', Or.inr ⟨fun j hj => by rw [also_ne (by omega)]; exact hall j hj, i + 1, by omega, fun m h1 h3 => ?_, h2⟩⟩)
      by_cases e : m = i
      · subst e; simp [also]
      · rw [also_ne e, hkm m h1 h3]; omega
  · intro Ld a W' hall hI
    rcases hI.2 with ⟨hdef, hno, u, hG⟩ | ⟨-, k, hk, hkm, hw⟩
    · obtain ⟨T, ds⟩ := a
      obtain rfl : ds = [] := hdef
      have : n1 = l.length := by
        rcases Nat.lt_or_ge n1 l.length with h1 | h1
        · have := hno n1 (Nat.le_refl _) h1
          rw [hall n1 h1] at this; cases this
        · omega
      have h := fin u Ld T W' (fun i hi => hall i (by omega)) hno hG
      rw [this, List.drop_length] at h
      exact h
    · have : l.length ≤ k := by
        rcases Nat.lt_or_ge k l.length with h1 | h1
        · have := (hkm k (by omega) h1).1 (hall k h1); omega
        · exact h1
      rw [List.drop_eq_nil_of_le this] at hw
      exact hw
def Dw.rows (D : Dw) (u : Nat → Lt) : List (Nat × Obj) := D.As.map fun p => ((u p.1).n, p.2.row)
def keysOk {β : Type} : List (Nat × β) → Bool
  | [] => true
  | (a, _) :: l => (lookL l a).isNone && keysOk l
theorem keys_look {β : Type} : ∀ {l : List (Nat × β)}, keysOk l = true → ∀ {p : Nat × β}, p ∈ l → lookL l p.1 = some p.2
  | (a, v) :: l, h, p, hp => by
    simp only [keysOk, Bool.and_eq_true, Option.isNone_iff_eq_none] at h
    simp only [lookL]
    rcases List.mem_cons.1 hp with rfl | hp
    · simp
    · have h1 := keys_look h.2 hp
      cases e : Nat.beq a p.1 with
      | true => rw [Nat.eq_of_beq_eq_true e, h1] at h; cases h.1
      | false => exact h1
theorem keys_pair {β : Type} : ∀ {l : List (Nat × β)}, keysOk l = true → l.Pairwise fun p q => p.1 ≠ q.1
  | [], _ => List.Pairwise.nil
  | (a, v) :: l, h => by
    simp only [keysOk, Bool.and_eq_true, Option.isNone_iff_eq_none] at h
    refine List.Pairwise.cons (fun q hq e => ?_) (keys_pair h.2)
    have := keys_look h.2 hq
    rw [← e, h.1] at this; cases this
/-- The blocks that a region has made, among the rows. -/
theorem GInv.rows {u : Nat → Lt} {Ld : Nat → Bool} {T : Array Value} {W : World} (h : GInv l N n1 w W0 L X D E T0 u Ld T W) (hS0 : Sx w L X W0) (hk : keysOk D.As = true) (hall : ∀ p, p ∈ D.As → Ld p.1 = true) : Sx w (D.rows u ++ L) X W := by
  have hal : ∀ p, p ∈ D.As → W0.heap.size ≤ (u p.1).n ∧ W.heap[(u p.1).n]? = some p.2.row := fun p hp => h.al p.1 p.2 (keys_look hk hp) (hall p hp)
  refine ⟨h.sx.below, fun p hp => ?_, ?_, h.sx.ext, fun p hp q hq => ?_, h.sx.bound, h.sx.excl⟩
  · rcases List.mem_append.1 hp with hp | hp
    · obtain ⟨q, hq, rfl⟩ := List.mem_map.1 hp
      exact (hal q hq).2
    · exact h.sx.rows p hp
  · refine List.pairwise_append.2 ⟨?_, h.sx.apart, fun p hp q hq e => ?_⟩
    · rw [Dw.rows, List.pairwise_map]
      refine (keys_pair hk).imp_of_mem (fun {p q} hp hq hne => ?_)
      exact h.dis p.1 q.1 p.2 q.2 (keys_look hk hp) (keys_look hk hq) (hall p hp) (hall q hq) hne
    · obtain ⟨s, hs, rfl⟩ := List.mem_map.1 hp
      have h1 := (hal s hs).1
      have h2 := lt_of_block (hS0.rows q hq)
      simp only at e; omega
  · rcases List.mem_append.1 hp with hp | hp
    · obtain ⟨s, hs, rfl⟩ := List.mem_map.1 hp
      intro hf
      have h1 := (hal s hs).1
      have h2 := hS0.bound q hq _ hf
      simp only at h2; omega
    · exact h.sx.sep p hp q hq
section drw
variable {f : Func} {r : Nat}
theorem rgn_drawn (hd : rdrawn f r = some true) : ∃ id, rgn f r = .region id (rops f r).toArray true := by
  unfold rdrawn at hd
  unfold rops
  split at hd
  · rename_i id ops d e
    simp only [Option.some.injEq] at hd; subst hd
    rw [e]
    exact ⟨id, by simp⟩
  · cases hd
def Dw.letters (D : Dw) : List Nat := D.As.map (·.1) ++ D.Rs.map (·.1)
def indF (l : List Oper) (n1 m : Nat) (E : List (Nat × Value)) : List (Option Value) := (List.range n1).map fun j => match Nat.beq j m || leans l j m with
  | true => none
  | false => look E j
/-- What is known of the frame behind the region. -/
def newF (l : List Oper) (n1 : Nat) (E : List (Nat × Value)) (new : List (Nat × Value)) : List (Option Value) := new.map fun p => match writer l p.1 with
  | some j => match decide (j < n1) with
    | true => look E j
    | false => none
  | none => none
def loneD (l : List Oper) (n1 : Nat) (F new : List (Nat × Value)) : Bool := (l.take n1).all fun o => match o.dst with
  | some d => match look F d with
    | none => true
    | some _ => (look new d).isSome
  | none => true
theorem look_isSome {β : Type} : ∀ {l : List (Nat × β)} {m : Nat}, (lookL l m).isSome = true → m ∈ l.map (·.1)
  | (a, v) :: l, m, h => by
    simp only [lookL] at h
    cases e : Nat.beq a m with
    | true => rw [Nat.eq_of_beq_eq_true e]; exact List.mem_cons_self ..
    | false => rw [e] at h; exact List.mem_cons_of_mem _ (look_isSome h)
/-- A region that draws its order, up to its n1-th operation; behind it all is in order. -/
theorem Cd.drA (n1 : Nat) (hs : List Nat) (D : Dw) (new : (Nat → Lt) → List (Nat × Value)) {L' : (Nat → Lt) → List (Nat × Obj)} {X' : (Nat → Lt) → List Xt} {Cs : List (Nat × ((Nat → Lt) → World → Prop))}
    (hst : D.Stays) (hes : D.Eqs) (hpf : Pf w L X (D.Hs (rops f r)) Cs) (hX : ∀ u W, Sx w (D.rows u ++ L) X W → (∀ m R, lookL D.Rs m = some R → R.2 (u m) W) → Sx w (L' u) (X' u) W)
    (k : ∀ u, (∀ m A, lookL D.As m = some A → w.heap.size ≤ (u m).n) → At P f r n1 Q N (new u ++ F) w (L' u) (X' u))
    (hm : P.follows .mixedOrders = true) (h1 : ((rdrawn f r).getD false && relOps N (rops f r) && tailOk (rops f r) n1 && dstsOk N (rops f r) && keysOk D.As && D.letters.all (fun m => decide (m < n1))) = true)
    (h2 : ∀ u g T, mapI (D.stL P L F (rops f r) hs (D.E P L F (rops f r) n1 hs u) g T) 0 ((rops f r).take n1) = mapI (D.stR P L F (rops f r) hs (D.E P L F (rops f r) n1 hs u) u g T) 0 ((rops f r).take n1))
    (h3 : ∀ u y, D.letters.map (fun m => indF (rops f r) n1 m (D.E P L F (rops f r) n1 hs (upd u m y))) = D.letters.map (fun m => indF (rops f r) n1 m (D.E P L F (rops f r) n1 hs u)))
    (h4 : ∀ u, (newF (rops f r) n1 (D.E P L F (rops f r) n1 hs u) (new u), loneD (rops f r) n1 F (new u)) = ((new u).map (fun p => some p.2), true))
    (h5 : Cs = D.obs P (D.E P L F (rops f r) n1 hs) F (rops f r) 0 ((rops f r).take n1)) : Cd P (rgn f r) Q N F w L X := by
  intro T W hF hS
  simp only [Bool.and_eq_true] at h1
  obtain ⟨⟨⟨⟨⟨hd, hrel⟩, htail⟩, hN⟩, hk⟩, hlt⟩ := h1
  have hd' : rdrawn f r = some true := by
    cases e : rdrawn f r with
    | none => rw [e] at hd; cases hd
    | some b => rw [e] at hd; cases b <;> first | rfl | cases hd
  obtain ⟨id, he⟩ := rgn_drawn hd'
  rw [he]
  have hp := plain_of hrel
  have hok : D.Ok P L F (rops f r) n1 hs (D.E P L F (rops f r) n1 hs) := ⟨h2, fun u m y hl j hj hne hle => by
    have hm : m ∈ D.letters := by
      unfold Dw.letters
      rcases hl with hl | hl
      · exact List.mem_append_left _ (look_isSome hl)
      · exact List.mem_append_right _ (look_isSome hl)
    have h := List.map_inj_left.1 (h3 u y) m hm
    have h' := List.map_inj_left.1 h j (List.mem_range.2 hj)
    rw [hle, Bool.or_false] at h'
    have : Nat.beq j m = false := by
      cases e : Nat.beq j m with
      | true => exact absurd (Nat.eq_of_beq_eq_true e) hne
      | false => rfl
    rw [this] at h'
    exact h', hes⟩
  have hle : n1 ≤ (rops f r).length := by
    unfold tailOk at htail
    rw [Bool.and_eq_true, decide_eq_true_eq] at htail
    exact htail.1
  refine wp_region_tail hm hp htail hst hF rfl hok (h5 ▸ hpf) hS (fun u Ld T' W' hall hno hG => ?_)
  have hlet : ∀ m, m ∈ D.letters → m < n1 := fun m hm => of_decide_eq_true (List.all_eq_true.1 hlt m hm)
  refine k u (fun m A hA => ?_) hN T' W' ⟨hG.size, fun s v hs => ?_⟩ (hX u W' (hG.rows hS hk (fun p hp => hall p.1 (hlet _ (List.mem_append_left _ (List.mem_map_of_mem hp))))) (fun m R hR => hG.rs m R hR (hall m (hlet m (List.mem_append_right _ (look_isSome (by rw [hR]; rfl)))))))
  · exact Nat.le_trans hS.below.size (hG.al m A hA (hall m (hlet m (List.mem_append_left _ (look_isSome (by rw [hA]; rfl)))))).1
  · have h4' := h4 u
    simp only [Prod.mk.injEq] at h4'
    obtain ⟨hn, hl⟩ := h4'
    rw [look_app] at hs
    cases e : look (new u) s with
    | some v' =>
      rw [e] at hs
      simp only [Option.some.injEq] at hs
      subst hs
      have h := List.map_inj_left.1 hn _ (look_mem _ _ _ e)
      simp only at h
      split at h
      · rename_i j ej
        split at h
        · rename_i hj
          have hj := of_decide_eq_true hj
          obtain ⟨oj, hoj, hdj⟩ := writer_some ej
          exact hG.val j oj s v' hj hoj (hall j hj) hdj h
        · cases h
      · cases h
    | none =>
      rw [e] at hs
      simp only at hs
      by_cases hw : ∃ (i : Nat) (o : Oper), (rops f r)[i]? = some o ∧ o.dst = some s ∧ i < n1
      · obtain ⟨i, o, ho, hdo, hi⟩ := hw
        have := List.all_eq_true.1 hl o (List.mem_of_getElem? (by rw [List.getElem?_take_of_lt hi]; exact ho))
        rw [hdo] at this
        simp only [hs, e] at this
        cases this
      · rw [hG.rest s (fun i o ho hdo => ?_)]
        · exact hF.known s v hs
        · refine hno i ?_ (List.getElem?_eq_some_iff.1 ho).1
          rcases Nat.lt_or_ge i n1 with h5 | h5
          · exact absurd ⟨i, o, ho, hdo, h5⟩ hw
          · exact h5
theorem Dw.eqs_nil {ks : List (Nat × Value)} {As : List (Nat × Mk)} {Rs : List (Nat × (Lt → Value) × (Lt → World → Prop))} : Dw.Eqs ⟨ks, As, Rs, []⟩ := fun _ _ h => by cases h
theorem Dw.stays_nil (D : Dw) (h : D.Rs = []) : D.Stays := fun m R hR => by rw [h] at hR; cases hR
/-- .. where all answers are known and no block is made. -/
theorem Cd.dk (n1 : Nat) (hs : List Nat) (ks : List (Nat × Value)) (new : List (Nat × Value)) {Cs : List (Nat × ((Nat → Lt) → World → Prop))} (hpf : Pf w L X (Dw.Hs ⟨ks, [], [], []⟩ (rops f r)) Cs) (k : At P f r n1 Q N (new ++ F) w L X)
    (hm : P.follows .mixedOrders = true := by kernel_rfl) (h1 : ((rdrawn f r).getD false && relOps N (rops f r) && tailOk (rops f r) n1 && dstsOk N (rops f r) && true && true) = true := by kernel_rfl)
    (h2 : ∀ u g T, mapI (Dw.stL ⟨ks, [], [], []⟩ P L F (rops f r) hs (Dw.E ⟨ks, [], [], []⟩ P L F (rops f r) n1 hs u) g T) 0 ((rops f r).take n1) = mapI (Dw.stR ⟨ks, [], [], []⟩ P L F (rops f r) hs (Dw.E ⟨ks, [], [], []⟩ P L F (rops f r) n1 hs u) u g T) 0 ((rops f r).take n1) := by intro u g T; kernel_rfl)
    (h4 : ∀ u, (newF (rops f r) n1 (Dw.E ⟨ks, [], [], []⟩ P L F (rops f r) n1 hs u) new, loneD (rops f r) n1 F new) = (new.map (fun p => some p.2), true) := by intro u; kernel_rfl)
    (h5 : Cs = Dw.obs ⟨ks, [], [], []⟩ P (Dw.E ⟨ks, [], [], []⟩ P L F (rops f r) n1 hs) F (rops f r) 0 ((rops f r).take n1) := by kernel_rfl) : Cd P (rgn f r) Q N F w L X :=
  Cd.drA n1 hs ⟨ks, [], [], []⟩ (fun _ => new) (L' := fun _ => L) (X' := fun _ => X) (Dw.stays_nil _ rfl) Dw.eqs_nil hpf (fun _ _ h _ => h) (fun _ _ => k) hm h1 h2 (fun _ _ => rfl) h4 h5
/-- .. where variables are made. -/
theorem Cd.da (n1 : Nat) (hs : List Nat) (ks : List (Nat × Value)) (As : List (Nat × Mk)) (new : (Nat → Lt) → List (Nat × Value)) {Cs : List (Nat × ((Nat → Lt) → World → Prop))} (hpf : Pf w L X (Dw.Hs ⟨ks, As, [], []⟩ (rops f r)) Cs)
    (k : ∀ u, (∀ m A, lookL As m = some A → w.heap.size ≤ (u m).n) → At P f r n1 Q N (new u ++ F) w (Dw.rows ⟨ks, As, [], []⟩ u ++ L) X)
    (hm : P.follows .mixedOrders = true := by kernel_rfl) (h1 : ((rdrawn f r).getD false && relOps N (rops f r) && tailOk (rops f r) n1 && dstsOk N (rops f r) && keysOk As && (Dw.letters ⟨ks, As, [], []⟩).all (fun m => decide (m < n1))) = true := by kernel_rfl)
    (h2 : ∀ u g T, mapI (Dw.stL ⟨ks, As, [], []⟩ P L F (rops f r) hs (Dw.E ⟨ks, As, [], []⟩ P L F (rops f r) n1 hs u) g T) 0 ((rops f r).take n1) = mapI (Dw.stR ⟨ks, As, [], []⟩ P L F (rops f r) hs (Dw.E ⟨ks, As, [], []⟩ P L F (rops f r) n1 hs u) u g T) 0 ((rops f r).take n1) := by intro u g T; kernel_rfl)
    (h3 : ∀ u y, (Dw.letters ⟨ks, As, [], []⟩).map (fun m => indF (rops f r) n1 m (Dw.E ⟨ks, As, [], []⟩ P L F (rops f r) n1 hs (upd u m y))) = (Dw.letters ⟨ks, As, [], []⟩).map (fun m => indF (rops f r) n1 m (Dw.E ⟨ks, As, [], []⟩ P L F (rops f r) n1 hs u)) := by intro u y; kernel_rfl)
    (h4 : ∀ u, (newF (rops f r) n1 (Dw.E ⟨ks, As, [], []⟩ P L F (rops f r) n1 hs u) (new u), loneD (rops f r) n1 F (new u)) = ((new u).map (fun p => some p.2), true) := by intro u; kernel_rfl)
    (h5 : Cs = Dw.obs ⟨ks, As, [], []⟩ P (Dw.E ⟨ks, As, [], []⟩ P L F (rops f r) n1 hs) F (rops f r) 0 ((rops f r).take n1) := by kernel_rfl) : Cd P (rgn f r) Q N F w L X :=
  Cd.drA n1 hs ⟨ks, As, [], []⟩ new (Dw.stays_nil _ rfl) Dw.eqs_nil hpf (fun _ _ h _ => h) k hm h1 h2 h3 h4 h5
/-- .. where answers are letters, too. -/
theorem Cd.dr (n1 : Nat) (hs : List Nat) (ks : List (Nat × Value)) (As : List (Nat × Mk)) (Rs : List (Nat × (Lt → Value) × (Lt → World → Prop))) (es : List (Nat × Value × Value)) (new : (Nat → Lt) → List (Nat × Value)) (L' : (Nat → Lt) → List (Nat × Obj)) (X' : (Nat → Lt) → List Xt) {Cs : List (Nat × ((Nat → Lt) → World → Prop))}
    (hst : Dw.Stays ⟨ks, As, Rs, es⟩) (hes : Dw.Eqs ⟨ks, As, Rs, es⟩) (hpf : Pf w L X (Dw.Hs ⟨ks, As, Rs, es⟩ (rops f r)) Cs) (hX : ∀ u W, Sx w (Dw.rows ⟨ks, As, Rs, es⟩ u ++ L) X W → (∀ m R, lookL Rs m = some R → R.2 (u m) W) → Sx w (L' u) (X' u) W)
    (k : ∀ u, (∀ m A, lookL As m = some A → w.heap.size ≤ (u m).n) → At P f r n1 Q N (new u ++ F) w (L' u) (X' u))
    (hm : P.follows .mixedOrders = true := by kernel_rfl) (h1 : ((rdrawn f r).getD false && relOps N (rops f r) && tailOk (rops f r) n1 && dstsOk N (rops f r) && keysOk As && (Dw.letters ⟨ks, As, Rs, es⟩).all (fun m => decide (m < n1))) = true := by kernel_rfl)
    (h2 : ∀ u g T, mapI (Dw.stL ⟨ks, As, Rs, es⟩ P L F (rops f r) hs (Dw.E ⟨ks, As, Rs, es⟩ P L F (rops f r) n1 hs u) g T) 0 ((rops f r).take n1) = mapI (Dw.stR ⟨ks, As, Rs, es⟩ P L F (rops f r) hs (Dw.E ⟨ks, As, Rs, es⟩ P L F (rops f r) n1 hs u) u g T) 0 ((rops f r).take n1) := by intro u g T; kernel_rfl)
    (h3 : ∀ u y, (Dw.letters ⟨ks, As, Rs, es⟩).map (fun m => indF (rops f r) n1 m (Dw.E ⟨ks, As, Rs, es⟩ P L F (rops f r) n1 hs (upd u m y))) = (Dw.letters ⟨ks, As, Rs, es⟩).map (fun m => indF (rops f r) n1 m (Dw.E ⟨ks, As, Rs, es⟩ P L F (rops f r) n1 hs u)) := by intro u y; kernel_rfl)
    (h4 : ∀ u, (newF (rops f r) n1 (Dw.E ⟨ks, As, Rs, es⟩ P L F (rops f r) n1 hs u) (new u), loneD (rops f r) n1 F (new u)) = ((new u).map (fun p => some p.2), true) := by intro u; kernel_rfl)
    (h5 : Cs = Dw.obs ⟨ks, As, Rs, es⟩ P (Dw.E ⟨ks, As, Rs, es⟩ P L F (rops f r) n1 hs) F (rops f r) 0 ((rops f r).take n1) := by kernel_rfl) : Cd P (rgn f r) Q N F w L X :=
  Cd.drA n1 hs ⟨ks, As, Rs, es⟩ new hst hes hpf hX k hm h1 h2 h3 h4 h5
theorem stays_cons {ks : List (Nat × Value)} {As : List (Nat × Mk)} {Rs : List (Nat × (Lt → Value) × (Lt → World → Prop))} {es : List (Nat × Value × Value)} {m : Nat} {V : Lt → Value} {R : Lt → World → Prop} (h : ∀ y W W', Below W.heap.size W W' → R y W → R y W') (t : Dw.Stays ⟨ks, As, Rs, es⟩) : Dw.Stays ⟨ks, As, (m, V, R) :: Rs, es⟩ := fun m' R' hR => by
  simp only [lookL] at hR
  cases e : Nat.beq m m' with
  | true => rw [e] at hR; simp at hR; subst hR; exact h
  | false => rw [e] at hR; exact t m' R' hR
theorem eqs_nil {ks : List (Nat × Value)} {As : List (Nat × Mk)} {Rs : List (Nat × (Lt → Value) × (Lt → World → Prop))} : Dw.Eqs ⟨ks, As, Rs, []⟩ := fun _ _ h => by cases h
theorem eqs_cons {ks : List (Nat × Value)} {As : List (Nat × Mk)} {Rs : List (Nat × (Lt → Value) × (Lt → World → Prop))} {es : List (Nat × Value × Value)} {m : Nat} {v v' : Value} (h : v = v') (t : Dw.Eqs ⟨ks, As, Rs, es⟩) : Dw.Eqs ⟨ks, As, Rs, (m, v, v') :: es⟩ := fun i q hq => by
  simp only [lookL] at hq
  cases e : Nat.beq m i with
  | true => rw [e] at hq; simp at hq; subst hq; exact h
  | false => rw [e] at hq; exact t i q hq
theorem stays_nil {ks : List (Nat × Value)} {As : List (Nat × Mk)} {es : List (Nat × Value × Value)} : Dw.Stays ⟨ks, As, [], es⟩ := fun m R hR => by cases hR
end drw
theorem Sx.one {w : World} {g : Nat} {o : Obj} (h : w.heap[g]? = some o) : Sx w [(g, o)] [] w where
  below := Below.refl _ _
  rows := fun p hp => by
    rcases List.mem_cons.1 hp with rfl | hp
    · exact h
    · cases hp
  apart := List.pairwise_singleton _ _
  ext := fun _ h => by cases h
  sep := fun _ _ _ h => by cases h
  bound := fun _ h => by cases h
  excl := List.Pairwise.nil
/-- Has no row this type? -/
def rowsNot (ty : TypeId) (L : List (Nat × Obj)) : Bool := L.all fun p => match p.2 with
  | .cells _ t _ => !(Nat.beq t ty)
  | _ => false
/-- A row that is only read, of a type that no row of the list has. -/
theorem Sx.addR {w W : World} {L : List (Nat × Obj)} {X : List Xt} (h : Sx w L X W) {g : Nat} {cs : Array Value} {ty : TypeId} {fr : Nat × Nat} (hg : W.heap[g]? = some (.cells cs ty fr)) (hL : rowsNot ty L = true) (hX : (X.all fun q => !q.ex) = true) : Sx w L (xrow g (.cells cs ty fr) :: X) W :=
  h.addX _ hg (fun p hp e => by
    have h1 := h.rows p hp
    have h2 := List.all_eq_true.1 hL p hp
    have e : p.1 = g := e
    rw [e, hg] at h1
    simp only [Option.some.injEq] at h1
    rw [← h1] at h2
    simp at h2) (fun b hb => by
    have hb : b = g := hb
    rw [hb]; exact lt_of_block hg) (fun q hq hx => by
    have := List.all_eq_true.1 hX q hq
    simp only [xrow, Bool.false_or] at hx
    rw [hx] at this; cases this)
end drawn
end Go.Proofs.Ytbaifchbpnmkpaa
namespace Go.Proofs.Ytbaifchbpnmkpaa
open Go.RowKit
/-- A slice that may be appended to: where it lies. -/
def RestG (E : TypeId) (W : World) (v : Value) (cs : List Value) : Prop :=
  (v = .slice none 0 0 ∧ cs = []) ∨ ∃ g off cap cur, v = .slice (some ⟨g, off, none⟩) cs.length cap ∧ W.heap[g]? = some (.cells cur E (0, 0)) ∧ cs.length ≤ cap ∧ off + cap ≤ cur.size ∧ (∀ i, i < cs.length → cur[off + i]? = cs[i]?)
theorem RestG.shape {E : TypeId} {W : World} {v : Value} {cs : List Value} (h : RestG E W v cs) : ∃ a c, v = .slice a cs.length c := by
  rcases h with ⟨rfl, rfl⟩ | ⟨g, off, cap, cur, rfl, -⟩
  · exact ⟨_, _, rfl⟩
  · exact ⟨_, _, rfl⟩
theorem RestG.stays {E : TypeId} {W W' : World} {v : Value} {cs : List Value} (h : RestG E W v cs) (hk : ∀ b, v.ownBlock = some b → b < W.heap.size → W'.heap[b]? = W.heap[b]?) : RestG E W' v cs := by
  rcases h with h | ⟨g, off, cap, cur, rfl, hg, h1, h2, h3⟩
  · exact Or.inl h
  · exact Or.inr ⟨g, off, cap, cur, rfl, (hk g rfl (lt_of_block hg)).trans hg, h1, h2, h3⟩
theorem RestG.lt {E : TypeId} {W : World} {v : Value} {cs : List Value} (h : RestG E W v cs) : ∀ b, v.ownBlock = some b → b < W.heap.size := fun b hb => by
  rcases h with ⟨rfl, -⟩ | ⟨g, off, cap, cur, rfl, hg, -⟩
  · cases hb
  · simp [Value.ownBlock] at hb; subst hb; exact lt_of_block hg
theorem RestG.at {E : TypeId} {W : World} {g off n c : Nat} {cs : List Value} (h : RestG E W (.slice (some ⟨g, off, none⟩) n c) cs) (i a : Nat) (x : Value) (hi : cs[i]? = some x) (ha : a = off + i) : W.cell? ⟨g, a, none⟩ = some x := by
  subst ha
  have hlt : i < cs.length := (List.getElem?_eq_some_iff.1 hi).1
  rcases h with ⟨h1, -⟩ | ⟨g', off', cap, cur, h1, hg, -, -, h3⟩
  · cases h1
  · injection h1 with e; injection e with e; injection e with e1 e2; subst e1 e2
    exact (cell_of_row _ _ _ _ _ _ hg).trans ((h3 i hlt).trans hi)
theorem RestG.based {E : TypeId} {W : World} {A : Option Addr} {n c : Nat} {cs : List Value} (h : RestG E W (.slice A n c) cs) (h0 : 0 < cs.length) : ∃ b o, A = some ⟨b, o, none⟩ := by
  rcases h with ⟨-, h1⟩ | ⟨g, off, cap, cur, h1, -⟩
  · rw [h1] at h0; simp at h0
  · injection h1 with e; exact ⟨g, off, e⟩
theorem RestG.caple {E : TypeId} {W : World} {A : Option Addr} {n c : Nat} {cs : List Value} (h : RestG E W (.slice A n c) cs) : cs.length ≤ c ∧ n = cs.length := by
  rcases h with ⟨h1, h2⟩ | ⟨g, off, cap, cur, h1, -, h2, -⟩
  · injection h1 with e1 e2 e3; subst h2 e2 e3; exact ⟨Nat.le_refl _, rfl⟩
  · injection h1 with e1 e2 e3; subst e3; exact ⟨h2, e2⟩
/-- A slice of one's own. -/
def xog (E : TypeId) (w : World) (v : Value) (cs : List Value) : Xt := ⟨true, fun b => v.ownBlock = some b, fun W => RestG E W v cs ∧ ∀ b, v.ownBlock = some b → w.heap.size ≤ b, fun _ _ hk _ h => ⟨RestG.stays h.1 hk, h.2⟩⟩
theorem Sx.og {w W : World} {L : List (Nat × Obj)} {X : List Xt} (h : Sx w L X W) (i : Nat) {E : TypeId} {v : Value} {cs : List Value} (hi : X[i]? = some (xog E w v cs)) : RestG E W v cs := (show RestG E W v cs ∧ _ from h.x i hi).1
theorem Sx.ogown {w W : World} {L : List (Nat × Obj)} {X : List Xt} (h : Sx w L X W) (i : Nat) {E : TypeId} {v : Value} {cs : List Value} (hi : X[i]? = some (xog E w v cs)) : ∀ b, v.ownBlock = some b → w.heap.size ≤ b := (show RestG E W v cs ∧ _ from h.x i hi).2
/-- The nil slice. -/
theorem Sx.nilog {w W : World} {L : List (Nat × Obj)} {X : List Xt} (h : Sx w L X W) (E : TypeId) : Sx w L (xog E w (.slice none 0 0) [] :: X) W :=
  h.addX _ ⟨Or.inl ⟨rfl, rfl⟩, fun b hb => by cases hb⟩ (fun _ _ hb => by cases hb) (fun _ hb => by cases hb) (fun _ _ _ _ hb => by cases hb)
theorem Sx.appg {w W W' : World} {L : List (Nat × Obj)} {X : List Xt} (h : Sx w L X W) (i : Nat) {E : TypeId} {v v' : Value} {cs zs : List Value} (hi : X[i]? = some (xog E w v cs)) (R : RestG E W' v' zs) (K : Keeps (fun b => v.ownBlock = some b) W W') (Nn : ∀ b, v'.ownBlock = some b → v.ownBlock = some b ∨ b = W.heap.size) : Sx w L (X.set i (xog E w v' zs)) W' := by
  have ho : RestG E W v cs ∧ ∀ b, v.ownBlock = some b → w.heap.size ≤ b := h.x i hi
  refine h.writeX i hi rfl rfl ⟨R, fun b hb => ?_⟩ (fun b hb => ?_) (fun b hb => R.lt b hb) (fun b hb => ho.2 b hb) K.os K.tape K.output K.size K.block
  · rcases Nn b hb with h1 | h1
    · exact ho.2 b h1
    · rw [h1]; exact h.below.size
  · rcases Nn b hb with h1 | h1
    · exact Or.inl h1
    · exact Or.inr (by omega)
theorem runG_room {T E : TypeId} (hT : Try.prog.underlying T = some (.slice E)) (ty : TypeId) (i : TypeInfo) (hi : Try.prog.info? E = some i) (h1 : i.size = 1) (W : World) (g off n cap : Nat) (cur : Array Value) (hg : W.heap[g]? = some (.cells cur E (0, 0))) (x : Value) (m : Nat) (news : List Value) (hs : Src Try.prog 1 T x m news W)
    (hroom : n + m ≤ cap) (hfit : off + cap ≤ cur.size) :
    (Builtin.append_ #[T, T] ty #[.slice (some ⟨g, off, none⟩) n cap, x]).run Try.prog W = .ok (.slice (some ⟨g, off, none⟩) (n + m) cap) (W.setRow g (cur.toList.take (off + n) ++ news ++ cur.toList.drop (off + n + news.length)).toArray) := by
  have hl := hs.newsLen
  have hst := run_storeCells_at Try.prog g (off + n) E news 0 cur W hg (by omega) hs.one
  simp only [Nat.add_zero] at hst
  rcases hs.kind with ⟨e', hk⟩ | hk <;> simp [Builtin.append_, run_underlying hT, sizeOf, typeInfo, hi, h1, hs.len, hroom, hs.cells, Addr.add_lit, hst]
theorem runG_nothing {T E : TypeId} (hT : Try.prog.underlying T = some (.slice E)) (ty : TypeId) (i : TypeInfo) (hi : Try.prog.info? E = some i) (h1 : i.size = 1) (W : World) (base : Option Addr) (n cap : Nat) (hle : n ≤ cap) (x : Value) (hs : Src Try.prog 1 T x 0 [] W) :
    (Builtin.append_ #[T, T] ty #[.slice base n cap, x]).run Try.prog W = .ok (.slice base n cap) W := by
  rcases hs.kind with ⟨e', hk⟩ | hk <;> cases base <;> simp [Builtin.append_, run_underlying hT, sizeOf, typeInfo, hi, h1, hs.len, hle, hs.cells, storeCells]
/-- A slice that begins where its block begins. -/
def Z0 (v : Value) : Prop := ∀ b o m n c, v = .slice (some ⟨b, o, m⟩) n c → o = 0
theorem runG_app {T E : TypeId} (hT : Try.prog.underlying T = some (.slice E)) {z : Value} {sb' : Nat} (hE : (Try.prog.info? E).map (fun i => (i.zero, i.size, i.bytes)) = some (some z, 1, sb')) (hzs : z.cells.size = 1) (ty : TypeId) (W : World) (v x : Value) (cs ys : List Value) (hv : RestG E W v cs) (hs : Src Try.prog 1 T x ys.length ys W) (hn : (cs.length + ys.length) * sb' ≤ 70368744177664) (hn2 : cs.length + ys.length ≤ 1000000000000) :
    ∃ v' W', (Builtin.append_ #[T, T] ty #[v, x]).run Try.prog W = .ok v' W' ∧ RestG E W' v' (cs ++ ys) ∧ Keeps (fun b => v.ownBlock = some b) W W' ∧ (∀ b, v'.ownBlock = some b → v.ownBlock = some b ∨ b = W.heap.size) ∧ (Z0 v → Z0 v') := by
  obtain ⟨i, hi, hz, h1, h2⟩ := info_parts hE
  have hsm : ∀ k, k = cs.length + ys.length → ((k : Nat) : Int) ≤ 9223372036854775807 := fun k hk => by omega
  have grow : ∀ (base : Option Addr) (cap : Nat), v = .slice base cs.length cap → cap < cs.length + ys.length → (Builtin.firstCells i.size cs.length (.slice base cs.length cap)).run Try.prog W.drew = .ok cs.toArray W.drew →
      ∃ v' W', (Builtin.append_ #[T, T] ty #[v, x]).run Try.prog W = .ok v' W' ∧ RestG E W' v' (cs ++ ys) ∧ Keeps (fun b => v.ownBlock = some b) W W' ∧ (∀ b, v'.ownBlock = some b → v.ownBlock = some b ∨ b = W.heap.size) ∧ (Z0 v → Z0 v') := by
    rintro base cap rfl hlt hold
    have hfit : Builtin.nextslicecap (cs.length + ys.length) cap * i.bytes ≤ 281474976710656 := growslice_fits (by omega) (by rw [h2]; omega)
    have hr := run_append_grow_src (P := Try.prog) (w := W) T T ty E i z hT hi hz base cs.length cap cs hold x ys.length ys (by rw [h1]; exact hs) hlt (hsm _ rfl) hfit
    have hge := grownCap_ge W (cs.length + ys.length) cap E
    generalize grownCap W (cs.length + ys.length) cap E = gc at hr hge
    refine ⟨_, _, hr, Or.inr ⟨W.heap.size, 0, gc, _, by rw [List.length_append], heap_alloc_new W.drew _, by rw [List.length_append]; exact hge, ?_, ?_⟩, ?_, ?_⟩
    · simp only [Array.size_append, List.size_toArray, List.length_append, size_zeroCells, hzs]
      omega
    · intro k hk
      rw [Nat.zero_add, Array.getElem?_append_left (by simpa using hk), List.getElem?_toArray]
    · exact Keeps.of_below ((Below.refl _ _).drew.alloc (Nat.le_refl _) _)
    · exact ⟨fun b hb => by simp [Value.ownBlock] at hb; exact Or.inr hb.symm, fun _ b o m n c e => by cases e; rfl⟩
  rcases hv with ⟨rfl, rfl⟩ | ⟨g, off, cap, cur, rfl, hg, hc1', hc2, hc3⟩
  · by_cases hm : ys.length = 0
    · obtain rfl : ys = [] := List.eq_nil_of_length_eq_zero hm
      have hr := runG_nothing hT ty i hi h1 W none 0 0 (Nat.le_refl _) x hs
      exact ⟨_, _, hr, Or.inl ⟨rfl, rfl⟩, Keeps.refl _ _, fun b hb => Or.inl hb, id⟩
    · exact grow none 0 rfl (by simp; omega) (run_firstCells_none (P := Try.prog) W.drew i.size 0 0 0)
  · by_cases hroom : cs.length + ys.length ≤ cap
    · have hr := runG_room hT ty i hi h1 W g off cs.length cap cur hg x ys.length ys hs hroom hc2
      refine ⟨_, _, hr, Or.inr ⟨g, off, cap, _, by rw [List.length_append], setRow_heap W g cur _ _ _ hg, by rw [List.length_append]; exact hroom, ?_, ?_⟩, ?_, ?_⟩
      · simp only [List.size_toArray, List.length_append, List.length_take, List.length_drop, Array.length_toList]; omega
      · intro k hk
        rw [List.getElem?_toArray]
        have htl : (List.take (off + cs.length) cur.toList).length = off + cs.length := by simp; omega
        by_cases hkb : k < cs.length
        · rw [List.append_assoc, List.getElem?_append_left (by rw [htl]; omega), List.getElem?_take, if_pos (by omega), List.getElem?_append_left hkb]
          have := hc3 k hkb
          simpa using this
        · rw [List.length_append] at hk
          rw [List.append_assoc, List.getElem?_append_right (by rw [htl]; omega), htl, List.getElem?_append_left (by omega), show off + k - (off + cs.length) = k - cs.length by omega, List.getElem?_append_right (by omega)]
      · exact (Keeps.refl _ W).setRow _ (Or.inl rfl)
      · exact ⟨fun b hb => Or.inl hb, fun h b o m n c e => by cases e; exact h _ _ _ _ _ rfl⟩
    · refine grow (some ⟨g, off, none⟩) cap rfl (by omega) ?_
      rw [h1]
      exact run_firstCells_some (P := Try.prog) W.drew 1 cs.length ⟨g, off, none⟩ cs.length cap cs (by rw [Nat.mul_one]) (fun j u hj => by
        have hl : j < cs.length := (List.getElem?_eq_some_iff.1 hj).1
        have hadd : (⟨g, off, none⟩ : Addr).add j = ⟨g, off + j, none⟩ := by unfold Addr.add; split <;> simp_all
        rw [hadd, ← hj]
        exact (cell_of_row W g (off + j) cur _ _ hg).trans (hc3 j hl))
/-- Two facts become one: pieces, and one more. -/
theorem Sx.merge {w W : World} {L : List (Nat × Obj)} {X : List Xt} {q1 q2 : Xt} (h : Sx w L (q1 :: q2 :: X) W) (q' : Xt) (hex : q'.ex = false) (hf : ∀ b, q'.foot b → q1.foot b ∨ q2.foot b) (hq' : q'.holds W) : Sx w L (q' :: X) W := by
  have m1 : q1 ∈ q1 :: q2 :: X := List.mem_cons_self ..
  have m2 : q2 ∈ q1 :: q2 :: X := List.mem_cons_of_mem _ (List.mem_cons_self ..)
  obtain ⟨e1, e2⟩ := List.pairwise_cons.1 h.excl
  obtain ⟨e3, e4⟩ := List.pairwise_cons.1 e2
  have h0 : Sx w L X W := ⟨h.below, h.rows, h.apart, fun q hq => h.ext q (List.mem_cons_of_mem _ (List.mem_cons_of_mem _ hq)), fun p hp q hq => h.sep p hp q (List.mem_cons_of_mem _ (List.mem_cons_of_mem _ hq)), fun q hq => h.bound q (List.mem_cons_of_mem _ (List.mem_cons_of_mem _ hq)), e4⟩
  refine h0.addX q' hq' (fun p hp hb => ?_) (fun b hb => ?_) (fun r hr hrx b hb hrb => ?_)
  · rcases hf _ hb with hb | hb
    · exact h.sep p hp q1 m1 hb
    · exact h.sep p hp q2 m2 hb
  · rcases hf _ hb with hb | hb
    · exact h.bound q1 m1 b hb
    · exact h.bound q2 m2 b hb
  · rw [hex, Bool.false_or] at hrx
    rcases hf _ hb with hb | hb
    · exact e1 r (List.mem_cons_of_mem _ hr) (by rw [hrx]; simp) b hb hrb
    · exact e3 r hr (by rw [hrx]; simp) b hb hrb
/-- Values that read as pieces, in blocks of S. -/
def xpl (S : Nat → Prop) (vs : List Value) (pss : List (List Nat)) : Xt := ⟨false, S, fun W => (∀ b, S b → b < W.heap.size) ∧ ∀ (i : Nat) v ps, vs[i]? = some v → pss[i]? = some ps → PieceS W S v ps, fun _ _ hk hs h => ⟨fun b hb => Nat.lt_of_lt_of_le (h.1 b hb) hs, fun i v ps hv hp => PieceS.stays (h.2 i v ps hv hp) h.1 hk⟩⟩
theorem Sx.nilpl {w W : World} {L : List (Nat × Obj)} {X : List Xt} (h : Sx w L X W) : Sx w L (xpl (fun _ => False) [] [] :: X) W :=
  h.addX _ ⟨fun _ hb => hb.elim, fun i v ps hv => by simp at hv⟩ (fun _ _ hb => hb) (fun _ hb => hb.elim) (fun _ _ _ _ hb => hb.elim)
end Go.Proofs.Ytbaifchbpnmkpaa
namespace Go.Proofs.Ytbaifchbpnmkpaa
open Go.RowKit
section walkapp
variable {f : Func} {r i N : Nat} {Q : Exit → Act → World → Prop} {F : List (Nat × Value)} {w : World} {L : List (Nat × Obj)} {X : List Xt}
/-- What an operation appends to what. -/
def appB (T : Array Value) (F : List (Nat × Value)) (o : Oper) : Option (Nat × TypeId × TypeId × Value × Value) := match o.dst, o.op with
  | some d, .call c => match c.callee, c.args.toList, c.argTypes.toList with
    | .builtin .append, [s, x], [t1, t2] => some (d, t1, t2, opd F T s, opd F T x)
    | _, _, _ => none
  | _, _ => none
theorem toList_two {α : Type} {a : Array α} {x y : α} (h : a.toList = [x, y]) : a = #[x, y] := by
  cases a; simp only at h; rw [h]
theorem At.app (n : Nat) (hs : List Nat) (d : Nat) {TT E : TypeId} {z : Value} {sb' : Nat} {v xv : Value} {cs ys : List Value} (j : Nat) (hj : X[j]? = some (xog E w v cs)) (hsrc : ∀ W, Sx w L X W → Src Try.prog 1 TT xv ys.length ys W) (hn : (cs.length + ys.length) * sb' ≤ 70368744177664) (hn2 : cs.length + ys.length ≤ 1000000000000)
    (k : ∀ y : Lt, y.n = (cs ++ ys).length → (Z0 v → Z0 y.sl) → At Try.prog f r (i + n + 1) Q N ((d, y.sl) :: F) w L (X.set j (xog E w y.sl (cs ++ ys))))
    (hT : Try.prog.underlying TT = some (.slice E) := by kernel_rfl) (hE : (Try.prog.info? E).map (fun i => (i.zero, i.size, i.bytes)) = some (some z, 1, sb') := by kernel_rfl) (hzs : z.cells.size = 1 := by rfl)
    (hk : ∀ T T', opL Try.prog f r i n L F hs T (appB T') = opR Try.prog f r i n L F hs T (d, TT, TT, v, xv) := by intro T T'; kernel_rfl) : At Try.prog f r i Q N F w L X := by
  intro hN T W hF hS
  refine op_run hN hF hS hk (fun T' F1 o hF' hF1 hb hw hdN => ?_)
  refine wpSeq_step fun K hK => ?_
  rw [if_pos hw]
  unfold appB at hb
  split at hb
  · rename_i d' c e1 e2
    obtain ⟨callee, args, argTypes⟩ := c
    split at hb
    · rename_i s x t1 t2 h1 h2 h3
      simp only at h1 h2 h3
      have h2 := toList_two h2
      have h3 := toList_two h3
      subst h1 h2 h3
      simp only [Option.some.injEq, Prod.mk.injEq] at hb
      obtain ⟨rfl, rfl, rfl, rfl, rfl⟩ := hb
      obtain ⟨v', W', hr, h4, h5, h6, h7⟩ := runG_app hT hE hzs o.type W _ _ cs ys (hS.og j hj) (hsrc W hS) hn hn2
      unfold Oper.wp
      rw [opd_eq hF1]
      unfold execOp
      simp only [e2, resolve, invoke, builtin, Sem.run_bind, Sem.run_pure, Result.andThen_ok, List.map_toArray, List.map_cons, List.map_nil, hr]
      obtain ⟨a, c, rfl⟩ := h4.shape
      show K ((⟨T', []⟩ : Act).put o.dst (.slice a (cs ++ ys).length c)) W'
      rw [e1]
      exact hK _ _ (k (lt0 a (cs ++ ys).length c) rfl h7 hN _ W' (hF'.put _ _ (hdN _ e1)) (hS.appg j hj h4 h5 h6))
    · cases hb
  · cases hb
end walkapp
/-- A row that a function has made, as what is appended. -/
theorem Sx.srcg {w W : World} {L : List (Nat × Obj)} {X : List Xt} (S : Sx w L X W) {TT E : TypeId} {ys : List Value} {g m c : Nat} (j : Nat) (hj : L[j]? = some (g, .cells ys.toArray E (0, 0))) (hm : m = ys.length) (hT : Try.prog.underlying TT = some (.slice E) := by kernel_rfl) (h1 : ys.all (·.oneCell') = true := by rfl) : Src Try.prog 1 TT (.slice (some ⟨g, 0, none⟩) m c) ys.length ys W := by
  subst hm
  have hrw : W.heap[g]? = some (.cells ys.toArray E (0, 0)) := S.rows _ (List.mem_of_getElem? hj)
  exact Src.ofSlice (w := W) hT ⟨g, 0, none⟩ _ c _ (by rw [Nat.mul_one]) (fun j u hj => by
    have hadd : (⟨g, 0, none⟩ : Addr).add j = ⟨g, 0 + j, none⟩ := by unfold Addr.add; split <;> simp_all
    rw [hadd, cell_of_row _ _ _ _ _ _ hrw, Nat.zero_add, List.getElem?_toArray]; exact hj) (fun u hu => List.all_eq_true.1 h1 u hu)
theorem Sx.tl {w W : World} {p : Nat × Obj} {L : List (Nat × Obj)} {X : List Xt} (h : Sx w (p :: L) X W) : Sx w L X W := ⟨h.below, fun p hp => h.rows p (List.mem_cons_of_mem _ hp), (List.pairwise_cons.1 h.apart).2, h.ext, fun p hp => h.sep p (List.mem_cons_of_mem _ hp), h.bound, h.excl⟩
/-- A row that a function has made becomes a slice of its own. -/
theorem Sx.ogrow {w W : World} {E : TypeId} {g n : Nat} {cs : List Value} {L : List (Nat × Obj)} {X : List Xt} (h : Sx w ((g, .cells cs.toArray E (0, 0)) :: L) X W) (hw : w.heap.size ≤ g) (hn : n = cs.length) : Sx w L (xog E w (.slice (some ⟨g, 0, none⟩) n n) cs :: X) W := by
  subst hn
  have hg : W.heap[g]? = some (.cells cs.toArray E (0, 0)) := h.rows _ (List.mem_cons_self ..)
  have h' : Sx w L X W := ⟨h.below, fun p hp => h.rows p (List.mem_cons_of_mem _ hp), (List.pairwise_cons.1 h.apart).2, h.ext, fun p hp => h.sep p (List.mem_cons_of_mem _ hp), h.bound, h.excl⟩
  have hb1 : ∀ b, (Value.slice (some ⟨g, 0, none⟩) cs.length cs.length).ownBlock = some b → b = g := fun b hb => by
    have hb : some g = some b := hb
    cases hb; rfl
  refine h'.addX _ ⟨Or.inr ⟨g, 0, cs.length, _, rfl, hg, Nat.le_refl _, by simp, fun i hi => by simp⟩, fun b hb => by rw [hb1 b hb]; exact hw⟩ (fun p hp e => ?_) (fun b hb => ?_) (fun q hq _ b hb hqb => ?_)
  · exact (List.pairwise_cons.1 h.apart).1 p hp (hb1 _ e).symm
  · rw [hb1 b hb]; exact lt_of_block hg
  · rw [hb1 b hb] at hqb; exact h.sep _ (List.mem_cons_self ..) q hq hqb
end Go.Proofs.Ytbaifchbpnmkpaa
namespace Go.Proofs.Ytbaifchbpnmkpaa
open Go.RowKit
section late
variable {P : Program} {K K' : Act → World → Prop} {Q : Exit → Act → World → Prop}
theorem upon_halt {o : Oper} {a : Act} {f : Halt} {W : World} (hQ : ∀ c a W, ¬ Q (.panic c) a W) : ¬ o.upon P a K Q (.halt f W) := fun h => by
  unfold Oper.upon at h
  cases f <;> first | exact hQ _ _ _ h | exact h
end late
def slotNot (d : Nat) : Operand → Bool
  | .tmp k => !(Nat.beq k d)
  | _ => true
section
variable {P : Program} {l : List Oper} {N n1 q : Nat} {F : List (Nat × Value)} {w : World} {L : List (Nat × Obj)} {X : List Xt} {D : Dw} {E : (Nat → Lt) → List (Nat × Value)} {T0 : Array Value} {Q : Exit → Act → World → Prop}
theorem slot_eval {d : Nat} {x : Operand} {T : Array Value} {v : Value} (h : slotNot d x = true) : (⟨T, []⟩ : Act).eval x = (⟨T.setIfInBounds d v, []⟩ : Act).eval x := by
  cases x with
  | tmp k =>
    simp only [slotNot, Bool.not_eq_true'] at h
    have : k ≠ d := fun e => by subst e; simp at h
    show T.getD k undef = (T.setIfInBounds d v).getD k undef
    rw [Array.getD_eq_getD_getElem?, Array.getD_eq_getD_getElem?, Array.getElem?_setIfInBounds, if_neg (Ne.symm this)]
  | _ => rfl
variable {f : Func} {r : Nat}
/-- How a region ends. -/
def endsU (N : Nat) (w : World) (p : (Nat → Lt) → Prop) (F2 : (Nat → Lt) → List (Nat × Value)) (L2 : (Nat → Lt) → List (Nat × Obj)) (X2 : (Nat → Lt) → List Xt) (e : Exit) (a : Act) (W : World) : Prop := e = .normal ∧ ∃ u, p u ∧ ∃ T, a = ⟨T, []⟩ ∧ Fq N T (F2 u) ∧ Sx w (L2 u) (X2 u) W
theorem endsU_of {p : (Nat → Lt) → Prop} {F2 : (Nat → Lt) → List (Nat × Value)} {L2 : (Nat → Lt) → List (Nat × Obj)} {X2 : (Nat → Lt) → List Xt} (u : Nat → Lt) (hu : p u) (hk : (F2 u).map (fun p => look F p.1) = (F2 u).map (fun p => some p.2) := by kernel_rfl) (hS : ∀ W, Sx w L X W → Sx w (L2 u) (X2 u) W := by exact fun _ S => S) : ∀ T W, Fq N T F → Sx w L X W → endsU N w p F2 L2 X2 .normal ⟨T, []⟩ W :=
  fun T W hF h => ⟨rfl, u, hu, T, rfl, hF.sub hk, hS W h⟩
end
end Go.Proofs.Ytbaifchbpnmkpaa
namespace Go.Proofs.Ytbaifchbpnmkpaa
open Go.RowKit
section sem
variable {P : Program} {f : Func} {r i N : Nat} {Q : Exit → Act → World → Prop} {F : List (Nat × Value)} {w : World} {L : List (Nat × Obj)} {X : List Xt}
def semB (T : Array Value) (F : List (Nat × Value)) (o : Oper) : Option (Nat × Sem Next) := match o.dst with
  | some d => some (d, execOp (opd F T) o)
  | none => none
/-- An operation that answers one of many values, each with what it says of the world. -/
theorem At.semX {ι : Type} (n : Nat) (hs : List Nat) (d : Nat) (s : Sem Value) {V : ι → Value} {L' : ι → List (Nat × Obj)} {X' : ι → List Xt} (hv : ∀ W, Sx w L X W → ∃ y W', s.run P W = .ok (V y) W' ∧ Sx w (L' y) (X' y) W') (k : ∀ y, At P f r (i + n + 1) Q N ((d, V y) :: F) w (L' y) (X' y))
    (hk : ∀ T T', opL P f r i n L F hs T (semB T') = opR P f r i n L F hs T (d, (do pure (.value (← s)))) := by intro T T'; kernel_rfl) : At P f r i Q N F w L X := by
  intro hN T W hF hS
  refine op_run hN hF hS hk (fun T' F1 o hF' hF1 hb hw hdN => ?_)
  refine wpSeq_step fun K hK => ?_
  rw [if_pos hw]
  unfold semB at hb
  split at hb
  · rename_i d' e1
    simp only [Option.some.injEq, Prod.mk.injEq] at hb
    obtain ⟨rfl, hb⟩ := hb
    obtain ⟨y, W', hr, hS'⟩ := hv W hS
    unfold Oper.wp
    rw [opd_eq hF1, hb]
    simp only [Sem.run_bind, Sem.run_pure, hr, Result.andThen_ok]
    show K ((⟨T', []⟩ : Act).put o.dst (V y)) W'
    rw [e1]
    exact hK _ _ (k y hN _ W' (hF'.put _ _ (hdN _ e1)) hS')
  · cases hb
/-- .. one value, the world as it was. -/
theorem At.sem (n : Nat) (hs : List Nat) (d : Nat) (s : Sem Value) (v : Value) (hv : ∀ W, Sx w L X W → s.run P W = .ok v W) (k : At P f r (i + n + 1) Q N ((d, v) :: F) w L X)
    (hk : ∀ T T', opL P f r i n L F hs T (semB T') = opR P f r i n L F hs T (d, (do pure (.value (← s)))) := by intro T T'; kernel_rfl) : At P f r i Q N F w L X :=
  At.semX (ι := Unit) (V := fun _ => v) (L' := fun _ => L) (X' := fun _ => X) n hs d s (fun W hS => ⟨(), W, hv W hS, hS⟩) (fun _ => k) hk
end sem
section cutat
variable {f : Func} {r i N : Nat} {Q : Exit → Act → World → Prop} {F : List (Nat × Value)} {w : World} {L : List (Nat × Obj)} {X : List Xt}
/-- b[lo:] of a piece handed in. -/
theorem At.cutl (n : Nat) (hs : List Nat) (d : Nat) (j : Nat) {B m c lo : Nat} {A : Option Addr} {bs : List Nat} (hj : X[j]? = some (xpc B (.slice A m c) bs)) (hm : m = bs.length) (h1 : lo ≤ bs.length) (hc : bs.length ≤ c)
    (k : ∀ y : Lt, y.n = bs.length - lo → y.c = c - lo → At Try.prog f r (i + n + 1) Q N ((d, y.sl) :: F) w L (xpc B y.sl (bs.drop lo) :: X))
    (hk : ∀ T T', opL Try.prog f r i n L F hs T (semB T') = opR Try.prog f r i n L F hs T (d, (do pure (.value (← Instr.sliceAt 22 (.slice A m c) (some (.int .i64 (lo : Int))) none none)))) := by intro T T'; kernel_rfl) : At Try.prog f r i Q N F w L X := by
  subst hm
  refine At.semX (ι := {y : Lt // y.n = bs.length - lo ∧ y.c = c - lo}) (V := fun y => y.1.sl) (L' := fun _ => L) (X' := fun y => xpc B y.1.sl (bs.drop lo) :: X) n hs d _ (fun W hS => ?_) (fun y => k y.1 y.2.1 y.2.2) hk
  obtain ⟨a', e, h⟩ := piece_cut (hS.pcS j hj) lo bs.length h1 (Nat.le_refl _) hc
  rw [show (bs.drop lo).take (bs.length - lo) = bs.drop lo from List.take_of_length_le (by rw [List.length_drop]; omega)] at h
  refine ⟨⟨lt0 a' (bs.length - lo) (c - lo), rfl, rfl⟩, W, ?_, hS.cutpc j hj h⟩
  rw [run_sliceAt_slice _ _ _ _ _ _ bytes_slice, run_slice_l W 22 A bs.length c bytes_slice .i64 (lo : Int) (Int.natCast_nonneg _) (by omega), byte_size]
  simp only [Result.andThen_ok, Int.toNat_natCast, e]
/-- [32]byte(b): the address, then what stands there. -/
theorem At.arr32 (n : Nat) (hs : List Nat) (d : Nat) {b o m c : Nat} (hm : 32 ≤ m)
    (k : At Try.prog f r (i + n + 1) Q N ((d, po b o) :: F) w L X)
    (hk : ∀ T T', opL Try.prog f r i n L F hs T (semB T') = opR Try.prog f r i n L F hs T (d, (do pure (.value (← Instr.arrayAt 25 (.slice (some ⟨b, o, none⟩) m c))))) := by intro T T'; kernel_rfl) : At Try.prog f r i Q N F w L X :=
  At.sem n hs d _ _ (fun W _ => run_arrayAt W 25 _ 32 _ m c Try.underlying25 hm) k hk
/-- b[lo:] where something is left: its place. -/
theorem At.cutb (n : Nat) (hs : List Nat) (d : Nat) (j : Nat) {B m c lo : Nat} {A : Option Addr} {bs : List Nat} (hj : X[j]? = some (xpc B (.slice A m c) bs)) (hm : m = bs.length) (h1 : lo < bs.length) (hc : bs.length ≤ c)
    (k : ∀ b o, At Try.prog f r (i + n + 1) Q N ((d, .slice (some ⟨b, o, none⟩) (m - lo) (c - lo)) :: F) w L (xpc B (.slice (some ⟨b, o, none⟩) (m - lo) (c - lo)) (bs.drop lo) :: X))
    (hk : ∀ T T', opL Try.prog f r i n L F hs T (semB T') = opR Try.prog f r i n L F hs T (d, (do pure (.value (← Instr.sliceAt 22 (.slice A m c) (some (.int .i64 (lo : Int))) none none)))) := by intro T T'; kernel_rfl) : At Try.prog f r i Q N F w L X := by
  subst hm
  refine At.cutl n hs d j hj rfl (Nat.le_of_lt h1) hc (fun y hn hy => At.fact (p := ∃ b o, y.a = some ⟨b, o, none⟩) (fun W S => ?_) (fun ⟨b, o, e⟩ => ?_)) hk
  · exact S.lies 0 rfl rfl (by rw [List.length_drop]; omega)
  · have := k b o
    unfold Lt.sl
    rw [e, hn, hy]; exact this
/-- The bytes of a piece. -/
def bfn (bs : List Nat) (i : Nat) : Int := ((nth bs i : Nat) : Int)
theorem At.ld32 (n : Nat) (hs : List Nat) (d : Nat) (j : Nat) {B b o m c : Nat} {bs : List Nat} (hj : X[j]? = some (xpc B (.slice (some ⟨b, o, none⟩) m c) bs)) (h1 : 32 ≤ bs.length)
    (k : At Try.prog f r (i + n + 1) Q N ((d, .agg (row32 (bfn bs))) :: F) w L X)
    (hk : ∀ T T', opL Try.prog f r i n L F hs T (semB T') = opR Try.prog f r i n L F hs T (d, (do pure (.value (← Instr.loadAt 25 (po b o))))) := by intro T T'; kernel_rfl) : At Try.prog f r i Q N F w L X := by
  refine At.sem n hs d _ _ (fun W S => ?_) k hk
  have hl : (row32 (bfn bs)).toList.length = 32 := by unfold row32; rw [cells32_eq]; simp
  have := run_loadAt_mid (P := Try.prog) W b o 25 (row32 (bfn bs)).toList _ (fun q v hq => ?_) Try.underlying25 rfl (by rw [hl]; kernel_rfl)
  · rw [Array.toArray_toList] at this; exact this
  · have hq2 : q < 32 := by have := (List.getElem?_eq_some_iff.1 hq).1; omega
    rw [(S.pcS j hj).at q _ (by omega) rfl, ← hq, Array.getElem?_toList, row32_get _ _ hq2]; rfl
end cutat
/-- What is asked of an operation by its instruction, in a region that draws: a known value, the world as it was. -/
theorem sem_ob {P : Program} {s : Sem Value} {v : Value} {W : World} (h : s.run P W = .ok v W) : ∃ (e : Ending) (w' : World), (e = .returned v ∧ Below W.heap.size W w') ∧ ∃ v', e = .returned v' ∧ (do pure (.value (← s)) : Sem Next).run P W = .ok (.value v') w' :=
  ⟨_, W, ⟨rfl, Below.refl _ _⟩, v, rfl, by simp only [Sem.run_bind, Sem.run_pure, h, Result.andThen_ok]⟩
/-- Cuts whose place is known. -/
theorem cut_l_run {b o m c lo : Nat} (h1 : lo < m) (hc : m ≤ c) (W : World) : (Instr.sliceAt 22 (.slice (some ⟨b, o, none⟩) m c) (some (.int .i64 (lo : Int))) none none).run Try.prog W = .ok (.slice (some ⟨b, o + lo, none⟩) (m - lo) (c - lo)) W := by
  have hadd : (⟨b, o, none⟩ : Addr).add (lo * 1) = ⟨b, o + lo, none⟩ := by unfold Addr.add; split <;> simp_all
  have e : sliced (some ⟨b, o, none⟩) lo m c 1 = .slice (some ⟨b, o + lo, none⟩) (m - lo) (c - lo) := by
    unfold sliced
    rw [if_neg (by omega)]
    simp only [Option.map_some, hadd]
  rw [run_sliceAt_slice _ _ _ _ _ _ bytes_slice, run_slice_l W 22 _ m c bytes_slice .i64 (lo : Int) (Int.natCast_nonneg _) (by omega), byte_size]
  simp only [Result.andThen_ok, Int.toNat_natCast, e]
theorem cut_h_run {b o m c hi : Nat} (h0 : 0 < hi) (h1 : hi ≤ c) (W : World) : (Instr.sliceAt 22 (.slice (some ⟨b, o, none⟩) m c) none (some (.int .i64 (hi : Int))) none).run Try.prog W = .ok (.slice (some ⟨b, o, none⟩) hi c) W := by
  have hadd : (⟨b, o, none⟩ : Addr).add (0 * 1) = ⟨b, o, none⟩ := by unfold Addr.add; split <;> simp_all
  have e : sliced (some ⟨b, o, none⟩) 0 hi c 1 = .slice (some ⟨b, o, none⟩) hi c := by
    unfold sliced
    rw [if_neg (by omega)]
    simp only [Option.map_some, hadd, Nat.sub_zero]
  rw [run_sliceAt_slice _ _ _ _ _ _ bytes_slice, run_slice_h W 22 _ m c bytes_slice .i64 (hi : Int) (Int.natCast_nonneg _) (by omega), byte_size]
  simp only [Result.andThen_ok, Int.toNat_natCast, e]
section appn
variable {f : Func} {r i N : Nat} {Q : Exit → Act → World → Prop} {F : List (Nat × Value)} {w : World} {L : List (Nat × Obj)} {X : List Xt}
end appn
end Go.Proofs.Ytbaifchbpnmkpaa
namespace Go.Proofs.Ytbaifchbpnmkpaa
open Go.RowKit
/-- A function's walk, from any world. -/
theorem enterW {P : Program} {w W : World} {L : List (Nat × Obj)} {X : List Xt} {fid : FuncId} {fn : Func} {args : Array Value} {R : Ending → World → Prop} (N : Nat) (K : (Nat → Code) → Code) (hS : Sx w L X W) (hf : P.funcs[fid]? = some fn) (k : Cd P (K (rgn fn)) (bodyPost P fn R) N (args.toList.zipIdx.map fun p => (p.2, p.1)) w L X)
    (hb : fn.body = some (K (rgn fn)) := by kernel_rfl) (hN : args.size + (fn.ntmps - args.size) = N := by kernel_rfl) : Calls P fid args W R :=
  calls_of_wp hf hb (k _ W ⟨by rw [← hN]; simp, fun j v hj => by
    have hm := look_mem _ _ _ hj
    obtain ⟨p, hp, he⟩ := List.mem_map.1 hm
    cases he
    obtain ⟨h1, h2, h3⟩ := List.mem_zipIdx hp
    simp only [Nat.sub_zero] at h3
    have h2 : p.2 < args.size := by simpa using h2
    rw [Array.getD_eq_getD_getElem?, Array.getElem?_append_left h2, h3]
    simp [h2]⟩ hS)
section semu
variable {P : Program} {f : Func} {r i N : Nat} {Q : Exit → Act → World → Prop} {F : List (Nat × Value)} {w : World} {L : List (Nat × Obj)} {X : List Xt}
def semU (T : Array Value) (F : List (Nat × Value)) (o : Oper) : Option (Sem Next) := match o.dst with
  | none => some (execOp (opd F T) o)
  | some _ => none
/-- An operation that only writes. -/
theorem At.semU (n : Nat) (hs : List Nat) (s : Sem Unit) {L' : List (Nat × Obj)} {X' : List Xt} (hv : ∀ W, Sx w L X W → ∃ W', s.run P W = .ok () W' ∧ Sx w L' X' W') (k : At P f r (i + n + 1) Q N F w L' X')
    (hk : ∀ T T', opL P f r i n L F hs T (semU T') = opR P f r i n L F hs T (do s; pure .skip) := by intro T T'; kernel_rfl) : At P f r i Q N F w L X := by
  intro hN T W hF hS
  refine op_run hN hF hS hk (fun T' F1 o hF' hF1 hb hw hdN => ?_)
  refine wpSeq_step fun K hK => ?_
  rw [if_pos hw]
  unfold Go.Proofs.Ytbaifchbpnmkpaa.semU at hb
  split at hb
  · rename_i e1
    simp only [Option.some.injEq] at hb
    obtain ⟨W', hr, hS'⟩ := hv W hS
    unfold Oper.wp
    rw [opd_eq hF1, hb]
    simp only [Sem.run_bind, Sem.run_pure, hr, Result.andThen_ok]
    show K ((⟨T', []⟩ : Act).put o.dst undef) W'
    rw [e1]
    exact hK _ _ (k hN _ W' hF' hS')
  · cases hb
end semu
/-- One cell is read. -/
theorem run_load1 {P : Program} {W : World} {b o : Nat} {t : TypeId} {d : TypeDesc} {v : Value} (hu : P.underlying t = some d) (hd : (match d with | .struct _ | .array _ _ => false | _ => true) = true) (hc : W.cell? ⟨b, o, none⟩ = some v) : (Instr.loadAt t (po b o)).run P W = .ok v W := by
  have e : (loadVar t ⟨b, o, none⟩).run P W = .ok v W := by
    unfold loadVar isAgg
    cases d <;> simp [run_underlying hu, hc] at hd ⊢
  simp only [Instr.loadAt, Instr.sureAddr, Sem.run_bind, Sem.run_pure, Result.andThen_ok, e]
/-- One cell is written. -/
theorem run_store1 {P : Program} {W : World} {b o : Nat} {t : TypeId} {u v : Value} (hv : v.cells = #[v]) (h1 : v.oneCell' = true) (hi : (P.info? t).map (·.size) = some 1) (hc : W.cell? ⟨b, o, none⟩ = some u) (hz : W.frozen? ⟨b, o, none⟩ = false) : (Instr.storeAt t (po b o) v).run P W = .ok () (W.setCell ⟨b, o, none⟩ v) := by
  have := run_storeCells_cells (P := P) b o [v] 0 W (fun j hj => by
    have : j = 0 := by simpa using hj
    subst this; simpa using by rw [hc]; rfl) (fun j hj => by
    have : j = 0 := by simpa using hj
    subst this; simpa using hz) (fun x hx => by rw [List.mem_singleton.1 hx]; exact h1)
  cases hq : P.info? t with
  | none => simp [hq] at hi
  | some i =>
    have hs : i.size = 1 := by simpa [hq] using hi
    simp only [Nat.add_zero, World.setCells] at this
    simp [Instr.storeAt, Instr.sureAddr, storeVar, sizeOf, typeInfo, hq, hv, hs, this]
/-- One's own slice of bytes: what is read of it. -/
theorem RestV.at {W : World} {b o n c : Nat} {bs : List Nat} (h : RestV W (.slice (some ⟨b, o, none⟩) n c) bs) (i : Nat) (hi : i < bs.length) : W.cell? ⟨b, o + i, none⟩ = some (.int .u8 ((nth bs i : Nat) : Int)) := by
  rcases h with ⟨h, -⟩ | ⟨g, off, cap, cur, h, hg, -, -, h3⟩
  · cases h
  · injection h with e1 e2 e3
    injection e1 with e1; injection e1 with e1 e4
    subst e1 e4
    rw [cell_of_row _ _ _ _ _ _ hg]; exact h3 i hi
/-- .. what is written to it. -/
theorem RestV.put {W : World} {b n c i x : Nat} {bs : List Nat} (h : RestV W (.slice (some ⟨b, 0, none⟩) n c) bs) (hi : i < bs.length) : RestV (W.setCell ⟨b, i, none⟩ (.int .u8 ((x : Nat) : Int))) (.slice (some ⟨b, 0, none⟩) n c) (bs.set i x) := by
  rcases h with ⟨h, -⟩ | ⟨g, off, cap, cur, h, hg, h1, h2, h3⟩
  · cases h
  · injection h with e1 e2 e3
    injection e1 with e1; injection e1 with e1 e4
    subst e1 e4 e2 e3
    refine Or.inr ⟨b, 0, c, _, by rw [List.length_set], heap_setCell_same W b i cur _ _ hg, by rw [List.length_set]; exact h1, by simpa using h2, fun j hj => ?_⟩
    rw [List.length_set] at hj
    rw [Nat.zero_add, Array.getElem?_setIfInBounds, nth_set _ _ _ _ hi]
    by_cases e : i = j
    · subst e
      rw [if_pos rfl, if_pos rfl, if_pos (by omega)]
    · rw [if_neg e, if_neg e]
      have := h3 j hj
      rwa [Nat.zero_add] at this
theorem restv_of {W : World} {v : Value} {bs : List Nat} (h : RestG 5 W v (bcells bs)) : RestV W v bs := by
  rcases h with ⟨h1, h2⟩ | ⟨g, off, cap, cur, h1, hg, h2, h3, h4⟩
  · exact Or.inl ⟨h1, by simpa [bcells] using h2⟩
  · rw [bcells_len] at h1 h2 h4
    exact Or.inr ⟨g, off, cap, cur, h1, hg, h2, h3, fun i hi => by rw [h4 i hi, bcells_get bs i hi]⟩
/-- A row of bytes is a piece. -/
theorem row_pcz {W : World} {g n c : Nat} {cs : Array Value} {bs : List Nat} (h : W.heap[g]? = some (.cells cs 5 (0, 0))) (hn : n = bs.length) (hc : cs.toList = bcells bs) : PieceV W W.heap.size (.slice (some ⟨g, 0, none⟩) n c) bs := by
  subst hn
  refine Or.inr ⟨g, 0, c, lt_of_block h, rfl, fun i hi => ?_⟩
  rw [cell_of_row _ _ _ _ _ _ h, Nat.zero_add, ← Array.getElem?_toList, hc, bcells_get _ _ hi]
theorem capof {A : Option Addr} {m c : Nat} (h : m ≤ c) : ∀ a n k, Value.slice A m c = .slice a n k → n ≤ k := fun _ _ _ e => by cases e; exact h
end Go.Proofs.Ytbaifchbpnmkpaa
namespace Go.Proofs.Ytbaifchbpnmkpaa
open Go.RowKit
/-- The first row, the first fact let go. -/
theorem Sx.tlX {w W : World} {L : List (Nat × Obj)} {q : Xt} {X : List Xt} (h : Sx w L (q :: X) W) : Sx w L X W :=
  ⟨h.below, h.rows, h.apart, fun r hr => h.ext r (List.mem_cons_of_mem _ hr), fun p hp r hr => h.sep p hp r (List.mem_cons_of_mem _ hr), fun r hr => h.bound r (List.mem_cons_of_mem _ hr), (List.pairwise_cons.1 h.excl).2⟩
/-- A fact turned into another one on its blocks. -/
theorem Sx.mapX {w W : World} {L : List (Nat × Obj)} {X : List Xt} (h : Sx w L X W) (i : Nat) {q : Xt} (q' : Xt) (hi : X[i]? = some q) (hex : q'.ex = q.ex) (hf : ∀ b, q'.foot b → q.foot b) (hh : q.holds W → q'.holds W) : Sx w L (X.set i q') W := by
  have hlen : i < X.length := (List.getElem?_eq_some_iff.1 hi).1
  have e2 : X[i] = q := (List.getElem?_eq_some_iff.1 hi).2
  have hqm : q ∈ X := List.mem_of_getElem? hi
  have hmem : ∀ r, r ∈ X.set i q' → r = q' ∨ r ∈ X := fun r hr => by
    obtain ⟨j, hj⟩ := List.getElem?_of_mem hr
    rw [List.getElem?_set] at hj
    by_cases hij : i = j
    · subst hij; rw [if_pos rfl, if_pos hlen] at hj; cases hj; exact Or.inl rfl
    · rw [if_neg hij] at hj; exact Or.inr (List.mem_of_getElem? hj)
  refine ⟨h.below, h.rows, h.apart, fun r hr => ?_, fun p hp r hr => ?_, fun r hr b hb => ?_, ?_⟩
  · rcases hmem r hr with rfl | hr
    · exact hh (h.ext q hqm)
    · exact h.ext r hr
  · rcases hmem r hr with rfl | hr
    · exact fun e => h.sep p hp q hqm (hf _ e)
    · exact h.sep p hp r hr
  · rcases hmem r hr with rfl | hr
    · exact h.bound q hqm b (hf b hb)
    · exact h.bound r hr b hb
  · rw [List.pairwise_iff_getElem]
    intro a b ha hb hab
    have hal : a < X.length := by simpa using ha
    have hbl : b < X.length := by simpa using hb
    have hp := List.pairwise_iff_getElem.1 h.excl a b hal hbl hab
    rw [List.getElem_set, List.getElem_set]
    by_cases e1 : i = a
    · subst e1
      rw [if_pos rfl, if_neg (by omega)]
      rw [e2] at hp
      exact fun hx c hc => hp (by rw [← hex]; exact hx) c (hf c hc)
    · rw [if_neg e1]
      by_cases e3 : i = b
      · subst e3
        rw [if_pos rfl]; rw [e2] at hp
        exact fun hx c hc hc' => hp (by rw [← hex]; exact hx) c hc (hf c hc')
      · rw [if_neg e3]; exact hp
section og
variable {E : TypeId} {W : World} {b o k cap : Nat} {cs : List Value} {v : Value}
theorem RestG.cut (h : RestG E W (.slice (some ⟨b, o, none⟩) (k + 1) cap) (cs ++ [v])) (hk : cs.length = k) : RestG E W (.slice (some ⟨b, o, none⟩) k cap) cs := by
  rcases h with ⟨h, -⟩ | ⟨g, off, cp, cur, h, hg, h1, h2, h3⟩
  · cases h
  · injection h with e1 e2 e3
    rw [List.length_append] at h1 h3
    refine Or.inr ⟨g, off, cp, cur, by rw [e1, e3, hk], hg, by simp at h1; omega, h2, fun i hi => ?_⟩
    rw [h3 i (by omega), List.getElem?_append_left hi]
end og
/-- The last one is taken off. -/
theorem Sx.cutog {w W : World} {L : List (Nat × Obj)} {X : List Xt} {E : TypeId} {b o k cap : Nat} {cs : List Value} {v : Value} (h : Sx w L X W) (i : Nat) (hi : X[i]? = some (xog E w (.slice (some ⟨b, o, none⟩) (k + 1) cap) (cs ++ [v]))) (hk : cs.length = k) : Sx w L (X.set i (xog E w (.slice (some ⟨b, o, none⟩) k cap) cs)) W :=
  h.mapX i _ hi rfl (fun _ hb => hb) (fun ⟨h1, h2⟩ => ⟨h1.cut hk, h2⟩)
section pl
variable {w W : World} {L : List (Nat × Obj)} {X : List Xt} {S S' : Nat → Prop} {vs : List Value} {pss : List (List Nat)} {v : Value} {x : List Nat}
theorem Sx.plS (h : Sx w L X W) (i : Nat) (hi : X[i]? = some (xpl S vs pss)) : (∀ b, S b → b < W.heap.size) ∧ ∀ (i : Nat) v ps, vs[i]? = some v → pss[i]? = some ps → PieceS W S v ps := h.x i hi
/-- One of them, as a piece of its own. -/
theorem Sx.plat (h : Sx w L X W) (i : Nat) (hi : X[i]? = some (xpl S vs pss)) (j : Nat) (hv : vs[j]? = some v) (hx : pss[j]? = some x) : Sx w L (xps S v x :: X) W :=
  h.dup i hi rfl _ rfl (fun _ h => h) ⟨(h.plS i hi).1, (h.plS i hi).2 j v x hv hx⟩
theorem Sx.cutpl (h : Sx w L X W) (i : Nat) (hi : X[i]? = some (xpl S (vs ++ [v]) (pss ++ [x]))) (hl : vs.length = pss.length) : Sx w L (X.set i (xpl S vs pss)) W :=
  h.mapX i _ hi rfl (fun _ hb => hb) (fun ⟨h1, h2⟩ => ⟨h1, fun j u ps hu hp => h2 j u ps (by rw [List.getElem?_append_left (List.getElem?_eq_some_iff.1 hu).1]; exact hu) (by rw [List.getElem?_append_left (List.getElem?_eq_some_iff.1 hp).1]; exact hp)⟩)
/-- A piece more. -/
theorem Sx.addpl (h : Sx w L (xps S' v x :: xpl S vs pss :: X) W) (hl : vs.length = pss.length) : Sx w L (xpl (fun b => S b ∨ S' b) (vs ++ [v]) (pss ++ [x]) :: X) W := by
  have h1 : (∀ b, S' b → b < W.heap.size) ∧ PieceS W S' v x := h.ext _ (List.mem_cons_self ..)
  have h2 : (∀ b, S b → b < W.heap.size) ∧ ∀ (i : Nat) v ps, vs[i]? = some v → pss[i]? = some ps → PieceS W S v ps := h.ext _ (List.mem_cons_of_mem _ (List.mem_cons_self ..))
  refine h.merge _ rfl (fun b hb => Or.symm hb) ⟨fun b hb => hb.elim (h2.1 b) (h1.1 b), fun i u ps hu hps => ?_⟩
  by_cases hi : i < vs.length
  · rw [List.getElem?_append_left hi] at hu
    rw [List.getElem?_append_left (by omega)] at hps
    exact (h2.2 i u ps hu hps).mono (fun _ hb => Or.inl hb)
  · rw [List.getElem?_append_right (by omega)] at hu
    rw [List.getElem?_append_right (by omega), ← hl] at hps
    have hz : i - vs.length = 0 := by
      have := (List.getElem?_eq_some_iff.1 hu).1; simp at this; omega
    rw [hz] at hu hps
    simp at hu hps
    subst hu hps
    exact h1.2.mono (fun _ hb => Or.inr hb)
/-- A made row as a piece. -/
theorem Sx.rowps {g n c : Nat} {cs : Array Value} {t : TypeId} {fr : Nat × Nat} {bs : List Nat} (h : Sx w ((g, .cells cs t fr) :: L) X W) (hc : cs.toList = bcells bs) (hn : n = bs.length) : Sx w L (xps (fun b => b = g) (.slice (some ⟨g, 0, none⟩) n c) bs :: X) W := by
  have hg : W.heap[g]? = some (.cells cs t fr) := h.rows _ (List.mem_cons_self ..)
  have h0 : Sx w L X W := ⟨h.below, fun p hp => h.rows p (List.mem_cons_of_mem _ hp), (List.pairwise_cons.1 h.apart).2, h.ext, fun p hp => h.sep p (List.mem_cons_of_mem _ hp), h.bound, h.excl⟩
  refine h0.addX _ ⟨fun b hb => by rw [show b = g from hb]; exact lt_of_block hg, ?_⟩ (fun p hp e => (List.pairwise_cons.1 h.apart).1 p hp (show p.1 = g from e).symm) (fun b hb => by rw [show b = g from hb]; exact lt_of_block hg) (fun r hr _ b hb hrb => h.sep _ (List.mem_cons_self ..) r hr (by rw [show b = g from hb] at hrb; exact hrb))
  subst hn
  refine Or.inr ⟨g, 0, c, rfl, rfl, fun i hi => ?_⟩
  rw [cell_of_row _ _ _ _ _ _ hg, Nat.zero_add, ← Array.getElem?_toList, hc, bcells_get _ _ hi]
/-- A slice of one's own as a piece. -/
theorem Sx.ownps {bs : List Nat} (h : Sx w L (xown w v bs :: X) W) : Sx w L (xps (fun b => v.ownBlock = some b) v bs :: X) W := by
  have h1 : RestV W v bs ∧ _ := h.ext _ (List.mem_cons_self ..)
  refine h.tlX.addX _ ⟨fun b hb => h1.1.lt b hb, ?_⟩ (fun p hp hf => h.sep p hp _ (List.mem_cons_self ..) hf) (fun b hb => h.bound _ (List.mem_cons_self ..) b hb) (fun r hr _ b hb => (List.pairwise_cons.1 h.excl).1 r hr (by rfl) b hb)
  rcases h1.1 with ⟨rfl, rfl⟩ | ⟨g, off, cap, cur, rfl, hg, a1, a2, a3⟩
  · exact Or.inl ⟨⟨_, _, rfl⟩, rfl⟩
  · exact Or.inr ⟨g, off, cap, rfl, rfl, fun j hj => (cell_of_row _ _ _ _ _ _ hg).trans (a3 j hj)⟩
theorem Sx.psv (h : Sx w L X W) (i : Nat) {bs : List Nat} (hi : X[i]? = some (xps S v bs)) : PieceV W W.heap.size v bs := h.ps i hi
end pl
/-- A slice cut at its end, whatever it holds; elements of one cell. -/
theorem cut_hg_run {P : Program} {T E : TypeId} (hT : P.underlying T = some (.slice E)) (hE : (sizeOf E).run P = fun W => .ok 1 W) {b o m c hi : Nat} (hc : 0 < c) (h1 : hi ≤ c) (W : World) : (Instr.sliceAt T (.slice (some ⟨b, o, none⟩) m c) none (some (.int .i64 (hi : Int))) none).run P W = .ok (.slice (some ⟨b, o, none⟩) hi c) W := by
  have hadd : (⟨b, o, none⟩ : Addr).add (0 * 1) = ⟨b, o, none⟩ := by unfold Addr.add; split <;> simp_all
  have e : sliced (some ⟨b, o, none⟩) 0 hi c 1 = .slice (some ⟨b, o, none⟩) hi c := by
    unfold sliced
    rw [if_neg (by omega)]
    simp only [Option.map_some, hadd, Nat.sub_zero]
  have he : P.elem T = E := by unfold Program.elem; rw [hT]
  have hT' : P.underlying T = some (.slice (P.elem T)) := by rw [he]; exact hT
  rw [run_sliceAt_slice _ _ _ _ _ _ hT', run_slice_h W T _ m c hT' .i64 (hi : Int) (Int.natCast_nonneg _) (by omega), he, congrFun hE]
  simp only [Result.andThen_ok, Int.toNat_natCast, e]
theorem size_of1 {P : Program} {E : TypeId} (h : (P.info? E).map (·.size) = some 1) : (sizeOf E).run P = fun W => .ok 1 W := by
  funext W
  cases hq : P.info? E with
  | none => simp [hq] at h
  | some i =>
    have hs : i.size = 1 := by simpa [hq] using h
    simp [sizeOf, typeInfo, hq, hs]
/-- An element's address. -/
theorem ixg_run {P : Program} {T E : TypeId} (hT : P.underlying T = some (.slice E)) (hE : (sizeOf E).run P = fun W => .ok 1 W) {b o c n i : Nat} (h : i < n) (W : World) : (Instr.indexAt T (.slice (some ⟨b, o, none⟩) n c) (.int .i64 ((i : Nat) : Int))).run P W = .ok (po b (o + i)) W := by
  have hadd : (⟨b, o, none⟩ : Addr).add (i * 1) = ⟨b, o + i, none⟩ := by unfold Addr.add; split <;> simp_all
  rw [Nat.mul_one] at hadd
  simp [Instr.indexAt, asIntOf, run_underlying hT, congrFun hE, h, hadd]
/-- A cell of one's own slice is written. -/
theorem RestG.put {E : TypeId} {W : World} {b o n c i : Nat} {cs : List Value} {v : Value} (h : RestG E W (.slice (some ⟨b, o, none⟩) n c) cs) (hi : i < cs.length) : RestG E (W.setCell ⟨b, o + i, none⟩ v) (.slice (some ⟨b, o, none⟩) n c) (cs.set i v) := by
  rcases h with ⟨h, -⟩ | ⟨g, off, cap, cur, h, hg, h1, h2, h3⟩
  · cases h
  · injection h with e1 e2 e3
    injection e1 with e1; injection e1 with e1 e4
    subst e1 e4 e2 e3
    refine Or.inr ⟨b, o, c, _, by rw [List.length_set], heap_setCell_same W b (o + i) cur _ _ hg, by rw [List.length_set]; exact h1, by simpa using h2, fun j hj => ?_⟩
    rw [List.length_set] at hj
    rw [Array.getElem?_setIfInBounds, List.getElem?_set]
    by_cases e : i = j
    · subst e
      rw [if_pos rfl, if_pos rfl, if_pos (by omega), if_pos hi]
    · rw [if_neg (by omega), if_neg e]
      exact h3 j hj
theorem Sx.putog {P : Program} {w W : World} {L : List (Nat × Obj)} {X : List Xt} {E t : TypeId} (S : Sx w L X W) (j : Nat) {b o n c i : Nat} {cs : List Value} {v : Value} (hj : X[j]? = some (xog E w (.slice (some ⟨b, o, none⟩) n c) cs)) (hi : i < cs.length) (hv : v.cells = #[v]) (h1 : v.oneCell' = true) (hs : (P.info? t).map (·.size) = some 1) : ∃ W', (Instr.storeAt t (po b (o + i)) v).run P W = .ok () W' ∧ Sx w L (X.set j (xog E w (.slice (some ⟨b, o, none⟩) n c) (cs.set i v))) W' := by
  have ho : RestG E W (.slice (some ⟨b, o, none⟩) n c) cs ∧ ∀ b', (Value.slice (some ⟨b, o, none⟩) n c).ownBlock = some b' → w.heap.size ≤ b' := S.x j hj
  obtain ⟨u, hu⟩ : ∃ u, cs[i]? = some u := ⟨_, List.getElem?_eq_getElem hi⟩
  have hat := ho.1.at i (o + i) u hu rfl
  have hlt : b < W.heap.size := ho.1.lt b rfl
  have hz : W.frozen? ⟨b, o + i, none⟩ = false := by
    rcases ho.1 with ⟨h, -⟩ | ⟨g, off, cap, cur, h, hg, -⟩
    · cases h
    · injection h with e1; injection e1 with e1; injection e1 with e1 e4
      subst e1
      exact frozen_of_row W b (o + i) _ _ hg
  refine ⟨_, run_store1 hv h1 hs hat hz, ?_⟩
  have hb := Below.setCell (Below.refl 0 W) (p := ⟨b, o + i, none⟩) (Nat.zero_le _) v
  refine S.writeX j hj rfl rfl ⟨ho.1.put hi, ho.2⟩ (fun b' hb' => Or.inl hb') (fun b' hb' => ?_) ho.2 rfl rfl rfl hb.size (fun b' _ hn => heap_setCell_other W ⟨b, o + i, none⟩ b' _ (fun e => hn (by subst e; rfl)))
  have : b' = b := by
    have := hb'
    simp [xog, Value.ownBlock] at this; exact this.symm
  subst this
  exact Nat.lt_of_lt_of_le hlt hb.size
section callf
variable {P : Program} {f : Func} {r i N : Nat} {Q : Exit → Act → World → Prop} {F : List (Nat × Value)} {w : World} {L : List (Nat × Obj)} {X : List Xt}
/-- The function value that an operation calls, and with what. -/
def fvB (P : Program) (T : Array Value) (F : List (Nat × Value)) (o : Oper) : Option (Nat × FuncId × Array Value × Bool) := match o.dst, o.op with
  | some d, .call c => match c.callee with
    | .value x => match opd F T x with
      | .func (.func g) first captured => if first.size = 0 ∧ captured.size = 0 then some (d, g, c.args.map (opd F T), callableF P g) else none
      | _ => none
    | _ => none
  | _, _ => none
/-- A call of a function value. -/
theorem At.callF (n : Nat) (hs : List Nat) (d : Nat) {fid : FuncId} {vs : Array Value} {v : Value} (h : ∀ W, Sx w L X W → Calls P fid vs W (fun e w' => e = .returned v ∧ Below W.heap.size W w')) (k : At P f r (i + n + 1) Q N ((d, v) :: F) w L X)
    (hk : ∀ T T', opL P f r i n L F hs T (fvB P T') = opR P f r i n L F hs T (d, fid, vs, true) := by intro T T'; kernel_rfl) : At P f r i Q N F w L X := by
  intro hN T W hF hS
  refine op_run hN hF hS hk (fun T' F1 o hF' hF1 hb hw hdN => ?_)
  refine wpSeq_step fun K hK => ?_
  rw [if_pos hw]
  unfold fvB at hb
  split at hb
  · rename_i d' c e1 e2
    obtain ⟨callee, args, argTypes⟩ := c
    simp only at hb
    split at hb
    · rename_i x
      split at hb
      · rename_i g first captured e3
        split at hb
        · rename_i hz
          simp only [Option.some.injEq, Prod.mk.injEq] at hb
          obtain ⟨rfl, rfl, rfl, hc⟩ := hb
          obtain rfl : first = #[] := Array.eq_empty_of_size_eq_zero hz.1
          obtain rfl : captured = #[] := Array.eq_empty_of_size_eq_zero hz.2
          unfold callableF at hc
          split at hc
          · rename_i fn hfn
            simp only [callable, Bool.and_eq_true, Bool.not_eq_true', Option.isSome_iff_exists] at hc
            obtain ⟨h1, cb, h2⟩ := hc
            have h1' : ¬ fn.name = "runtime.NumGoroutine" := by simpa using h1
            unfold Oper.wp
            rw [opd_eq hF1]
            unfold execOp
            have e : (do let d ← resolve (opd F1 T') { callee := .value x, args := args, argTypes := argTypes } o.type; invoke d.target d.args : Sem Next).run P W = .ok (.enter g (args.map (opd F1 T'))) W := by
              simp [resolve, e3, Deferred.ofValue, invoke, callFunc, hfn, h1', h2]
            simp only [e2]
            rw [e]
            refine (h W hS).mono ?_
            rintro en w' ⟨rfl, hbl⟩
            show K ((⟨T', []⟩ : Act).put o.dst v) w'
            rw [e1]
            exact hK _ _ (k hN _ w' (hF'.put _ v (hdN _ e1)) (hS.keep hbl))
          · cases hc
        · cases hb
      · cases hb
    · cases hb
  · cases hb
end callf
/-- A function without results falls off its end. -/
theorem end_of {P : Program} {N : Nat} {F : List (Nat × Value)} {w : World} {L : List (Nat × Obj)} {X : List Xt} {fn : Func} {R : Ending → World → Prop} (v : Value) (h : ∀ W, Sx w L X W → R (.returned v) W)
    (hk : (resAll P F L [] fn.results.toList).map (fun q => (oneOf q.1, q.2.1)) = (resAll P F L [] fn.results.toList).map (fun q => (v, q.2.2)) := by kernel_rfl) (hs1 : (resAll P F L [] fn.results.toList).isSome = true := by kernel_rfl) : ∀ T W, Fq N T F → Sx w L X W → bodyPost P fn R .normal ⟨T, []⟩ W := by
  intro T W hF hS
  cases e : resAll P F L [] fn.results.toList with
  | none => rw [e] at hs1; cases hs1
  | some q =>
    obtain ⟨vs, l, g⟩ := q
    rw [e] at hk
    simp only [Option.map_some, Option.some.injEq, Prod.mk.injEq] at hk
    obtain ⟨h1, h2⟩ := hk
    exact ⟨rfl, _, results_run hF hS e h2, h1 ▸ h W hS⟩
/-- A loop's next round, out of a block. -/
theorem again_o {N : Nat} {F : List (Nat × Value)} {w : World} {L : List (Nat × Obj)} {X : List Xt} {ι : Type} {m : ι → Nat} {Fi : ι → List (Nat × Value)} {Li : ι → List (Nat × Obj)} {Xi : ι → List Xt} {i : ι} (j : ι) (hlt : m j < m i) (hS : ∀ W, Sx w L X W → Sx w (Li j) (Xi j) W) (hk : (Fi j).map (fun p => look F p.1) = (Fi j).map (fun p => some p.2) := by kernel_rfl) : ∀ T W, Fq N T F → Sx w L X W → again m Fi w Li Xi N i ⟨T, []⟩ W :=
  fun T W hF h => ⟨j, hlt, T, rfl, hF.sub hk, hS W h⟩
/-- A row, a fact put ahead. -/
theorem Sx.perm {w W : World} {L L' : List (Nat × Obj)} {X X' : List Xt} (h : Sx w L X W) (hL : L'.Perm L) (hX : X'.Perm X) : Sx w L' X' W :=
  ⟨h.below, fun p hp => h.rows p (hL.mem_iff.1 hp), (hL.pairwise_iff (fun h => Ne.symm h)).2 h.apart, fun q hq => h.ext q (hX.mem_iff.1 hq), fun p hp q hq => h.sep p (hL.mem_iff.1 hp) q (hX.mem_iff.1 hq), fun q hq => h.bound q (hX.mem_iff.1 hq), (hX.pairwise_iff (fun {p q} h hx b hb hb' => h (by rw [Bool.or_comm]; exact hx) b hb' hb)).2 h.excl⟩
theorem perm_front {α : Type} : ∀ {l : List α} {i : Nat} {x : α}, l[i]? = some x → (x :: l.eraseIdx i).Perm l
  | a :: l, 0, x, h => by
    have : a = x := by simpa using h
    subst this; exact List.Perm.refl _
  | a :: l, i + 1, x, h => (List.Perm.swap a x (l.eraseIdx i)).trans (List.Perm.cons a (perm_front (l := l) (i := i) (by simpa using h)))
theorem Sx.fL {w W : World} {L : List (Nat × Obj)} {X : List Xt} (h : Sx w L X W) (i : Nat) {p : Nat × Obj} (hi : L[i]? = some p) : Sx w (p :: L.eraseIdx i) X W := h.perm (perm_front hi) (List.Perm.refl _)
theorem Sx.fX {w W : World} {L : List (Nat × Obj)} {X : List Xt} (h : Sx w L X W) (j : Nat) {q : Xt} (hj : X[j]? = some q) : Sx w L (q :: X.eraseIdx j) W := h.perm (List.Perm.refl _) (perm_front hj)
theorem Sx.dL {w W : World} {L : List (Nat × Obj)} {X : List Xt} (h : Sx w L X W) (i : Nat) {p : Nat × Obj} (hi : L[i]? = some p) : Sx w (L.eraseIdx i) X W := (h.fL i hi).tl
theorem Sx.dX {w W : World} {L : List (Nat × Obj)} {X : List Xt} (h : Sx w L X W) (j : Nat) {q : Xt} (hj : X[j]? = some q) : Sx w L (X.eraseIdx j) W := (h.fX j hj).tlX
/-- A slice whose length is within its room. -/
def CapOk (v : Value) : Prop := ∀ a n c, v = .slice a n c → n ≤ c
end Go.Proofs.Ytbaifchbpnmkpaa
namespace Go.Proofs.Ytbaifchbpnmkpaa
open Go.RowKit
theorem PadR.nil' {w W : World} {bs : List Nat} (h : Below w.heap.size w W) (he : bs = []) : PadR w (.slice none 0 0) bs W := ⟨h, Or.inl ⟨rfl, he⟩, fun b hb => by cases hb⟩
theorem Sx.ofpc {w : World} {v : Value} {bs : List Nat} (h : PieceV w w.heap.size v bs) : Sx w [] [xpc w.heap.size v bs] w := (Sx.nil w).addX _ ⟨Nat.le_refl _, h⟩ (fun _ h => by cases h) (fun _ h => h) (fun _ h => by cases h)
set_option maxRecDepth 100000 in
set_option maxHeartbeats 4000000 in
theorem clone_c (v : Value) (bs : List Nat) (w : World) (hp : PieceV w w.heap.size v bs) (hlen : bs.length ≤ 1000000000) :
    Calls Try.prog 20 #[v] w fun e w' => ∃ v', e = .returned v' ∧ PadR w v' bs w' := by
  obtain ⟨a, c, rfl⟩ := hp.shape
  have S0 := Sx.ofpc hp
  cases a with
  | none =>
    have he : bs = [] := by rcases hp with h | ⟨b, o, c', _, h, _⟩; exact h.2; injection h with h; cases h
    have HE := Lib.hid he
    clear he
    clear hp
    have sk : Try.f20.body = some (.seq (rgn Try.f20 0) (.seq (.seq (rgn Try.f20 1) (.cond (.tmp 4) (.seq (rgn Try.f20 2) .ret) .skip)) (.seq (rgn Try.f20 3) .ret))) := by kernel_rfl
    refine enter 8 [(0, .slice none (bs.length) (c))] Try.func20 sk (by rfl) rfl S0 (fun T W hF hS => ?_)
    clear sk S0
    refine wp_seq ?_
    conv => arg 2; whnf
    refine wp_region_lit ?_
    refine so_p hF (.slice none 0 0) (fun K hK => wp_assign rfl rfl hK) ?_; clear hF T; intro T hF
    refine wpList_nil ?_
    refine then_normal ?_
    refine wp_seq ?_
    refine wp_seq ?_
    conv => arg 2; whnf
    refine wp_region_lit ?_
    refine so_mv hF 1 ?_; clear hF T; intro T hF
    refine so_pure hF rfl (wanted_none rfl _) (by decide) rfl (.bool true) (fun K hK => ?_) ?_
    next =>
     have f3 := hF.ev 0 rfl
     have hn : (Op.equalIn 10000 22 (.slice none bs.length c) (.slice none 0 0)).run Try.prog W = .ok true W := Lib.run_equalIn_slice_nil W 9999 _ _ _ _ _ _ _ Try.underlying22
     go_simp
     exact hK.out
    clear hF
    clear T
    intro T hF
    refine wpList_nil ?_
    refine then_normal ?_
    refine wp_cond_true (hF.op 0 rfl) ?_
    refine wp_seq ?_
    conv => arg 2; whnf
    refine wp_region_lit ?_
    replace hF : Fr 8 ⟨T, []⟩ [] := hF.pick []
    refine so_p hF (.slice none 0 0) (fun K hK => wp_assign rfl rfl hK) ?_; clear hF T; intro T hF
    refine wpList_nil ?_
    refine then_normal ?_
    refine wp_ret ?_
    refine then_ret ?_
    refine bodyPost_ret (v := .slice none 0 0) (results_t1 Try.results20 (hF.ev 0 rfl)) rfl ?_
    exact ⟨_, rfl, PadR.nil' hS.below HE.out⟩
  | some a =>
    clear hp
    have sk : Try.f20.body = some (.seq (rgn Try.f20 0) (.seq (.seq (rgn Try.f20 1) (.cond (.tmp 4) (.seq (rgn Try.f20 2) .ret) .skip)) (.seq (rgn Try.f20 3) .ret))) := by kernel_rfl
    refine enter 8 [(0, .slice (some a) (bs.length) (c))] Try.func20 sk (by rfl) rfl S0 (fun T W hF hS => ?_)
    clear sk S0
    refine wp_seq ?_
    conv => arg 2; whnf
    refine wp_region_lit ?_
    refine so_p hF (.slice none 0 0) (fun K hK => wp_assign rfl rfl hK) ?_; clear hF T; intro T hF
    refine wpList_nil ?_
    refine then_normal ?_
    refine wp_seq ?_
    refine wp_seq ?_
    conv => arg 2; whnf
    refine wp_region_lit ?_
    refine so_mv hF 1 ?_; clear hF T; intro T hF
    refine so_pure hF rfl (wanted_none rfl _) (by decide) rfl (.bool false) (fun K hK => ?_) ?_
    next =>
     have f3 := hF.ev 0 rfl
     have hn : (Op.equalIn 10000 22 (.slice (some a) bs.length c) (.slice none 0 0)).run Try.prog W = .ok false W := Lib.run_equalIn_slice_nil W 9999 _ _ _ _ _ _ _ Try.underlying22
     go_simp
     exact hK.out
    clear hF
    clear T
    intro T hF
    refine wpList_nil ?_
    refine then_normal ?_
    refine wp_cond_false (hF.op 0 rfl) ?_
    refine wp_skip ?_
    refine then_normal ?_
    refine wp_seq ?_
    conv => arg 2; whnf
    refine wp_region_lit ?_
    refine so_step hF rfl (wanted_none rfl _) (by decide) rfl (fun v W' => ∃ g, (.slice (some ⟨g, 0, none⟩) 0 0 : Value) = v ∧ Sx w [] [xown w (.slice (some ⟨g, 0, none⟩) 0 0) [], xpc w.heap.size (.slice (some a) (bs.length) (c)) bs] W') (fun K hK => ?_) ?_
    next =>
     go_simp
     exact hK.out _ _ ⟨_, rfl, hS.empty⟩
    clear hS
    clear hF
    clear T
    rintro v T W1 ⟨g5, rfl, hS⟩ hF
    try clear W
    obtain ⟨W, rfl⟩ : ∃ x, x = W1 := ⟨_, rfl⟩
    refine so_mv hF 4 ?_; clear hF T; intro T hF
    refine so_step hF rfl (wanted_none rfl _) (by decide) rfl (fun v W' => ∃ aq cq, .slice aq (bs.length) cq = v ∧ Sx w [] (List.set [xown w (.slice (some ⟨g5, 0, none⟩) 0 0) [], xpc w.heap.size (.slice (some a) (bs.length) (c)) bs] 0 (xown w v ([] ++ bs))) W') (fun K hK => ?_) ?_
    next =>
     refine wp_app hS 0 (.tmp 5) (.tmp 6) rfl (hF.op 1 rfl) (hF.op 0 rfl) rfl (PieceV.src (hS.pc 1 rfl)) (by first | omega | (simp; omega)) (fun v' W' hS' => ?_)
     obtain ⟨a, c, e⟩ := (hS'.own 0 rfl).shape
     exact hK.out _ _ ⟨a, c, by rw [e]; simp, hS'⟩
    clear hF hS
    clear T
    rintro v T W1 ⟨a7, c7, rfl, hS⟩ hF
    try clear W
    obtain ⟨W, rfl⟩ : ∃ x, x = W1 := ⟨_, rfl⟩
    replace hS : Sx w [] [xown w (.slice a7 (bs.length) c7) ([] ++ bs), xpc w.heap.size (.slice (some a) (bs.length) (c)) bs] W := hS
    replace hF : Fr 8 ⟨T, []⟩ [(7, .slice a7 (bs.length) (c7))] := hF.pick [0]
    refine so_as hF 0 ?_; clear hF T; intro T hF
    refine wpList_nil ?_
    refine then_normal ?_
    refine wp_ret ?_
    refine bodyPost_ret (v := .slice a7 (bs.length) (c7)) (results_t1 Try.results20 (hF.ev 0 rfl)) rfl ?_
    exact ⟨_, rfl, hS.padr 0 rfl⟩
end Go.Proofs.Ytbaifchbpnmkpaa
namespace Go.Proofs.Ytbaifchbpnmkpaa
open Go.RowKit
/-- The number of digits to the base 65536, the lowest first. -/
def val : List Nat → Nat
  | [] => 0
  | d :: ds => d + 65536 * val ds
/-- Each digit is one. -/
def Digs (ds : List Nat) : Prop := ∀ d, d ∈ ds → d < 65536
theorem val_append (a b : List Nat) : val (a ++ b) = val a + 65536 ^ a.length * val b := by
  induction a with
  | nil => simp [val]
  | cons d a ih =>
    simp only [List.cons_append, val, ih, List.length_cons, Nat.pow_succ]
    have e : 65536 ^ a.length * 65536 * val b = 65536 * (65536 ^ a.length * val b) := by rw [Nat.mul_comm (65536 ^ a.length), Nat.mul_assoc]
    rw [e]; omega
theorem val_snoc (a : List Nat) (d : Nat) : val (a ++ [d]) = val a + 65536 ^ a.length * d := by simp [val_append, val]
theorem val_lt (a : List Nat) (h : Digs a) : val a < 65536 ^ a.length := by
  induction a with
  | nil => simp [val]
  | cons d a ih =>
    have h1 := h d (by simp)
    have h2 := ih (fun x hx => h x (by simp [hx]))
    simp only [val, List.length_cons, Nat.pow_succ]; omega
/-- A digit; 0 behind the last one. (Closed to simp.) -/
def dg (ds : List Nat) (i : Nat) : Nat := ds.getD i 0
theorem dg_end (ds : List Nat) (i : Nat) (h : ds.length ≤ i) : dg ds i = 0 := by
  unfold dg; rw [List.getD_eq_getElem?_getD, List.getElem?_eq_none h]; rfl
theorem digs_at (a : List Nat) (h : Digs a) (i : Nat) : dg a i < 65536 := by
  unfold dg; rw [List.getD_eq_getElem?_getD]
  cases hi : a[i]? with
  | none => simp
  | some d => exact h d (List.mem_of_getElem? hi)
/-- The cells of block b from o on read as these digits. -/
structure Dg (W : World) (b o : Nat) (ds : List Nat) : Prop where
  lt : b < W.heap.size
  cell : ∀ i, i < ds.length → W.cell? ⟨b, o + i, none⟩ = some (.int .u64 ((dg ds i : Nat) : Int))
theorem Dg.keep {W W' : World} {b o : Nat} {ds : List Nat} (h : Dg W b o ds) (hb : Below W.heap.size W W') : Dg W' b o ds :=
  ⟨Nat.lt_of_lt_of_le h.lt hb.size, fun i hi => (hb.cell (p := ⟨b, o + i, none⟩) h.lt).trans (h.cell i hi)⟩
/-- The value of a slice. -/
@[reducible] def sv (b o n c : Nat) : Value := .slice (some ⟨b, o, none⟩) n c
/-- The number of the lowest n digits. -/
def valN (ds : List Nat) : Nat → Nat
  | 0 => 0
  | n + 1 => valN ds n + dg ds n * 65536 ^ n
theorem valN_nil (n : Nat) : valN [] n = 0 := by
  induction n with
  | zero => rfl
  | succ n ih => rw [valN, ih, dg_end [] n (by simp)]; simp
theorem valN_cons (d : Nat) (ds : List Nat) (n : Nat) : valN (d :: ds) (n + 1) = d + 65536 * valN ds n := by
  induction n with
  | zero => simp [valN, dg]
  | succ n ih =>
    rw [valN, ih, valN]
    have e : dg (d :: ds) (n + 1) = dg ds n := by simp [dg]
    rw [e, Nat.mul_add, Nat.pow_succ, Nat.mul_comm (65536 ^ n) 65536, Nat.mul_left_comm (dg ds n), Nat.add_assoc]
theorem valN_eq (ds : List Nat) : ∀ n, ds.length ≤ n → valN ds n = val ds := by
  induction ds with
  | nil => intro n _; rw [valN_nil]; rfl
  | cons d ds ih =>
    intro n hn
    obtain ⟨m, rfl⟩ : ∃ m, n = m + 1 := ⟨n - 1, by simp at hn; omega⟩
    rw [valN_cons, ih m (by simp at hn; omega)]; rfl
end Go.Proofs.Ytbaifchbpnmkpaa
namespace Go.Proofs.Ytbaifchbpnmkpaa
open Go.RowKit
/-- Limb j, when c of its four digits are in. -/
def hc (ds : List Nat) (j : Nat) : Nat → Nat
  | 0 => 0
  | c + 1 => 65536 * hc ds j c + dg ds (4 * j + 3 - c)
/-- How many digits of limb j are in, when all from k on are. -/
def inn (j k : Nat) : Nat := min 4 (4 * j + 4 - k)
/-- The four limbs, when all digits from k on are in. -/
@[reducible] def hrow (ds : List Nat) (k : Nat) : Array Value := #[.int .u64 (hc ds 0 (inn 0 k) : Nat), .int .u64 (hc ds 1 (inn 1 k) : Nat), .int .u64 (hc ds 2 (inn 2 k) : Nat), .int .u64 (hc ds 3 (inn 3 k) : Nat)]
theorem hc_zero (ds : List Nat) (j k : Nat) (h : ds.length ≤ k) : hc ds j (inn j k) = 0 := by
  have : ∀ c, ds.length ≤ 4 * j + 4 - c → hc ds j c = 0 := by
    intro c
    induction c with
    | zero => intro _; rfl
    | succ c ih => intro hl; rw [hc, ih (by omega), dg_end ds _ (by omega)]
  by_cases h4 : 4 * j + 4 ≤ k
  · have : inn j k = 0 := by unfold inn; omega
    rw [this]; rfl
  · by_cases h0 : k ≤ 4 * j
    · apply this; unfold inn; omega
    · apply this; unfold inn; omega
/-- A digit goes in. -/
theorem hc_step (ds : List Nat) (i : Nat) : hc ds (i / 4) (inn (i / 4) i) = 65536 * hc ds (i / 4) (inn (i / 4) (i + 1)) + dg ds i := by
  have e : inn (i / 4) i = inn (i / 4) (i + 1) + 1 := by unfold inn; omega
  rw [e, hc]
  congr 2
  unfold inn; omega
theorem inn_other (i j : Nat) (h : j ≠ i / 4) : inn j i = inn j (i + 1) := by unfold inn; omega
/-- What the loop of Wide holds in memory. -/
structure DwRows (w : World) (ds : List Nat) (k : Nat) (wr : World) : Prop where
  res : wr.heap[w.heap.size]? = some (.cells (limbs4 0) 73 (0, 0))
  out : wr.heap[w.heap.size + 1]? = some (.cells (hrow ds k) 73 (0, 0))
  below : Below w.heap.size w wr
  size : w.heap.size + 2 ≤ wr.heap.size
theorem DwRows.step {w wr : World} {ds : List Nat} {k : Nat} (h : DwRows w ds (k + 1) wr) (j : Nat) (hj : k / 4 = j) (hj4 : j < 4) :
    DwRows w ds k (wr.setCell ⟨w.heap.size + 1, j, none⟩ (.int .u64 ((65536 * hc ds j (inn j (k + 1)) + dg ds k : Nat) : Int))).drew := by
  subst hj
  have hs := h.size
  refine ⟨(heap_setCell_other _ _ _ _ (by show _ ≠ _; simp only []; omega)).trans h.res, ?_, (h.below.setCell (by simp) _).drew, by simpa using hs⟩
  have e : (hrow ds (k + 1)).setIfInBounds (k / 4) (.int .u64 ((65536 * hc ds (k / 4) (inn (k / 4) (k + 1)) + dg ds k : Nat) : Int)) = hrow ds k := by
    rw [← hc_step]
    have h0 := inn_other k 0; have h1 := inn_other k 1; have h2 := inn_other k 2; have h3 := inn_other k 3
    have hq : k / 4 = 0 ∨ k / 4 = 1 ∨ k / 4 = 2 ∨ k / 4 = 3 := by omega
    simp only [hrow]
    rcases hq with hq | hq | hq | hq 
    · rw [hq]; rw [h1 (by omega), h2 (by omega), h3 (by omega)]; rfl
    · rw [hq]; rw [h0 (by omega), h2 (by omega), h3 (by omega)]; rfl
    · rw [hq]; rw [h0 (by omega), h1 (by omega), h3 (by omega)]; rfl
    · rw [hq]; rw [h0 (by omega), h1 (by omega), h2 (by omega)]; rfl
  rw [← e]
  exact heap_setCell_same _ _ _ _ _ _ h.out
theorem DwRows.skip {w wr : World} {ds : List Nat} {k : Nat} (h : DwRows w ds (k + 1) wr) (hl : ds.length ≤ k) : DwRows w ds k wr := by
  refine ⟨h.res, ?_, h.below, h.size⟩
  have e : hrow ds (k + 1) = hrow ds k := by
    simp only [hrow, hc_zero ds _ (k + 1) (by omega), hc_zero ds _ k hl]
  rw [← e]; exact h.out
end Go.Proofs.Ytbaifchbpnmkpaa
namespace Go.Proofs.Ytbaifchbpnmkpaa
open Go.RowKit
/-- The digits as cells. -/
def dcells (ds : List Nat) : List Value := ds.map fun d => .int .u64 ((d : Nat) : Int)
/-- A slice that the call owns, from block B on: these digits. -/
structure OwnD (W : World) (B g n c : Nat) (ds : List Nat) : Prop where
  own : W.ownsRow B 71 1 (sv g 0 n c) n (dcells ds)
  len : ds.length = n
theorem OwnD.base {W : World} {B g n c : Nat} {ds : List Nat} (h : OwnD W B g n c ds) : B ≤ g ∧ g < W.heap.size := h.own.lt g rfl
theorem OwnD.dg {W : World} {B g n c : Nat} {ds : List Nat} (h : OwnD W B g n c ds) : Dg W g 0 ds := by
  refine ⟨h.base.2, fun i hi => ?_⟩
  have e := h.own.cells (g := g) rfl i (.int .u64 ((Go.Proofs.Ytbaifchbpnmkpaa.dg ds i : Nat) : Int)) (by
    simp only [dcells, List.getElem?_map, Go.Proofs.Ytbaifchbpnmkpaa.dg, List.getD_eq_getElem?_getD, List.getElem?_eq_getElem hi]; rfl)
  have hadd : (⟨g, 0, none⟩ : Addr).add i = ⟨g, 0 + i, none⟩ := by unfold Addr.add; split <;> simp_all
  rw [hadd] at e; exact e
theorem OwnD.keep {W W' : World} {B g n c : Nat} {ds : List Nat} (h : OwnD W B g n c ds) (hb : Below W.heap.size W W') : OwnD W' B g n c ds := by
  refine ⟨h.own.kept (row := none) ⟨hb.os, hb.tape, hb.output, hb.size, fun k hk _ => hb.block k hk⟩ (.inr (by simp [Value.ownBlock])), h.len⟩
theorem OwnD.start (W : World) (B : Nat) (hB : B ≤ W.heap.size) : OwnD (W.alloc (.cells #[] 71)) B W.heap.size 0 0 [] :=
  ⟨World.ownsRow_made W #[] 0 hB (by decide) rfl, rfl⟩
theorem OwnD.start' (W : World) (B : Nat) (hB : B ≤ W.heap.size) (n : Nat) (hn : W.heap.size = n) : OwnD (W.alloc (.cells #[] 71)) B n 0 0 [] := by
  subst hn; exact OwnD.start W B hB
end Go.Proofs.Ytbaifchbpnmkpaa
namespace Go.Proofs.Ytbaifchbpnmkpaa
open Go.RowKit
/-- What a call says that answers digits in a slice of its own. -/
def RetD (w : World) (Q : List Nat → Prop) (e : Ending) (w' : World) : Prop := ∃ g c ds, Q ds ∧ e = .returned (sv g 0 ds.length c) ∧ OwnD w' w.heap.size g ds.length c ds ∧ Below w.heap.size w w'
end Go.Proofs.Ytbaifchbpnmkpaa
namespace Go.Proofs.Ytbaifchbpnmkpaa
open Go.RowKit
theorem Digs.snoc {ds : List Nat} (h : Digs ds) (d : Nat) (hd : d < 65536) : Digs (ds ++ [d]) := by
  intro x hx
  rcases List.mem_append.1 hx with hx | hx
  · exact h x hx
  · simp at hx; subst hx; exact hd
/-- What Add's loop holds before round k. -/
structure AddInv (w : World) (da db : List Nat) (n k cy g c : Nat) (ds : List Nat) (wr : World) : Prop where
  own : OwnD wr w.heap.size g k c ds
  below : Below w.heap.size w wr
  carry : cy ≤ 1
  kn : k ≤ n + 1
  top : k = n + 1 → cy = 0
  sum : val ds + 65536 ^ k * cy = valN da k + valN db k
  digs : Digs ds
theorem AddInv.start (w : World) (da db : List Nat) (n : Nat) : AddInv w da db n 0 0 w.heap.size 0 [] (w.alloc (.cells #[] 71)) :=
  ⟨OwnD.start' w _ (Nat.le_refl _) _ rfl, (Below.refl _ _).alloc (Nat.le_refl _) _, by omega, by omega, fun _ => rfl, by simp [val, valN], fun d hd => by cases hd⟩
theorem AddInv.step {w : World} {da db : List Nat} {n k cy g c : Nat} {ds : List Nat} {wr : World} (h : AddInv w da db n k cy g c ds wr) (ha : Digs da) (hb : Digs db) (hla : da.length ≤ n) (hlb : db.length ≤ n)
    (hgo : k ≤ n) {g' c' d q : Nat} {w' : World} (hd : d = (cy + dg da k + dg db k) % 65536) (hq : q = (cy + dg da k + dg db k) / 65536)
    (ho : OwnD w' w.heap.size g' (k + 1) c' (ds ++ [d])) (hbl : Below w.heap.size wr w') : AddInv w da db n (k + 1) q g' c' (ds ++ [d]) w' := by
  have h1 := digs_at da ha k; have h2 := digs_at db hb k; have h3 := h.carry
  refine ⟨ho, h.below.trans hbl, by omega, by omega, fun e => ?_, ?_, h.digs.snoc d (by omega)⟩
  · have := dg_end da k (by omega); have := dg_end db k (by omega); omega
  · have hs := h.sum
    rw [val_snoc, h.own.len, valN, valN, Nat.pow_succ]
    have e : cy + dg da k + dg db k = d + 65536 * q := by omega
    have e2 : 65536 ^ k * (cy + dg da k + dg db k) = 65536 ^ k * (d + 65536 * q) := by rw [e]
    rw [Nat.mul_add, Nat.mul_add, Nat.mul_add, ← Nat.mul_assoc] at e2
    rw [Nat.mul_comm (dg da k), Nat.mul_comm (dg db k)]
    omega
theorem AddInv.done {w : World} {da db : List Nat} {n k g c : Nat} {ds : List Nat} {wr : World} (h : AddInv w da db n k 0 g c ds wr) (hla : da.length ≤ k) (hlb : db.length ≤ k) :
    RetD w (fun ds => val ds = val da + val db ∧ Digs ds ∧ ds.length ≤ n + 1) (.returned (sv g 0 k c)) wr := by
  have hs := h.sum
  rw [valN_eq da k hla, valN_eq db k hlb] at hs
  have := h.kn
  obtain rfl := h.own.len
  exact ⟨g, c, ds, ⟨by omega, h.digs, by omega⟩, rfl, h.own, h.below⟩
end Go.Proofs.Ytbaifchbpnmkpaa
namespace Go.Proofs.Ytbaifchbpnmkpaa
open Go.RowKit
theorem dg_drop (ds : List Nat) (n i : Nat) : dg (ds.drop n) i = dg ds (n + i) := by
  unfold dg; rw [List.getD_eq_getElem?_getD, List.getElem?_drop, List.getD_eq_getElem?_getD]
theorem valN_drop (ds : List Nat) : ∀ n, val ds = valN ds n + 65536 ^ n * val (ds.drop n)
  | 0 => by simp [valN]
  | n + 1 => by
    rw [valN_drop ds n, valN, Nat.pow_succ]
    by_cases h : n < ds.length
    · rw [List.drop_eq_getElem_cons h]
      have e : dg ds n = ds[n] := by simp [dg, List.getD_eq_getElem?_getD, h]
      rw [e, val, Nat.mul_add, Nat.mul_assoc, Nat.mul_comm ds[n]]; omega
    · rw [List.drop_of_length_le (by omega), List.drop_of_length_le (by omega), dg_end ds n (by omega)]; simp [val]
/-- Digits of a number that is small are just those. -/
theorem valN_small (ds : List Nat) (n : Nat) (h : val ds < 65536 ^ n) : valN ds n = val ds := by
  have e := valN_drop ds n
  rcases Nat.eq_zero_or_pos (val (ds.drop n)) with h0 | h0
  · rw [h0] at e; omega
  · have : 65536 ^ n * 1 ≤ 65536 ^ n * val (ds.drop n) := Nat.mul_le_mul_left _ h0
    omega
/-- What Sub's loop holds before round k. -/
structure SubInv (w : World) (da db : List Nat) (k bo g c : Nat) (ds : List Nat) (wr : World) : Prop where
  own : OwnD wr w.heap.size g k c ds
  below : Below w.heap.size w wr
  borrow : bo ≤ 1
  kn : k ≤ da.length
  sum : val ds + valN db k = valN da k + 65536 ^ k * bo
  digs : Digs ds
theorem SubInv.start (w : World) (da db : List Nat) : SubInv w da db 0 0 w.heap.size 0 [] (w.alloc (.cells #[] 71)) :=
  ⟨OwnD.start' w _ (Nat.le_refl _) _ rfl, (Below.refl _ _).alloc (Nat.le_refl _) _, by omega, by omega, by simp [val, valN], fun d hd => by cases hd⟩
theorem SubInv.step {w : World} {da db : List Nat} {k bo g c : Nat} {ds : List Nat} {wr : World} (h : SubInv w da db k bo g c ds wr) 
    (hgo : k < da.length) {g' c' d q : Nat} {w' : World} (hq : q ≤ 1) (hd : d + dg db k + bo = dg da k + 65536 * q) (hd2 : d < 65536)
    (ho : OwnD w' w.heap.size g' (k + 1) c' (ds ++ [d])) (hbl : Below w.heap.size wr w') : SubInv w da db (k + 1) q g' c' (ds ++ [d]) w' := by
  refine ⟨ho, h.below.trans hbl, hq, by omega, ?_, h.digs.snoc d hd2⟩
  have hs := h.sum
  rw [val_snoc, h.own.len, valN, valN, Nat.pow_succ]
  have e2 : 65536 ^ k * (d + dg db k + bo) = 65536 ^ k * (dg da k + 65536 * q) := by rw [hd]
  rw [Nat.mul_add, Nat.mul_add, Nat.mul_add, ← Nat.mul_assoc] at e2
  rw [Nat.mul_comm (dg da k), Nat.mul_comm (dg db k)]
  omega
theorem SubInv.done {w : World} {da db : List Nat} {bo g c : Nat} {ds : List Nat} {wr : World} (h : SubInv w da db da.length bo g c ds wr) (ha : Digs da) (hle : val db ≤ val da) :
    RetD w (fun ds => val ds = val da - val db ∧ Digs ds ∧ ds.length = da.length) (.returned (sv g 0 da.length c)) wr := by
  have hs := h.sum
  have hl := val_lt da ha
  rw [valN_eq da _ (Nat.le_refl _), valN_small db _ (by omega)] at hs
  have hlt := val_lt ds h.digs
  have e := h.own.len
  rw [e] at hlt
  have hb0 : bo = 0 := by
    rcases Nat.eq_zero_or_pos bo with h0 | h0
    · exact h0
    · have := h.borrow
      obtain rfl : bo = 1 := by omega
      omega
  subst hb0
  exact ⟨g, c, ds, ⟨by omega, h.digs, e⟩, by rw [e], by rw [e]; exact h.own, h.below⟩
end Go.Proofs.Ytbaifchbpnmkpaa
namespace Go.Proofs.Ytbaifchbpnmkpaa
open Go.RowKit
theorem set_dcells (ds : List Nat) (j d : Nat) : (dcells ds).set j (.int .u64 ((d : Nat) : Int)) = dcells (ds.set j d) := by
  simp [dcells, List.map_set]
/-- A digit is written. -/
theorem OwnD.store {W : World} {B g n c : Nat} {ds : List Nat} (h : OwnD W B g n c ds) (j d : Nat) : OwnD (W.setCell ⟨g, j, none⟩ (.int .u64 ((d : Nat) : Int))) B g n c (ds.set j d) :=
  ⟨by rw [← set_dcells]; exact (h.own.stored j _).1, by rw [List.length_set]; exact h.len⟩
theorem OwnD.at_ {W : World} {B g n c : Nat} {ds : List Nat} (h : OwnD W B g n c ds) (j : Nat) (hj : j < n) : W.cell? ⟨g, j, none⟩ = some (.int .u64 ((Go.Proofs.Ytbaifchbpnmkpaa.dg ds j : Nat) : Int)) := by
  have := h.dg.cell j (by rw [h.len]; exact hj)
  rwa [Nat.zero_add] at this
theorem RetD.mk {w W : World} {Q : List Nat → Prop} {g n c : Nat} {ds : List Nat} (hQ : Q ds) (h : OwnD W w.heap.size g n c ds) (hb : Below w.heap.size w W) : RetD w Q (.returned (sv g 0 n c)) W := by
  obtain rfl := h.len
  exact ⟨g, c, ds, hQ, rfl, h, hb⟩
theorem val_noughts (n : Nat) : val (List.replicate n 0) = 0 := by
  induction n with
  | zero => rfl
  | succ n ih => rw [List.replicate_succ, val, ih]
theorem digs_noughts (n : Nat) : Digs (List.replicate n 0) := fun d hd => by rw [(List.mem_replicate.1 hd).2]; decide
theorem digs_set (ds : List Nat) (h : Digs ds) (i d : Nat) (hd : d < 65536) : Digs (ds.set i d) := by
  intro x hx
  rcases List.mem_or_eq_of_mem_set hx with hx | rfl
  · exact h x hx
  · exact hd
theorem val_set : ∀ (ds : List Nat) (i d : Nat), i < ds.length → val (ds.set i d) + 65536 ^ i * dg ds i = val ds + 65536 ^ i * d
  | [], _, _, h => absurd h (by simp)
  | x :: ds, 0, d, _ => by simp [val, dg]; omega
  | x :: ds, i + 1, d, h => by
    have ih := val_set ds i d (by simpa using h)
    have e : dg (x :: ds) (i + 1) = dg ds i := by simp [dg]
    rw [List.set_cons_succ, val, val, e, Nat.pow_succ, Nat.mul_comm (65536 ^ i) 65536, Nat.mul_assoc, Nat.mul_assoc]
    omega
end Go.Proofs.Ytbaifchbpnmkpaa
namespace Go.Proofs.Ytbaifchbpnmkpaa
open Go.RowKit
/-- A row that begins with these digits. -/
def DRow (ds : List Nat) (o : Obj) : Prop := ∃ cur : Array Value, o = .cells cur 71 (0, 0) ∧ ∀ i, i < ds.length → cur[i]? = some (.int .u64 ((dg ds i : Nat) : Int))
theorem OwnD.row {W : World} {B g n c : Nat} {ds : List Nat} (h : OwnD W B g n c ds) : ∃ o, DRow ds o ∧ W.heap[g]? = some o := by
  rcases h.own.2 with ⟨hv, _⟩ | ⟨g', cap, cur, hv, _, hg, _⟩
  · simp at hv
  · simp only [Value.slice.injEq, Option.some.injEq, Addr.mk.injEq, and_true, true_and] at hv
    obtain ⟨rfl, -, -⟩ := hv
    refine ⟨_, ⟨cur, rfl, fun i hi => ?_⟩, hg⟩
    have e := h.dg.cell i hi
    rw [Nat.zero_add, cell_of_row W g i cur 71 (0, 0) hg] at e
    exact e
theorem St.dgo {w W : World} {L : List (Nat × Obj)} {g : Nat} {o : Obj} {ds : List Nat} (S : St w L W) (hm : (g, o) ∈ L) (hr : DRow ds o) (k : Nat) : Dg W g k (ds.drop k) := by
  obtain ⟨cur, rfl, hc⟩ := hr
  have hg := S.get hm
  refine ⟨lt_of_block hg, fun i hi => ?_⟩
  rw [List.length_drop] at hi
  rw [cell_of_row W g (k + i) cur 71 (0, 0) hg, hc (k + i) (by omega), dg_drop]
theorem St.dg {w W : World} {L : List (Nat × Obj)} {g : Nat} {o : Obj} {ds : List Nat} (S : St w L W) (hm : (g, o) ∈ L) (hr : DRow ds o) : Dg W g 0 ds := S.dgo hm hr 0
/-- What a call says that answers digits in a slice of its own; the row is named. -/
def RetS (w : World) (Q : List Nat → Prop) (e : Ending) (w' : World) : Prop := ∃ g c ds o, Hid (Q ds) ∧ e = .returned (sv g 0 ds.length c) ∧ Hid (DRow ds o) ∧ Hid (w'.heap[g]? = some o) ∧ Below w.heap.size w w'
theorem RetD.s {w : World} {Q : List Nat → Prop} {e : Ending} {w' : World} (h : RetD w Q e w') : RetS w Q e w' := by
  obtain ⟨g, c, ds, hQ, he, ho, hb⟩ := h
  obtain ⟨o, hr, hg⟩ := ho.row
  exact ⟨g, c, ds, o, hQ, he, hr, hg, hb⟩
theorem dg_of {W : World} {g : Nat} {o : Obj} {ds : List Nat} (hg : Hid (W.heap[g]? = some o)) (hr : Hid (DRow ds o)) : Dg W g 0 ds :=
  St.dg (w := W) (L := [(g, o)]) ⟨Below.refl _ _, fun p hp => by simp at hp; subst hp; exact hg.out⟩ (List.Mem.head _) hr.out
/-- What Add, Sub and Compare of the program's numbers say, with the results named. -/
theorem add_n (a b : Nat) (ha : a < W256) (hb : b < W256) (s : Nat) (m : Bool) (hs : (a + b) % W256 = s) (hm : decide (W256 ≤ a + b) = m) (W : World) :
    Calls Try.prog 68 #[wv a, wv b] W fun e w' => e = .returned (.tuple #[wv s, .bool m]) ∧ Below W.heap.size W w' := by
  refine (add_c a b ha hb W).mono ?_
  rintro e w' ⟨z, c, -, ⟨hz, hc⟩, rfl, hb⟩
  rw [hz, hc, hs, hm]; exact ⟨rfl, hb⟩
theorem sub_n (a b : Nat) (ha : a < W256) (hb : b < W256) (s : Nat) (m : Bool) (hs : (a + W256 - b) % W256 = s) (hm : decide (a < b) = m) (W : World) :
    Calls Try.prog 75 #[wv a, wv b] W fun e w' => e = .returned (.tuple #[wv s, .bool m]) ∧ Below W.heap.size W w' := by
  refine (sub_c a b ha hb W).mono ?_
  rintro e w' ⟨z, c, -, ⟨hz, hc⟩, rfl, hb⟩
  rw [hz, hc, hs, hm]; exact ⟨rfl, hb⟩
end Go.Proofs.Ytbaifchbpnmkpaa
namespace Go.Proofs.Ytbaifchbpnmkpaa
open Go.RowKit
/-- The two primes. -/
def PRM : Bool → Nat
  | true => 115792089237316195423570985008687907853269984665640564039457584007908834671663
  | false => 115792089237316195423570985008687907852837564279074904382605163141518161494337
/-- What is missing to 2^256. -/
def GAP (p : Bool) : Nat := W256 - PRM p
theorem prm_lt (p : Bool) : PRM p < W256 := by cases p <;> decide +kernel
theorem gap_lt (p : Bool) : GAP p < W256 := by cases p <;> decide +kernel
theorem prm_gap (p : Bool) : PRM p + GAP p = W256 := by have := prm_lt p; unfold GAP; omega
theorem gap_small (p : Bool) : GAP p < 1361129467683753853853498429727072845824 := by cases p <;> decide +kernel
theorem prm_big (p : Bool) : 115792089237316195423570985008687907852837564279074904382605163141518161494336 < PRM p := by cases p <;> decide +kernel
theorem w256_two (p : Bool) : W256 < 2 * PRM p := by cases p <;> decide +kernel
/-- A ring as it lies in memory. -/
@[reducible] def rcells (p : Bool) : Array Value := #[.int .u64 (limb (PRM p) 0 : Nat), .int .u64 (limb (PRM p) 1 : Nat), .int .u64 (limb (PRM p) 2 : Nat), .int .u64 (limb (PRM p) 3 : Nat), .int .u64 (limb (GAP p) 0 : Nat), .int .u64 (limb (GAP p) 1 : Nat), .int .u64 (limb (GAP p) 2 : Nat), .int .u64 (limb (GAP p) 3 : Nat), .bool p]
@[reducible] def rrow (p : Bool) : Obj := .cells (rcells p) 107
@[reducible] def rptr (g : Nat) : Value := .pointer (some ⟨g, 0, none⟩)
theorem ring_prime {W : World} {g : Nat} {p : Bool} (h : W.heap[g]? = some (rrow p)) : W.rangeAt g 0 (limbs4 (PRM p)).toList := part_of_row h _ rfl
theorem ring_gap {W : World} {g : Nat} {p : Bool} (h : W.heap[g]? = some (rrow p)) : W.rangeAt g 4 (limbs4 (GAP p)).toList := part_of_row h _ rfl
set_option maxRecDepth 100000 in
set_option maxHeartbeats 4000000 in
theorem in_c (g a : Nat) (p : Bool) (ha : a < W256) (w : World) (hr : w.heap[g]? = some (rrow p)) :
    Calls Try.prog 54 #[rptr g, wv a] w (RetB w (decide (a < PRM p))) := by
  have CL := Lib.hid (fun W => less_c a (PRM p) ha (prm_lt p) W)
  have R0 := Lib.hid hr
  clear hr
  go_enter Try.func54, Try.ntmps54
  have S0 := ((St.nil w).cons R0.out).alloc (wrow a) _ rfl
  obtain ⟨L0, hL0⟩ : ∃ L, L = [(w.heap.size, wrow a), (g, rrow p)] := ⟨_, rfl⟩
  rw [← hL0] at S0
  have ma : (w.heap.size, wrow a) ∈ L0 := by rw [hL0]; exact List.Mem.head _
  have mr : (g, rrow p) ∈ L0 := by rw [hL0]; exact List.Mem.tail _ (List.Mem.head _)
  clear hL0
  go_wp2_with fail
  obtain ⟨I, hI0⟩ : ∃ I : Array Value → (Nat → Bool) → Act → World → Prop, I = (fun T0 L act W => ∃ vq0 vq1 vq2 vq3 vq4 vq5 vq6, act = ⟨sets T0 [(5, vq0), (6, vq1), (7, vq2), (8, vq3), (9, vq4), (10, vq5), (4, vq6)], []⟩ ∧ St w L0 W ∧ (L 0 = true → vq0 = wv (a)) ∧ (L 1 = true → vq1 = rptr g) ∧ (L 2 = true → vq2 = rptr g) ∧ (L 3 = true → vq3 = .pointer (some ⟨g, 0, none⟩)) ∧ (L 4 = true → vq4 = wv (PRM p)) ∧ (L 5 = true → vq5 = .bool (decide (a < PRM p))) ∧ (L 6 = true → vq6 = .bool (decide (a < PRM p)))) := ⟨_, rfl⟩
  have HI := Lib.hid hI0; clear hI0
  refine wp_region_frame (by kernel_rfl) (by kernel_rfl) I (fun T0 hT0 => ⟨?start, ?step, ?fin⟩)
  case start =>
    rw [HI.out]
    exact ⟨T0.getD 5 undef, T0.getD 6 undef, T0.getD 7 undef, T0.getD 8 undef, T0.getD 9 undef, T0.getD 10 undef, T0.getD 4 undef, by (refine Eq.trans ?_ (congrArg (fun T => Act.mk T []) (sets_self [5, 6, 7, 8, 9, 10, 4] T0).symm)); rw [hT0], S0.drew, nofun, nofun, nofun, nofun, nofun, nofun, nofun⟩
  case step =>
    refine ⟨?_, ?_, ?_, ?_, ?_, ?_, ?_, trivial⟩
    · intro L act W hI hno hdep
      rw [HI.out] at hI
      obtain ⟨vq0, vq1, vq2, vq3, vq4, vq5, vq6, hact, hS, hq0, hq1, hq2, hq3, hq4, hq5, hq6⟩ := hI
      subst hact
      rw [hT0]; simp only [sets, List.setIfInBounds_toArray, List.set_cons_zero, List.set_cons_succ]
      with_reducible refine wp_wide (Operand.tmp 3) rfl w.heap.size ?_ (a) (hS.get ma) ?_
      · rfl
      rw [HI.out]
      exact ⟨wv (a), vq1, vq2, vq3, vq4, vq5, vq6, by simp only [sets, Act.put, List.setIfInBounds_toArray, List.set_cons_zero, List.set_cons_succ], hS, fun _ => rfl, keepI hq1 rfl, keepI hq2 rfl, keepI hq3 rfl, keepI hq4 rfl, keepI hq5 rfl, keepI hq6 rfl⟩
    · intro L act W hI hno hdep
      rw [HI.out] at hI
      obtain ⟨vq0, vq1, vq2, vq3, vq4, vq5, vq6, hact, hS, hq0, hq1, hq2, hq3, hq4, hq5, hq6⟩ := hI
      subst hact
      rw [hT0]; simp only [sets, List.setIfInBounds_toArray, List.set_cons_zero, List.set_cons_succ]
      go_simp
      rw [HI.out]
      exact ⟨vq0, rptr g, vq2, vq3, vq4, vq5, vq6, by simp only [sets, List.setIfInBounds_toArray, List.set_cons_zero, List.set_cons_succ], hS, keepI hq0 rfl, fun _ => rfl, keepI hq2 rfl, keepI hq3 rfl, keepI hq4 rfl, keepI hq5 rfl, keepI hq6 rfl⟩
    · intro L act W hI hno hdep
      rw [HI.out] at hI
      obtain ⟨vq0, vq1, vq2, vq3, vq4, vq5, vq6, hact, hS, hq0, hq1, hq2, hq3, hq4, hq5, hq6⟩ := hI
      subst hact
      obtain rfl := hq1 (hdep ⟨1, .data⟩ (by simp) rfl)
      rw [hT0]; simp only [sets, List.setIfInBounds_toArray, List.set_cons_zero, List.set_cons_succ]
      go_simp
      rw [HI.out]
      exact ⟨vq0, rptr g, rptr g, vq3, vq4, vq5, vq6, by simp only [sets, List.setIfInBounds_toArray, List.set_cons_zero, List.set_cons_succ], hS, keepI hq0 rfl, fun _ => rfl, fun _ => rfl, keepI hq3 rfl, keepI hq4 rfl, keepI hq5 rfl, keepI hq6 rfl⟩
    · intro L act W hI hno hdep
      rw [HI.out] at hI
      obtain ⟨vq0, vq1, vq2, vq3, vq4, vq5, vq6, hact, hS, hq0, hq1, hq2, hq3, hq4, hq5, hq6⟩ := hI
      subst hact
      obtain rfl := hq2 (hdep ⟨2, .data⟩ (by simp) rfl)
      rw [hT0]; simp only [sets, List.setIfInBounds_toArray, List.set_cons_zero, List.set_cons_succ]
      go_simp
      rw [HI.out]
      exact ⟨vq0, vq1, rptr g, .pointer (some ⟨g, 0, none⟩), vq4, vq5, vq6, by simp only [sets, List.setIfInBounds_toArray, List.set_cons_zero, List.set_cons_succ], hS, keepI hq0 rfl, keepI hq1 rfl, fun _ => rfl, fun _ => rfl, keepI hq4 rfl, keepI hq5 rfl, keepI hq6 rfl⟩
    · intro L act W hI hno hdep
      rw [HI.out] at hI
      obtain ⟨vq0, vq1, vq2, vq3, vq4, vq5, vq6, hact, hS, hq0, hq1, hq2, hq3, hq4, hq5, hq6⟩ := hI
      subst hact
      obtain rfl := hq3 (hdep ⟨3, .data⟩ (by simp) rfl)
      rw [hT0]; simp only [sets, List.setIfInBounds_toArray, List.set_cons_zero, List.set_cons_succ]
      with_reducible refine wp_part (Operand.tmp 8) rfl g 0 ?_ (PRM p) (ring_prime (hS.get mr)) ?_
      · rfl
      rw [HI.out]
      exact ⟨vq0, vq1, vq2, .pointer (some ⟨g, 0, none⟩), wv (PRM p), vq5, vq6, by simp only [sets, Act.put, List.setIfInBounds_toArray, List.set_cons_zero, List.set_cons_succ], hS, keepI hq0 rfl, keepI hq1 rfl, keepI hq2 rfl, fun _ => rfl, fun _ => rfl, keepI hq5 rfl, keepI hq6 rfl⟩
    · intro L act W hI hno hdep
      rw [HI.out] at hI
      obtain ⟨vq0, vq1, vq2, vq3, vq4, vq5, vq6, hact, hS, hq0, hq1, hq2, hq3, hq4, hq5, hq6⟩ := hI
      subst hact
      obtain rfl := hq0 (hdep ⟨0, .data⟩ (by simp) rfl)
      obtain rfl := hq4 (hdep ⟨4, .data⟩ (by simp) rfl)
      rw [hT0]; simp only [sets, List.setIfInBounds_toArray, List.set_cons_zero, List.set_cons_succ]
      go_simp
      refine (CL.out _).mono ?_
      rintro e W2 ⟨rfl, hb⟩
      rw [HI.out]
      exact ⟨wv (a), vq1, vq2, vq3, wv (PRM p), .bool (decide (a < PRM p)), vq6, by simp only [sets, List.setIfInBounds_toArray, List.set_cons_zero, List.set_cons_succ], (hS.keep hb), fun _ => rfl, keepI hq1 rfl, keepI hq2 rfl, keepI hq3 rfl, fun _ => rfl, fun _ => rfl, keepI hq6 rfl⟩
    · intro L act W hI hno hdep
      rw [HI.out] at hI
      obtain ⟨vq0, vq1, vq2, vq3, vq4, vq5, vq6, hact, hS, hq0, hq1, hq2, hq3, hq4, hq5, hq6⟩ := hI
      subst hact
      obtain rfl := hq5 (hdep ⟨5, .data⟩ (by simp) rfl)
      rw [hT0]; simp only [sets, List.setIfInBounds_toArray, List.set_cons_zero, List.set_cons_succ]
      go_simp
      rw [HI.out]
      exact ⟨vq0, vq1, vq2, vq3, vq4, .bool (decide (a < PRM p)), .bool (decide (a < PRM p)), by simp only [sets, List.setIfInBounds_toArray, List.set_cons_zero, List.set_cons_succ], hS, keepI hq0 rfl, keepI hq1 rfl, keepI hq2 rfl, keepI hq3 rfl, keepI hq4 rfl, fun _ => rfl, fun _ => rfl⟩
  case fin =>
    intro L act W hall hI
    rw [HI.out] at hI
    obtain ⟨vq0, vq1, vq2, vq3, vq4, vq5, vq6, hact, hS, hq0, hq1, hq2, hq3, hq4, hq5, hq6⟩ := hI
    subst hact
    obtain rfl := hq0 (hall 0 (by decide))
    obtain rfl := hq1 (hall 1 (by decide))
    obtain rfl := hq2 (hall 2 (by decide))
    obtain rfl := hq3 (hall 3 (by decide))
    obtain rfl := hq4 (hall 4 (by decide))
    obtain rfl := hq5 (hall 5 (by decide))
    obtain rfl := hq6 (hall 6 (by decide))
    clear hq0 hq1 hq2 hq3 hq4 hq5 hq6 hall
    rw [hT0]; simp only [sets, List.setIfInBounds_toArray, List.set_cons_zero, List.set_cons_succ]
    clear hT0 HI
    go_wp2_with fail
    go_ret
    exact ⟨rfl, hS.below⟩
theorem one_more (p : Bool) (a : Nat) : (a + GAP p) % PRM p = (a + W256) % PRM p := by
  rw [← prm_gap p, show a + (PRM p + GAP p) = a + GAP p + PRM p by omega, Nat.add_mod_right]
set_option maxRecDepth 100000 in
set_option maxHeartbeats 4000000 in
/-- A number of 256 bits and one more, when the next call is known. -/
theorem one_step (g a : Nat) (p : Bool) (ha : a < W256) (s : Nat) (m : Bool) (hs : (a + GAP p) % W256 = s) (hm : decide (W256 ≤ a + GAP p) = m) (z : Nat) (hz : z < W256) (w : World) (hr : w.heap[g]? = some (rrow p))
    (ih : ∀ W, W.heap[g]? = some (rrow p) → Calls Try.prog 72 #[rptr g, wv s, .bool m] W fun e w' => e = .returned (wv z) ∧ Below W.heap.size W w') :
    Calls Try.prog 72 #[rptr g, wv a, .bool true] w fun e w' => e = .returned (wv z) ∧ Below w.heap.size w w' := by
  have CA := Lib.hid (fun W => add_n a (GAP p) ha (gap_lt p) s m hs hm W)
  have CI := Lib.hid ih
  have R0 := Lib.hid hr
  have HZ := Lib.hid hz
  clear hr ih hs hm ha hz
  go_enter Try.func72, Try.ntmps72
  have S0 := ((((St.nil w).cons R0.out)).alloc (wrow (a)) (w.heap.size) rfl).alloc (wrow (0)) (w.heap.size + 1) (by simp)
  obtain ⟨L0, hL0⟩ : ∃ L, L = [(w.heap.size + 1, wrow (0)), (w.heap.size, wrow (a)), (g, rrow p)] := ⟨_, rfl⟩
  rw [← hL0] at S0
  have mv0 : (w.heap.size, wrow (a)) ∈ L0 := by rw [hL0]; exact (List.Mem.tail _ (List.Mem.head _))
  have mv1 : (w.heap.size + 1, wrow (0)) ∈ L0 := by rw [hL0]; exact (List.Mem.head _)
  have mr : (g, rrow p) ∈ L0 := by rw [hL0]; exact (List.Mem.tail _ (List.Mem.tail _ (List.Mem.head _)))
  have hlow : Hid (∀ q, q ∈ L0 → q.1 < w.heap.size + 2) := by
    rw [hL0]; intro q hq; have hg0 := lt_of_block R0.out; simp at hq; rcases hq with rfl | rfl | rfl <;> simp <;> omega
  clear hL0
  have hbase : w.heap.size + 2 ≤ ((w.alloc (wrow a)).alloc (wrow 0)).heap.size := by simp
  go_wp2_with fail
  obtain ⟨I, hI0⟩ : ∃ I : Array Value → (Nat → Bool) → Act → World → Prop, I = (fun T0 L act W => ∃ vq0 vq1 vq2 vq3 vq4 vq5 vq6 vq7 vq8 vq9 vq11, act = ⟨sets T0 [(11, vq0), (12, vq1), (13, vq2), (14, vq3), (15, vq4), (16, vq5), (10, vq6), (17, vq7), (18, vq8), (7, vq9), (8, vq11)], []⟩ ∧ St w L0 W ∧ w.heap.size + 2 ≤ W.heap.size ∧ (L 0 = true → vq0 = wv (a)) ∧ (L 1 = true → vq1 = rptr g) ∧ (L 2 = true → vq2 = rptr g) ∧ (L 3 = true → vq3 = .pointer (some ⟨g, 4, none⟩)) ∧ (L 4 = true → vq4 = wv (GAP p)) ∧ (L 5 = true → vq5 = .tuple #[wv s, .bool m]) ∧ (L 6 = true → vq6 = .tuple #[wv s, .bool m]) ∧ (L 7 = true → vq7 = wv s) ∧ (L 8 = true → vq8 = .bool m) ∧ (L 11 = true → vq11 = .bool m) ∧ (L 9 = true → Made W 73 (w.heap.size + 2) vq9 (L 10) (limbs4 0) (limbs4 (s))) ∧ (L 10 = true → L 9 = true)) := ⟨_, rfl⟩
  have HI := Lib.hid hI0; clear hI0
  refine wp_region_frame (by kernel_rfl) (by kernel_rfl) I (fun T0 hT0 => ⟨?start, ?step, ?fin⟩)
  case start =>
    rw [HI.out]
    exact ⟨T0.getD 11 undef, T0.getD 12 undef, T0.getD 13 undef, T0.getD 14 undef, T0.getD 15 undef, T0.getD 16 undef, T0.getD 10 undef, T0.getD 17 undef, T0.getD 18 undef, T0.getD 7 undef, T0.getD 8 undef, by (refine Eq.trans ?_ (congrArg (fun T => Act.mk T []) (sets_self [11, 12, 13, 14, 15, 16, 10, 17, 18, 7, 8] T0).symm)); rw [hT0], S0.drew, hbase, nofun, nofun, nofun, nofun, nofun, nofun, nofun, nofun, nofun, nofun, nofun, nofun⟩
  case step =>
    refine ⟨?_, ?_, ?_, ?_, ?_, ?_, ?_, ?_, ?_, ?_, ?_, ?_, trivial⟩
    · intro L act W hI hno hdep
      rw [HI.out] at hI
      obtain ⟨vq0, vq1, vq2, vq3, vq4, vq5, vq6, vq7, vq8, vq9, vq11, hact, hS, hsz, hq0, hq1, hq2, hq3, hq4, hq5, hq6, hq7, hq8, hq11, mq9, dq10_9⟩ := hI
      subst hact
      rw [hT0]; simp only [sets, List.setIfInBounds_toArray, List.set_cons_zero, List.set_cons_succ]
      with_reducible refine wp_wide (Operand.tmp 4) rfl w.heap.size ?_ (a) (hS.get mv0) ?_
      · rfl
      rw [HI.out]
      exact ⟨wv (a), vq1, vq2, vq3, vq4, vq5, vq6, vq7, vq8, vq9, vq11, by simp only [sets, Act.put, List.setIfInBounds_toArray, List.set_cons_zero, List.set_cons_succ], hS, hsz, fun _ => rfl, keepI hq1 rfl, keepI hq2 rfl, keepI hq3 rfl, keepI hq4 rfl, keepI hq5 rfl, keepI hq6 rfl, keepI hq7 rfl, keepI hq8 rfl, keepI hq11 rfl, fun h => by rw [also_of (by decide)] at h ⊢; exact mq9 h, keepD dq10_9 rfl⟩
    · intro L act W hI hno hdep
      rw [HI.out] at hI
      obtain ⟨vq0, vq1, vq2, vq3, vq4, vq5, vq6, vq7, vq8, vq9, vq11, hact, hS, hsz, hq0, hq1, hq2, hq3, hq4, hq5, hq6, hq7, hq8, hq11, mq9, dq10_9⟩ := hI
      subst hact
      rw [hT0]; simp only [sets, List.setIfInBounds_toArray, List.set_cons_zero, List.set_cons_succ]
      go_simp
      rw [HI.out]
      exact ⟨vq0, rptr g, vq2, vq3, vq4, vq5, vq6, vq7, vq8, vq9, vq11, by simp only [sets, List.setIfInBounds_toArray, List.set_cons_zero, List.set_cons_succ], hS, hsz, keepI hq0 rfl, fun _ => rfl, keepI hq2 rfl, keepI hq3 rfl, keepI hq4 rfl, keepI hq5 rfl, keepI hq6 rfl, keepI hq7 rfl, keepI hq8 rfl, keepI hq11 rfl, fun h => by rw [also_of (by decide)] at h ⊢; exact mq9 h, keepD dq10_9 rfl⟩
    · intro L act W hI hno hdep
      rw [HI.out] at hI
      obtain ⟨vq0, vq1, vq2, vq3, vq4, vq5, vq6, vq7, vq8, vq9, vq11, hact, hS, hsz, hq0, hq1, hq2, hq3, hq4, hq5, hq6, hq7, hq8, hq11, mq9, dq10_9⟩ := hI
      subst hact
      obtain rfl := hq1 (hdep ⟨1, .data⟩ (by simp) rfl)
      rw [hT0]; simp only [sets, List.setIfInBounds_toArray, List.set_cons_zero, List.set_cons_succ]
      go_simp
      rw [HI.out]
      exact ⟨vq0, rptr g, rptr g, vq3, vq4, vq5, vq6, vq7, vq8, vq9, vq11, by simp only [sets, List.setIfInBounds_toArray, List.set_cons_zero, List.set_cons_succ], hS, hsz, keepI hq0 rfl, fun _ => rfl, fun _ => rfl, keepI hq3 rfl, keepI hq4 rfl, keepI hq5 rfl, keepI hq6 rfl, keepI hq7 rfl, keepI hq8 rfl, keepI hq11 rfl, fun h => by rw [also_of (by decide)] at h ⊢; exact mq9 h, keepD dq10_9 rfl⟩
    · intro L act W hI hno hdep
      rw [HI.out] at hI
      obtain ⟨vq0, vq1, vq2, vq3, vq4, vq5, vq6, vq7, vq8, vq9, vq11, hact, hS, hsz, hq0, hq1, hq2, hq3, hq4, hq5, hq6, hq7, hq8, hq11, mq9, dq10_9⟩ := hI
      subst hact
      obtain rfl := hq2 (hdep ⟨2, .data⟩ (by simp) rfl)
      rw [hT0]; simp only [sets, List.setIfInBounds_toArray, List.set_cons_zero, List.set_cons_succ]
      go_simp
      rw [HI.out]
      exact ⟨vq0, vq1, rptr g, .pointer (some ⟨g, 4, none⟩), vq4, vq5, vq6, vq7, vq8, vq9, vq11, by simp only [sets, List.setIfInBounds_toArray, List.set_cons_zero, List.set_cons_succ], hS, hsz, keepI hq0 rfl, keepI hq1 rfl, fun _ => rfl, fun _ => rfl, keepI hq4 rfl, keepI hq5 rfl, keepI hq6 rfl, keepI hq7 rfl, keepI hq8 rfl, keepI hq11 rfl, fun h => by rw [also_of (by decide)] at h ⊢; exact mq9 h, keepD dq10_9 rfl⟩
    · intro L act W hI hno hdep
      rw [HI.out] at hI
      obtain ⟨vq0, vq1, vq2, vq3, vq4, vq5, vq6, vq7, vq8, vq9, vq11, hact, hS, hsz, hq0, hq1, hq2, hq3, hq4, hq5, hq6, hq7, hq8, hq11, mq9, dq10_9⟩ := hI
      subst hact
      obtain rfl := hq3 (hdep ⟨3, .data⟩ (by simp) rfl)
      rw [hT0]; simp only [sets, List.setIfInBounds_toArray, List.set_cons_zero, List.set_cons_succ]
      with_reducible refine wp_part (Operand.tmp 14) rfl g 4 ?_ (GAP p) (ring_gap (hS.get mr)) ?_
      · rfl
      rw [HI.out]
      exact ⟨vq0, vq1, vq2, .pointer (some ⟨g, 4, none⟩), wv (GAP p), vq5, vq6, vq7, vq8, vq9, vq11, by simp only [sets, Act.put, List.setIfInBounds_toArray, List.set_cons_zero, List.set_cons_succ], hS, hsz, keepI hq0 rfl, keepI hq1 rfl, keepI hq2 rfl, fun _ => rfl, fun _ => rfl, keepI hq5 rfl, keepI hq6 rfl, keepI hq7 rfl, keepI hq8 rfl, keepI hq11 rfl, fun h => by rw [also_of (by decide)] at h ⊢; exact mq9 h, keepD dq10_9 rfl⟩
    · intro L act W hI hno hdep
      rw [HI.out] at hI
      obtain ⟨vq0, vq1, vq2, vq3, vq4, vq5, vq6, vq7, vq8, vq9, vq11, hact, hS, hsz, hq0, hq1, hq2, hq3, hq4, hq5, hq6, hq7, hq8, hq11, mq9, dq10_9⟩ := hI
      subst hact
      obtain rfl := hq0 (hdep ⟨0, .data⟩ (by simp) rfl)
      obtain rfl := hq4 (hdep ⟨4, .data⟩ (by simp) rfl)
      rw [hT0]; simp only [sets, List.setIfInBounds_toArray, List.set_cons_zero, List.set_cons_succ]
      go_simp
      refine (CA.out _).mono ?_
      rintro e W2 ⟨rfl, hb⟩
      have hsz2 := Nat.le_trans hsz hb.size
      rw [HI.out]
      exact ⟨wv (a), vq1, vq2, vq3, wv (GAP p), .tuple #[wv s, .bool m], vq6, vq7, vq8, vq9, vq11, by simp only [sets, List.setIfInBounds_toArray, List.set_cons_zero, List.set_cons_succ], (hS.keep hb), hsz2, fun _ => rfl, keepI hq1 rfl, keepI hq2 rfl, keepI hq3 rfl, fun _ => rfl, fun _ => rfl, keepI hq6 rfl, keepI hq7 rfl, keepI hq8 rfl, keepI hq11 rfl, fun h => by rw [also_of (by decide)] at h ⊢; exact (fun h => (mq9 h).keep hb) h, keepD dq10_9 rfl⟩
    · intro L act W hI hno hdep
      rw [HI.out] at hI
      obtain ⟨vq0, vq1, vq2, vq3, vq4, vq5, vq6, vq7, vq8, vq9, vq11, hact, hS, hsz, hq0, hq1, hq2, hq3, hq4, hq5, hq6, hq7, hq8, hq11, mq9, dq10_9⟩ := hI
      subst hact
      obtain rfl := hq5 (hdep ⟨5, .data⟩ (by simp) rfl)
      rw [hT0]; simp only [sets, List.setIfInBounds_toArray, List.set_cons_zero, List.set_cons_succ]
      go_simp
      rw [HI.out]
      exact ⟨vq0, vq1, vq2, vq3, vq4, .tuple #[wv s, .bool m], .tuple #[wv s, .bool m], vq7, vq8, vq9, vq11, by simp only [sets, List.setIfInBounds_toArray, List.set_cons_zero, List.set_cons_succ], hS, hsz, keepI hq0 rfl, keepI hq1 rfl, keepI hq2 rfl, keepI hq3 rfl, keepI hq4 rfl, fun _ => rfl, fun _ => rfl, keepI hq7 rfl, keepI hq8 rfl, keepI hq11 rfl, fun h => by rw [also_of (by decide)] at h ⊢; exact mq9 h, keepD dq10_9 rfl⟩
    · intro L act W hI hno hdep
      rw [HI.out] at hI
      obtain ⟨vq0, vq1, vq2, vq3, vq4, vq5, vq6, vq7, vq8, vq9, vq11, hact, hS, hsz, hq0, hq1, hq2, hq3, hq4, hq5, hq6, hq7, hq8, hq11, mq9, dq10_9⟩ := hI
      subst hact
      obtain rfl := hq6 (hdep ⟨6, .data⟩ (by simp) rfl)
      rw [hT0]; simp only [sets, List.setIfInBounds_toArray, List.set_cons_zero, List.set_cons_succ]
      go_simp
      rw [HI.out]
      exact ⟨vq0, vq1, vq2, vq3, vq4, vq5, .tuple #[wv s, .bool m], wv s, vq8, vq9, vq11, by simp only [sets, List.setIfInBounds_toArray, List.set_cons_zero, List.set_cons_succ], hS, hsz, keepI hq0 rfl, keepI hq1 rfl, keepI hq2 rfl, keepI hq3 rfl, keepI hq4 rfl, keepI hq5 rfl, fun _ => rfl, fun _ => rfl, keepI hq8 rfl, keepI hq11 rfl, fun h => by rw [also_of (by decide)] at h ⊢; exact mq9 h, keepD dq10_9 rfl⟩
    · intro L act W hI hno hdep
      rw [HI.out] at hI
      obtain ⟨vq0, vq1, vq2, vq3, vq4, vq5, vq6, vq7, vq8, vq9, vq11, hact, hS, hsz, hq0, hq1, hq2, hq3, hq4, hq5, hq6, hq7, hq8, hq11, mq9, dq10_9⟩ := hI
      subst hact
      obtain rfl := hq6 (hdep ⟨6, .data⟩ (by simp) rfl)
      rw [hT0]; simp only [sets, List.setIfInBounds_toArray, List.set_cons_zero, List.set_cons_succ]
      go_simp
      rw [HI.out]
      exact ⟨vq0, vq1, vq2, vq3, vq4, vq5, .tuple #[wv s, .bool m], vq7, .bool m, vq9, vq11, by simp only [sets, List.setIfInBounds_toArray, List.set_cons_zero, List.set_cons_succ], hS, hsz, keepI hq0 rfl, keepI hq1 rfl, keepI hq2 rfl, keepI hq3 rfl, keepI hq4 rfl, keepI hq5 rfl, fun _ => rfl, keepI hq7 rfl, fun _ => rfl, keepI hq11 rfl, fun h => by rw [also_of (by decide)] at h ⊢; exact mq9 h, keepD dq10_9 rfl⟩
    · intro L act W hI hno hdep
      rw [HI.out] at hI
      obtain ⟨vq0, vq1, vq2, vq3, vq4, vq5, vq6, vq7, vq8, vq9, vq11, hact, hS, hsz, hq0, hq1, hq2, hq3, hq4, hq5, hq6, hq7, hq8, hq11, mq9, dq10_9⟩ := hI
      subst hact
      have hsF := noF dq10_9 hno
      rw [hT0]; simp only [sets, List.setIfInBounds_toArray, List.set_cons_zero, List.set_cons_succ]
      go_simp
      rw [HI.out]
      exact ⟨vq0, vq1, vq2, vq3, vq4, vq5, vq6, vq7, vq8, (.pointer (some ⟨W.heap.size, 0, none⟩)), vq11, by simp only [sets, List.setIfInBounds_toArray, List.set_cons_zero, List.set_cons_succ], (hS.alloc0 _), (by simp at *; omega), keepI hq0 rfl, keepI hq1 rfl, keepI hq2 rfl, keepI hq3 rfl, keepI hq4 rfl, keepI hq5 rfl, keepI hq6 rfl, keepI hq7 rfl, keepI hq8 rfl, keepI hq11 rfl, fun _ => Made.new' W _ _ (by omega) _ _ (by simp [also, hsF]), keepD dq10_9 rfl⟩
    · intro L act W hI hno hdep
      rw [HI.out] at hI
      obtain ⟨vq0, vq1, vq2, vq3, vq4, vq5, vq6, vq7, vq8, vq9, vq11, hact, hS, hsz, hq0, hq1, hq2, hq3, hq4, hq5, hq6, hq7, hq8, hq11, mq9, dq10_9⟩ := hI
      subst hact
      obtain rfl := hq7 (hdep ⟨7, .data⟩ (by simp) rfl)
      rw [hT0]; simp only [sets, List.setIfInBounds_toArray, List.set_cons_zero, List.set_cons_succ]
      with_reducible refine wp_put_made (Operand.tmp 7) (Operand.tmp 17) rfl vq9 ?_ (s) ?_ _ _ _ (mq9 (hdep ⟨9, .data⟩ (by simp) rfl)) hno ?_
      · rfl
      · rfl
      intro gx hgx hgn hg
      subst hgx
      rw [HI.out]
      exact ⟨vq0, vq1, vq2, vq3, vq4, vq5, vq6, wv s, vq8, (.pointer (some ⟨gx, 0, none⟩)), vq11, by simp only [sets, Act.put, List.setIfInBounds_toArray, List.set_cons_zero, List.set_cons_succ], (hS.setRow (by omega) (fun p hp => Nat.ne_of_lt (Nat.lt_of_lt_of_le (hlow.out p hp) hgn)) _), (by simpa [World.setRow] using hsz), keepI hq0 rfl, keepI hq1 rfl, keepI hq2 rfl, keepI hq3 rfl, keepI hq4 rfl, keepI hq5 rfl, keepI hq6 rfl, fun _ => rfl, keepI hq8 rfl, keepI hq11 rfl, fun _ => by rw [also_self]; exact Made.stored hg hgn _ _, fun _ => alsoD (hdep ⟨9, .data⟩ (by simp) rfl)⟩
    · intro L act W hI hno hdep
      rw [HI.out] at hI
      obtain ⟨vq0, vq1, vq2, vq3, vq4, vq5, vq6, vq7, vq8, vq9, vq11, hact, hS, hsz, hq0, hq1, hq2, hq3, hq4, hq5, hq6, hq7, hq8, hq11, mq9, dq10_9⟩ := hI
      subst hact
      obtain rfl := hq8 (hdep ⟨8, .data⟩ (by simp) rfl)
      rw [hT0]; simp only [sets, List.setIfInBounds_toArray, List.set_cons_zero, List.set_cons_succ]
      go_simp
      rw [HI.out]
      exact ⟨vq0, vq1, vq2, vq3, vq4, vq5, vq6, vq7, .bool m, vq9, .bool m, by simp only [sets, List.setIfInBounds_toArray, List.set_cons_zero, List.set_cons_succ], hS, hsz, keepI hq0 rfl, keepI hq1 rfl, keepI hq2 rfl, keepI hq3 rfl, keepI hq4 rfl, keepI hq5 rfl, keepI hq6 rfl, keepI hq7 rfl, fun _ => rfl, fun _ => rfl, fun h => by rw [also_of (by decide)] at h ⊢; exact mq9 h, keepD dq10_9 rfl⟩
  case fin =>
    intro L act W hall hI
    rw [HI.out] at hI
    obtain ⟨vq0, vq1, vq2, vq3, vq4, vq5, vq6, vq7, vq8, vq9, vq11, hact, hS, hsz, hq0, hq1, hq2, hq3, hq4, hq5, hq6, hq7, hq8, hq11, mq9, dq10_9⟩ := hI
    subst hact
    obtain rfl := hq0 (hall 0 (by decide))
    obtain rfl := hq1 (hall 1 (by decide))
    obtain rfl := hq2 (hall 2 (by decide))
    obtain rfl := hq3 (hall 3 (by decide))
    obtain rfl := hq4 (hall 4 (by decide))
    obtain rfl := hq5 (hall 5 (by decide))
    obtain rfl := hq6 (hall 6 (by decide))
    obtain rfl := hq7 (hall 7 (by decide))
    obtain rfl := hq8 (hall 8 (by decide))
    obtain rfl := hq11 (hall 11 (by decide))
    obtain ⟨g7, rfl, g7n, g7r⟩ := mq9 (hall 9 (by decide))
    rw [hall 10 (by decide)] at g7r
    have g7h := Lib.hid (show W.heap[g7]? = some (wrow (s)) from g7r); clear g7r
    clear hq0 hq1 hq2 hq3 hq4 hq5 hq6 hq7 hq8 hq11 mq9 dq10_9 hall
    rw [hT0]; simp only [sets, List.setIfInBounds_toArray, List.set_cons_zero, List.set_cons_succ]
    clear hT0 HI
    have S7 := hS.cons g7h.out
    go_wp2_with (refine wpList_wide rfl _ rfl _ rfl S7 _ (List.Mem.head _) ?_)
    refine (CI.out _ (hS.get mr)).mono ?_
    rintro e W3 ⟨rfl, hb⟩
    have S8 := hS.keep hb
    clear hb
    go_wp2_with (refine wpList_put rfl _ _ rfl (w.heap.size + 1) rfl z 0 rfl (S8.get mv1) ?_)
    refine bodyPost_ret (results_cell_row rfl _ _ (w.heap.size + 1) 73 (limbs4 (z)) (0, 0) _ rfl (set_row (S8.get mv1)) Try.underlying73 rfl (by kernel_rfl)) rfl ?_
    exact ⟨rfl, below_setRow S8.below (by omega) _⟩
set_option maxRecDepth 100000 in
set_option maxHeartbeats 4000000 in
theorem one_f (g a : Nat) (p : Bool) (ha : a < W256) (w : World) (hr : w.heap[g]? = some (rrow p)) :
    Calls Try.prog 72 #[rptr g, wv a, .bool false] w fun e w' => e = .returned (wv (a % PRM p)) ∧ Below w.heap.size w w' := by
  have HA := Lib.hid ha
  obtain ⟨z, hz⟩ : ∃ z, a % PRM p = z := ⟨_, rfl⟩
  have HZ := Lib.hid hz
  have CIN := Lib.hid (fun W => fun h => in_c g a p ha W h)
  have R0 := Lib.hid hr
  rw [hz]
  clear hr hz ha
  by_cases hlt : a < PRM p
  · have hd : decide (a < PRM p) = true := by simpa using hlt
    have hza : Hid (z = a) := by have := HZ.out; rw [Nat.mod_eq_of_lt hlt] at this; exact this.symm
    rw [hd] at CIN
    clear hlt hd
    go_enter Try.func72, Try.ntmps72
    have S0 := ((((St.nil w).cons R0.out)).alloc (wrow (a)) (w.heap.size) rfl).alloc (wrow (0)) (w.heap.size + 1) (by simp)
    obtain ⟨L0, hL0⟩ : ∃ L, L = [(w.heap.size + 1, wrow (0)), (w.heap.size, wrow (a)), (g, rrow p)] := ⟨_, rfl⟩
    rw [← hL0] at S0
    have mv0 : (w.heap.size, wrow (a)) ∈ L0 := by rw [hL0]; exact (List.Mem.tail _ (List.Mem.head _))
    have mv1 : (w.heap.size + 1, wrow (0)) ∈ L0 := by rw [hL0]; exact (List.Mem.head _)
    have mr : (g, rrow p) ∈ L0 := by rw [hL0]; exact (List.Mem.tail _ (List.Mem.tail _ (List.Mem.head _)))
    have hlow : Hid (∀ q, q ∈ L0 → q.1 < w.heap.size + 2) := by
      rw [hL0]; intro q hq; have hg0 := lt_of_block R0.out; simp at hq; rcases hq with rfl | rfl | rfl <;> simp <;> omega
    clear hL0
    go_wp2_with (refine wpList_wide rfl _ rfl _ rfl S0 _ mv0 ?_)
    refine (CIN.out _ (S0.get mr)).mono ?_
    rintro e W1 ⟨rfl, hb⟩
    have S1 := S0.keep hb
    clear hb
    go_wp2_with (first | (refine wpList_wide rfl _ rfl _ rfl S1 _ mv0 ?_) | (refine wpList_put rfl _ _ rfl (w.heap.size + 1) rfl a 0 rfl (S1.get mv1) ?_))
    refine bodyPost_ret (results_cell_row rfl _ _ (w.heap.size + 1) 73 (limbs4 (a)) (0, 0) _ rfl (set_row (S1.get mv1)) Try.underlying73 rfl (by kernel_rfl)) rfl ?_
    exact ⟨by rw [hza.out], below_setRow S1.below (by omega) _⟩
  · have hd : decide (a < PRM p) = false := by simpa using hlt
    obtain ⟨d, hdd⟩ : ∃ d, (a + W256 - PRM p) % W256 = d := ⟨_, rfl⟩
    obtain ⟨m, hm⟩ : ∃ m, decide (a < PRM p) = m := ⟨_, rfl⟩
    have CS := Lib.hid (fun W => sub_n a (PRM p) HA.out (prm_lt p) d m hdd hm W)
    have hzd : Hid (z = d) := by
      have h1 := HZ.out; have h2 := w256_two p; have h3 := HA.out; have h4 := prm_lt p
      rw [Nat.mod_eq_sub_mod (by omega), Nat.mod_eq_of_lt (by omega)] at h1
      rw [show a + W256 - PRM p = a - PRM p + W256 by omega, Nat.add_mod_right, Nat.mod_eq_of_lt (by omega)] at hdd
      unfold Hid; omega
    rw [hd] at CIN
    clear hlt hd hm hdd
    go_enter Try.func72, Try.ntmps72
    have S0 := ((((St.nil w).cons R0.out)).alloc (wrow (a)) (w.heap.size) rfl).alloc (wrow (0)) (w.heap.size + 1) (by simp)
    obtain ⟨L0, hL0⟩ : ∃ L, L = [(w.heap.size + 1, wrow (0)), (w.heap.size, wrow (a)), (g, rrow p)] := ⟨_, rfl⟩
    rw [← hL0] at S0
    have mv0 : (w.heap.size, wrow (a)) ∈ L0 := by rw [hL0]; exact (List.Mem.tail _ (List.Mem.head _))
    have mv1 : (w.heap.size + 1, wrow (0)) ∈ L0 := by rw [hL0]; exact (List.Mem.head _)
    have mr : (g, rrow p) ∈ L0 := by rw [hL0]; exact (List.Mem.tail _ (List.Mem.tail _ (List.Mem.head _)))
    have hlow : Hid (∀ q, q ∈ L0 → q.1 < w.heap.size + 2) := by
      rw [hL0]; intro q hq; have hg0 := lt_of_block R0.out; simp at hq; rcases hq with rfl | rfl | rfl <;> simp <;> omega
    clear hL0
    go_wp2_with (refine wpList_wide rfl _ rfl _ rfl S0 _ mv0 ?_)
    refine (CIN.out _ (S0.get mr)).mono ?_
    rintro e W1 ⟨rfl, hb⟩
    have S1 := S0.keep hb
    clear hb
    obtain ⟨LR, hLR0⟩ : ∃ L, L = [(w.heap.size + 1, wrow 0), (g, rrow p)] := ⟨_, rfl⟩
    have S1r : St w LR W1 := S1.drop (by rw [hLR0]; intro q hq; simp at hq; rcases hq with rfl | rfl; exact mv1; exact mr)
    have n1 : (w.heap.size + 1, wrow 0) ∈ LR := by rw [hLR0]; exact List.Mem.head _
    have nr : (g, rrow p) ∈ LR := by rw [hLR0]; exact List.Mem.tail _ (List.Mem.head _)
    have hLR : Hid (∀ q, q ∈ LR → q.1 ≠ w.heap.size) := by
      rw [hLR0]; intro q hq; have hg0 := lt_of_block R0.out; simp at hq; rcases hq with rfl | rfl <;> simp <;> omega
    clear hLR0
    go_wp2_with fail
    obtain ⟨I, hI0⟩ : ∃ I : Array Value → (Nat → Bool) → Act → World → Prop, I = (fun T0 L act W => ∃ vq0 vq1 vq2 vq3 vq4 vq5 vq6 vq7 vq8, act = ⟨sets T0 [(28, vq0), (29, vq1), (30, vq2), (31, vq3), (32, vq4), (33, vq5), (27, vq6), (34, vq7), (35, vq8)], []⟩ ∧ St w LR W ∧ (L 0 = true → vq0 = wv (a)) ∧ (L 1 = true → vq1 = rptr g) ∧ (L 2 = true → vq2 = rptr g) ∧ (L 3 = true → vq3 = .pointer (some ⟨g, 0, none⟩)) ∧ (L 4 = true → vq4 = wv (PRM p)) ∧ (L 5 = true → vq5 = .tuple #[wv d, .bool m]) ∧ (L 6 = true → vq6 = .tuple #[wv d, .bool m]) ∧ (L 7 = true → vq7 = wv d) ∧ (L 8 = true → vq8 = .bool m) ∧ (L 9 = false → W.heap[w.heap.size]? = some (wrow a)) ∧ (L 9 = true → W.heap[w.heap.size]? = some (wrow d)) ∧ (L 9 = true → L 0 = true)) := ⟨_, rfl⟩
    have HI := Lib.hid hI0; clear hI0
    refine wp_region_frame (by kernel_rfl) (by kernel_rfl) I (fun T0 hT0 => ⟨?start, ?step, ?fin⟩)
    case start =>
      rw [HI.out]
      exact ⟨T0.getD 28 undef, T0.getD 29 undef, T0.getD 30 undef, T0.getD 31 undef, T0.getD 32 undef, T0.getD 33 undef, T0.getD 27 undef, T0.getD 34 undef, T0.getD 35 undef, by (refine Eq.trans ?_ (congrArg (fun T => Act.mk T []) (sets_self [28, 29, 30, 31, 32, 33, 27, 34, 35] T0).symm)); rw [hT0], S1r.drew, nofun, nofun, nofun, nofun, nofun, nofun, nofun, nofun, nofun, fun _ => S1.get mv0, nofun, nofun⟩
    case step =>
      refine ⟨?_, ?_, ?_, ?_, ?_, ?_, ?_, ?_, ?_, ?_, trivial⟩
      · intro L act W hI hno hdep
        rw [HI.out] at hI
        obtain ⟨vq0, vq1, vq2, vq3, vq4, vq5, vq6, vq7, vq8, hact, hS, hq0, hq1, hq2, hq3, hq4, hq5, hq6, hq7, hq8, oq9, nq9, dq9_0⟩ := hI
        subst hact
        rw [hT0]; simp only [sets, List.setIfInBounds_toArray, List.set_cons_zero, List.set_cons_succ]
        with_reducible refine wp_wide (Operand.tmp 4) rfl w.heap.size ?_ (a) (oq9 (noF dq9_0 hno)) ?_
        · rfl
        rw [HI.out]
        exact ⟨wv (a), vq1, vq2, vq3, vq4, vq5, vq6, vq7, vq8, by simp only [sets, Act.put, List.setIfInBounds_toArray, List.set_cons_zero, List.set_cons_succ], hS, fun _ => rfl, keepI hq1 rfl, keepI hq2 rfl, keepI hq3 rfl, keepI hq4 rfl, keepI hq5 rfl, keepI hq6 rfl, keepI hq7 rfl, keepI hq8 rfl, keepF oq9, keepI nq9 rfl, keepD dq9_0 rfl⟩
      · intro L act W hI hno hdep
        rw [HI.out] at hI
        obtain ⟨vq0, vq1, vq2, vq3, vq4, vq5, vq6, vq7, vq8, hact, hS, hq0, hq1, hq2, hq3, hq4, hq5, hq6, hq7, hq8, oq9, nq9, dq9_0⟩ := hI
        subst hact
        rw [hT0]; simp only [sets, List.setIfInBounds_toArray, List.set_cons_zero, List.set_cons_succ]
        go_simp
        rw [HI.out]
        exact ⟨vq0, rptr g, vq2, vq3, vq4, vq5, vq6, vq7, vq8, by simp only [sets, List.setIfInBounds_toArray, List.set_cons_zero, List.set_cons_succ], hS, keepI hq0 rfl, fun _ => rfl, keepI hq2 rfl, keepI hq3 rfl, keepI hq4 rfl, keepI hq5 rfl, keepI hq6 rfl, keepI hq7 rfl, keepI hq8 rfl, keepF oq9, keepI nq9 rfl, keepD dq9_0 rfl⟩
      · intro L act W hI hno hdep
        rw [HI.out] at hI
        obtain ⟨vq0, vq1, vq2, vq3, vq4, vq5, vq6, vq7, vq8, hact, hS, hq0, hq1, hq2, hq3, hq4, hq5, hq6, hq7, hq8, oq9, nq9, dq9_0⟩ := hI
        subst hact
        obtain rfl := hq1 (hdep ⟨1, .data⟩ (by simp) rfl)
        rw [hT0]; simp only [sets, List.setIfInBounds_toArray, List.set_cons_zero, List.set_cons_succ]
        go_simp
        rw [HI.out]
        exact ⟨vq0, rptr g, rptr g, vq3, vq4, vq5, vq6, vq7, vq8, by simp only [sets, List.setIfInBounds_toArray, List.set_cons_zero, List.set_cons_succ], hS, keepI hq0 rfl, fun _ => rfl, fun _ => rfl, keepI hq3 rfl, keepI hq4 rfl, keepI hq5 rfl, keepI hq6 rfl, keepI hq7 rfl, keepI hq8 rfl, keepF oq9, keepI nq9 rfl, keepD dq9_0 rfl⟩
      · intro L act W hI hno hdep
        rw [HI.out] at hI
        obtain ⟨vq0, vq1, vq2, vq3, vq4, vq5, vq6, vq7, vq8, hact, hS, hq0, hq1, hq2, hq3, hq4, hq5, hq6, hq7, hq8, oq9, nq9, dq9_0⟩ := hI
        subst hact
        obtain rfl := hq2 (hdep ⟨2, .data⟩ (by simp) rfl)
        rw [hT0]; simp only [sets, List.setIfInBounds_toArray, List.set_cons_zero, List.set_cons_succ]
        go_simp
        rw [HI.out]
        exact ⟨vq0, vq1, rptr g, .pointer (some ⟨g, 0, none⟩), vq4, vq5, vq6, vq7, vq8, by simp only [sets, List.setIfInBounds_toArray, List.set_cons_zero, List.set_cons_succ], hS, keepI hq0 rfl, keepI hq1 rfl, fun _ => rfl, fun _ => rfl, keepI hq4 rfl, keepI hq5 rfl, keepI hq6 rfl, keepI hq7 rfl, keepI hq8 rfl, keepF oq9, keepI nq9 rfl, keepD dq9_0 rfl⟩
      · intro L act W hI hno hdep
        rw [HI.out] at hI
        obtain ⟨vq0, vq1, vq2, vq3, vq4, vq5, vq6, vq7, vq8, hact, hS, hq0, hq1, hq2, hq3, hq4, hq5, hq6, hq7, hq8, oq9, nq9, dq9_0⟩ := hI
        subst hact
        obtain rfl := hq3 (hdep ⟨3, .data⟩ (by simp) rfl)
        rw [hT0]; simp only [sets, List.setIfInBounds_toArray, List.set_cons_zero, List.set_cons_succ]
        with_reducible refine wp_part (Operand.tmp 31) rfl g 0 ?_ (PRM p) (ring_prime (hS.get nr)) ?_
        · rfl
        rw [HI.out]
        exact ⟨vq0, vq1, vq2, .pointer (some ⟨g, 0, none⟩), wv (PRM p), vq5, vq6, vq7, vq8, by simp only [sets, Act.put, List.setIfInBounds_toArray, List.set_cons_zero, List.set_cons_succ], hS, keepI hq0 rfl, keepI hq1 rfl, keepI hq2 rfl, fun _ => rfl, fun _ => rfl, keepI hq5 rfl, keepI hq6 rfl, keepI hq7 rfl, keepI hq8 rfl, keepF oq9, keepI nq9 rfl, keepD dq9_0 rfl⟩
      · intro L act W hI hno hdep
        rw [HI.out] at hI
        obtain ⟨vq0, vq1, vq2, vq3, vq4, vq5, vq6, vq7, vq8, hact, hS, hq0, hq1, hq2, hq3, hq4, hq5, hq6, hq7, hq8, oq9, nq9, dq9_0⟩ := hI
        subst hact
        obtain rfl := hq0 (hdep ⟨0, .data⟩ (by simp) rfl)
        obtain rfl := hq4 (hdep ⟨4, .data⟩ (by simp) rfl)
        rw [hT0]; simp only [sets, List.setIfInBounds_toArray, List.set_cons_zero, List.set_cons_succ]
        go_simp
        refine (CS.out _).mono ?_
        rintro e W2 ⟨rfl, hb⟩
        rw [HI.out]
        exact ⟨wv (a), vq1, vq2, vq3, wv (PRM p), .tuple #[wv d, .bool m], vq6, vq7, vq8, by simp only [sets, List.setIfInBounds_toArray, List.set_cons_zero, List.set_cons_succ], (hS.keep hb), fun _ => rfl, keepI hq1 rfl, keepI hq2 rfl, keepI hq3 rfl, fun _ => rfl, fun _ => rfl, keepI hq6 rfl, keepI hq7 rfl, keepI hq8 rfl, keepF (fun h => keepH hb (oq9 h)), keepI (fun h => keepH hb (nq9 h)) rfl, keepD dq9_0 rfl⟩
      · intro L act W hI hno hdep
        rw [HI.out] at hI
        obtain ⟨vq0, vq1, vq2, vq3, vq4, vq5, vq6, vq7, vq8, hact, hS, hq0, hq1, hq2, hq3, hq4, hq5, hq6, hq7, hq8, oq9, nq9, dq9_0⟩ := hI
        subst hact
        obtain rfl := hq5 (hdep ⟨5, .data⟩ (by simp) rfl)
        rw [hT0]; simp only [sets, List.setIfInBounds_toArray, List.set_cons_zero, List.set_cons_succ]
        go_simp
        rw [HI.out]
        exact ⟨vq0, vq1, vq2, vq3, vq4, .tuple #[wv d, .bool m], .tuple #[wv d, .bool m], vq7, vq8, by simp only [sets, List.setIfInBounds_toArray, List.set_cons_zero, List.set_cons_succ], hS, keepI hq0 rfl, keepI hq1 rfl, keepI hq2 rfl, keepI hq3 rfl, keepI hq4 rfl, fun _ => rfl, fun _ => rfl, keepI hq7 rfl, keepI hq8 rfl, keepF oq9, keepI nq9 rfl, keepD dq9_0 rfl⟩
      · intro L act W hI hno hdep
        rw [HI.out] at hI
        obtain ⟨vq0, vq1, vq2, vq3, vq4, vq5, vq6, vq7, vq8, hact, hS, hq0, hq1, hq2, hq3, hq4, hq5, hq6, hq7, hq8, oq9, nq9, dq9_0⟩ := hI
        subst hact
        obtain rfl := hq6 (hdep ⟨6, .data⟩ (by simp) rfl)
        rw [hT0]; simp only [sets, List.setIfInBounds_toArray, List.set_cons_zero, List.set_cons_succ]
        go_simp
        rw [HI.out]
        exact ⟨vq0, vq1, vq2, vq3, vq4, vq5, .tuple #[wv d, .bool m], wv d, vq8, by simp only [sets, List.setIfInBounds_toArray, List.set_cons_zero, List.set_cons_succ], hS, keepI hq0 rfl, keepI hq1 rfl, keepI hq2 rfl, keepI hq3 rfl, keepI hq4 rfl, keepI hq5 rfl, fun _ => rfl, fun _ => rfl, keepI hq8 rfl, keepF oq9, keepI nq9 rfl, keepD dq9_0 rfl⟩
      · intro L act W hI hno hdep
        rw [HI.out] at hI
        obtain ⟨vq0, vq1, vq2, vq3, vq4, vq5, vq6, vq7, vq8, hact, hS, hq0, hq1, hq2, hq3, hq4, hq5, hq6, hq7, hq8, oq9, nq9, dq9_0⟩ := hI
        subst hact
        obtain rfl := hq6 (hdep ⟨6, .data⟩ (by simp) rfl)
        rw [hT0]; simp only [sets, List.setIfInBounds_toArray, List.set_cons_zero, List.set_cons_succ]
        go_simp
        rw [HI.out]
        exact ⟨vq0, vq1, vq2, vq3, vq4, vq5, .tuple #[wv d, .bool m], vq7, .bool m, by simp only [sets, List.setIfInBounds_toArray, List.set_cons_zero, List.set_cons_succ], hS, keepI hq0 rfl, keepI hq1 rfl, keepI hq2 rfl, keepI hq3 rfl, keepI hq4 rfl, keepI hq5 rfl, fun _ => rfl, keepI hq7 rfl, fun _ => rfl, keepF oq9, keepI nq9 rfl, keepD dq9_0 rfl⟩
      · intro L act W hI hno hdep
        rw [HI.out] at hI
        obtain ⟨vq0, vq1, vq2, vq3, vq4, vq5, vq6, vq7, vq8, hact, hS, hq0, hq1, hq2, hq3, hq4, hq5, hq6, hq7, hq8, oq9, nq9, dq9_0⟩ := hI
        subst hact
        obtain rfl := hq7 (hdep ⟨7, .data⟩ (by simp) rfl)
        have hg := oq9 hno
        rw [hT0]; simp only [sets, List.setIfInBounds_toArray, List.set_cons_zero, List.set_cons_succ]
        with_reducible refine wp_put (Operand.tmp 4) (Operand.tmp 34) rfl w.heap.size ?_ (d) (a) ?_ hg ?_
        · rfl
        · rfl
        rw [HI.out]
        exact ⟨vq0, vq1, vq2, vq3, vq4, vq5, vq6, wv d, vq8, by simp only [sets, Act.put, List.setIfInBounds_toArray, List.set_cons_zero, List.set_cons_succ], (hS.setRow (Nat.le_refl _) (fun q hq => hLR.out q hq) _), keepI hq0 rfl, keepI hq1 rfl, keepI hq2 rfl, keepI hq3 rfl, keepI hq4 rfl, keepI hq5 rfl, keepI hq6 rfl, fun _ => rfl, keepI hq8 rfl, alsoF, fun _ => setRow_heap W _ _ _ _ _ hg, fun _ => alsoD (hdep ⟨0, .phase⟩ (by simp) rfl)⟩
    case fin =>
      intro L act W hall hI
      rw [HI.out] at hI
      obtain ⟨vq0, vq1, vq2, vq3, vq4, vq5, vq6, vq7, vq8, hact, hS, hq0, hq1, hq2, hq3, hq4, hq5, hq6, hq7, hq8, oq9, nq9, dq9_0⟩ := hI
      subst hact
      obtain rfl := hq0 (hall 0 (by decide))
      obtain rfl := hq1 (hall 1 (by decide))
      obtain rfl := hq2 (hall 2 (by decide))
      obtain rfl := hq3 (hall 3 (by decide))
      obtain rfl := hq4 (hall 4 (by decide))
      obtain rfl := hq5 (hall 5 (by decide))
      obtain rfl := hq6 (hall 6 (by decide))
      obtain rfl := hq7 (hall 7 (by decide))
      obtain rfl := hq8 (hall 8 (by decide))
      have tah := Lib.hid (nq9 (hall 9 (by decide)))
      clear hq0 hq1 hq2 hq3 hq4 hq5 hq6 hq7 hq8 oq9 nq9 dq9_0 hall
      rw [hT0]; simp only [sets, List.setIfInBounds_toArray, List.set_cons_zero, List.set_cons_succ]
      clear hT0 HI
      have S7 := hS.cons tah.out
      go_wp2_with (first | (refine wpList_wide rfl _ rfl _ rfl S7 _ (List.Mem.head _) ?_) | (refine wpList_put rfl _ _ rfl (w.heap.size + 1) rfl d 0 rfl (hS.get n1) ?_))
      refine bodyPost_ret (results_cell_row rfl _ _ (w.heap.size + 1) 73 (limbs4 (d)) (0, 0) _ rfl (set_row (hS.get n1)) Try.underlying73 rfl (by kernel_rfl)) rfl ?_
      exact ⟨by rw [hzd.out], below_setRow hS.below (by omega) _⟩
/-- A number of 256 bits, and perhaps one more. -/
theorem one_c (g a : Nat) (p m : Bool) (ha : a < W256) (w : World) (hr : w.heap[g]? = some (rrow p)) :
    Calls Try.prog 72 #[rptr g, wv a, .bool m] w fun e w' => e = .returned (wv ((a + (if m then W256 else 0)) % PRM p)) ∧ Below w.heap.size w w' := by
  have hp := prm_lt p; have hg := gap_lt p; have hpg := prm_gap p; have hs := gap_small p; have hb := prm_big p; have hw : W256 = 115792089237316195423570985008687907853269984665640564039457584007913129639936 := by decide +kernel
  cases m with
  | false => simpa using one_f g a p ha w hr
  | true =>
    have hz : ∀ x, x % PRM p < W256 := fun x => Nat.lt_trans (Nat.mod_lt _ (by omega)) hp
    simp only [if_true]
    rw [← one_more]
    by_cases h1 : W256 ≤ a + GAP p
    · obtain ⟨s, hs1⟩ : ∃ s, s = a + GAP p - W256 := ⟨_, rfl⟩
      have e1 : (a + GAP p) % W256 = s := by rw [hs1, Nat.mod_eq_sub_mod h1, Nat.mod_eq_of_lt (by omega)]
      refine one_step g a p ha s true e1 (by simpa using h1) _ (hz _) w hr (fun W h => ?_)
      have hsl : s < W256 := by omega
      refine (one_step g s p hsl (s + GAP p) false (Nat.mod_eq_of_lt (by omega)) (by simp; omega) _ (hz _) W h (fun W' h' => one_f g (s + GAP p) p (by omega) W' h')).mono fun e w' he => ?_
      rw [one_more, show s + W256 = a + GAP p by omega] at he
      exact he
    · refine one_step g a p ha (a + GAP p) false (Nat.mod_eq_of_lt (by omega)) (by simpa using h1) _ (hz _) w hr (fun W h => one_f g (a + GAP p) p (by omega) W h)
end Go.Proofs.Ytbaifchbpnmkpaa
namespace Go.Proofs.Ytbaifchbpnmkpaa
open Go.RowKit
theorem mul_n (a b : Nat) (ha : a < W256) (hb : b < W256) (l h : Nat) (hl : a * b % W256 = l) (hh : a * b / W256 = h) (W : World) :
    Calls Try.prog 83 #[wv a, wv b] W fun e w' => e = .returned (.tuple #[wv l, wv h]) ∧ Below W.heap.size W w' := by
  refine (mul_c a b ha hb W).mono ?_
  rintro e w' ⟨y, z, -, -, ⟨hy, hz⟩, rfl, hb⟩
  rw [hy, hz, hl, hh]; exact ⟨rfl, hb⟩
theorem of_n (k : Int) (n : Nat) (hk : k = n) (hn : n < 18446744073709551616) (W : World) : Calls Try.prog 69 #[.int .u64 k] W fun e w' => e = .returned (wv n) ∧ Below W.heap.size W w' := by
  subst hk
  refine (of_c (n : Int) (by omega) (by omega) W).mono ?_
  rintro e w' ⟨z, -, hz, rfl, hb⟩
  rw [hz]; exact ⟨rfl, hb⟩
/-- What Fold's loop holds: both numbers in their variables, and the rest that they have. -/
structure FoldInv (w : World) (p : Bool) (LR : List (Nat × Obj)) (t k low high : Nat) (wr : World) : Prop where
  st : St w LR wr
  lo : wr.heap[w.heap.size]? = some (wrow low)
  hi : wr.heap[w.heap.size + 1]? = some (wrow high)
  lowW : low < W256
  highW : high < W256
  rest : (low + W256 * high) % PRM p = t
  ghost : k = low + W256 * high
theorem fold_down (p : Bool) (low high pl ph s h2 : Nat) (m : Bool) (hlow : low < W256) (hhigh : high < W256) (h0 : high ≠ 0) (hpl : high * GAP p % W256 = pl) (hph : high * GAP p / W256 = ph) (hs : (low + pl) % W256 = s) (hm : decide (W256 ≤ low + pl) = m)
    (hh2 : h2 = ph + (if m then 1 else 0)) : s < W256 ∧ ph < GAP p ∧ h2 < W256 ∧ s + W256 * h2 = low + high * GAP p ∧ (s + W256 * h2) % PRM p = (low + W256 * high) % PRM p ∧ s + W256 * h2 < low + W256 * high := by
  have hg := prm_gap p; have hgs := gap_small p; have hW : W256 = 115792089237316195423570985008687907853269984665640564039457584007913129639936 := by decide +kernel
  have hpos : 0 < W256 := by decide
  have hphl : ph < GAP p := by
    rw [← hph]
    refine Nat.div_lt_of_lt_mul ?_
    exact Nat.mul_lt_mul_of_pos_right hhigh (by have := prm_lt p; omega)
  have hpll : pl < W256 := by rw [← hpl]; exact Nat.mod_lt _ hpos
  have e1 : high * GAP p = pl + W256 * ph := by rw [← hpl, ← hph]; exact (Nat.mod_add_div _ _).symm
  have hsl : s < W256 := by rw [← hs]; exact Nat.mod_lt _ hpos
  have e2 : s + W256 * h2 = low + high * GAP p := by
    rw [e1, hh2]
    cases m with
    | true =>
      have hc : W256 ≤ low + pl := by simpa using hm
      rw [Nat.mod_eq_sub_mod hc, Nat.mod_eq_of_lt (by omega)] at hs
      simp only [if_true, Nat.mul_add]; omega
    | false =>
      have hc : ¬ W256 ≤ low + pl := by simpa using hm
      rw [Nat.mod_eq_of_lt (by omega)] at hs
      simp; omega
  have e3 : low + W256 * high = (low + high * GAP p) + PRM p * high := by
    rw [← hg, Nat.add_mul, Nat.mul_comm high]; omega
  refine ⟨hsl, hphl, by rw [hh2]; split <;> omega, e2, ?_, ?_⟩
  · rw [e2, e3, Nat.add_mul_mod_self_left]
  · rw [e2, e3]
    have : 0 < PRM p * high := Nat.mul_pos (by have := prm_big p; omega) (by omega)
    omega
set_option maxRecDepth 100000 in
set_option maxHeartbeats 16000000 in
/-- Fold: 512 bits. -/
theorem fold_c (g a c : Nat) (p : Bool) (ha : a < W256) (hc : c < W256) (w : World) (hr : w.heap[g]? = some (rrow p)) :
    Calls Try.prog 63 #[rptr g, wv a, wv c] w fun e w' => e = .returned (wv ((a + W256 * c) % PRM p)) ∧ Below w.heap.size w w' := by
  have q1 := eql_wide0; have q2 := wide_guard
  have R0 := Lib.hid hr
  have HA := Lib.hid ha; have HC := Lib.hid hc
  obtain ⟨t, ht⟩ : ∃ t, (a + W256 * c) % PRM p = t := ⟨_, rfl⟩
  have HT := Lib.hid ht
  rw [ht]
  clear hr ha hc ht
  go_enter Try.func63, Try.ntmps63
  have S0 := (((((St.nil w).cons R0.out)).alloc (wrow (a)) (w.heap.size) rfl).alloc (wrow (c)) (w.heap.size + 1) (by simp)).alloc (wrow (0)) (w.heap.size + 1 + 1) (by simp)
  obtain ⟨L0, hL0⟩ : ∃ L, L = [(w.heap.size + 1 + 1, wrow (0)), (w.heap.size + 1, wrow (c)), (w.heap.size, wrow (a)), (g, rrow p)] := ⟨_, rfl⟩
  rw [← hL0] at S0
  have mv0 : (w.heap.size, wrow (a)) ∈ L0 := by rw [hL0]; exact (List.Mem.tail _ (List.Mem.tail _ (List.Mem.head _)))
  have mv1 : (w.heap.size + 1, wrow (c)) ∈ L0 := by rw [hL0]; exact (List.Mem.tail _ (List.Mem.head _))
  have mv2 : (w.heap.size + 1 + 1, wrow (0)) ∈ L0 := by rw [hL0]; exact (List.Mem.head _)
  have mr : (g, rrow p) ∈ L0 := by rw [hL0]; exact (List.Mem.tail _ (List.Mem.tail _ (List.Mem.tail _ (List.Mem.head _))))
  have hlow : Hid (∀ q, q ∈ L0 → q.1 < w.heap.size + 3) := by
    rw [hL0]; intro q hq; have hg0 := lt_of_block R0.out; simp at hq; rcases hq with rfl | rfl | rfl | rfl <;> simp <;> omega
  clear hL0
  obtain ⟨LR, hLR0⟩ : ∃ L, L = [(w.heap.size + 1 + 1, wrow 0), (g, rrow p)] := ⟨_, rfl⟩
  have nr : (g, rrow p) ∈ LR := by rw [hLR0]; exact List.Mem.tail _ (List.Mem.head _)
  have n2 : (w.heap.size + 1 + 1, wrow 0) ∈ LR := by rw [hLR0]; exact List.Mem.head _
  have hLR : Hid (∀ q, q ∈ LR → q.1 ≠ w.heap.size ∧ q.1 ≠ w.heap.size + 1 ∧ q.1 < w.heap.size + 3) := by
    rw [hLR0]; intro q hq; have hg0 := lt_of_block R0.out; simp at hq; rcases hq with rfl | rfl <;> simp <;> omega
  have I0 : Hid (FoldInv w p LR t (a + W256 * c) a c _) := ⟨S0.drop (by rw [hLR0]; intro q hq; simp at hq; rcases hq with rfl | rfl; exact mv2; exact mr), S0.get mv0, S0.get mv1, HA.out, HC.out, HT.out, rfl⟩
  clear hLR0
  go_wp2_with fail
  go_loopg [10] (a + W256 * c) (fun k s10 wr => ∃ low high, Hid (FoldInv w p LR t k low high wr))
  case atStart => exact ⟨a, c, I0⟩
  case round =>
    obtain ⟨low, high, HJ⟩ := hrel
    have S1 := HJ.out.st
    have J4 := Lib.hid HJ.out.lo; have J5 := Lib.hid HJ.out.hi
    by_cases h0 : high = 0
    · have e0 : weq high 0 = true := eql_wide_iff HJ.out.highW (by decide) h0
      have hzt : Hid (low % PRM p = t) := by have := HJ.out.rest; rw [h0, Nat.mul_zero, Nat.add_zero] at this; exact this
      have CO := Lib.hid (fun W h => one_f g low p HJ.out.lowW W h)
      clear h0
      have S2 := (S1.cons J5.out).cons J4.out
      go_wp2_with (first | (refine wpList_wide rfl _ rfl _ rfl (S2) _ (List.Mem.head _) ?_) | (refine wpList_wide rfl _ rfl _ rfl (S2) _ (List.Mem.tail _ (List.Mem.head _)) ?_) | fail)
      refine (CO.out _ (S1.get nr)).mono ?_
      rintro e W3 ⟨rfl, hb⟩
      have S3 := S1.keep hb
      clear hb
      go_wp2_with (refine wpList_put rfl _ _ rfl (w.heap.size + 1 + 1) rfl (low % PRM p) 0 rfl (S3.get n2) ?_)
      refine bodyPost_ret (results_cell_row rfl _ _ (w.heap.size + 1 + 1) 73 (limbs4 (low % PRM p)) (0, 0) _ rfl (set_row (S3.get n2)) Try.underlying73 rfl (by kernel_rfl)) rfl ?_
      exact ⟨by rw [hzt.out], below_setRow S3.below (by omega) _⟩
    · have e0 : weq high 0 = false := weq_false HJ.out.highW (by decide) h0
      obtain ⟨pl, hpl⟩ : ∃ x, high * GAP p % W256 = x := ⟨_, rfl⟩
      obtain ⟨ph, hph⟩ : ∃ x, high * GAP p / W256 = x := ⟨_, rfl⟩
      obtain ⟨s, hs⟩ : ∃ x, (low + pl) % W256 = x := ⟨_, rfl⟩
      obtain ⟨m, hm⟩ : ∃ x, decide (W256 ≤ low + pl) = x := ⟨_, rfl⟩
      obtain ⟨h2, hh2⟩ : ∃ x, x = ph + (if m then 1 else 0) := ⟨_, rfl⟩
      have FD := Lib.hid (fold_down p low high pl ph s h2 m HJ.out.lowW HJ.out.highW h0 hpl hph hs hm hh2)
      have HH2 := Lib.hid hh2
      have hplW : pl < W256 := by rw [← hpl]; exact Nat.mod_lt _ (by decide)
      have CM := Lib.hid (fun W => mul_n high (GAP p) HJ.out.highW (gap_lt p) pl ph hpl hph W)
      have CA := Lib.hid (fun W => add_n low pl HJ.out.lowW hplW s m hs hm W)
      have CO := Lib.hid (fun W => of_n 1 1 rfl (by decide) W)
      clear h0 hpl hph hs hm hh2 hplW
      have hbase : w.heap.size + 3 ≤ wr.heap.size := by have := lt_of_block (S1.get n2); omega
      obtain ⟨LA, hLA0⟩ : ∃ L, L = (w.heap.size + 1, wrow high) :: (w.heap.size, wrow low) :: LR := ⟨_, rfl⟩
      have SA : St w LA wr := by rw [hLA0]; exact (S1.cons J4.out).cons J5.out
      have ja5 : (w.heap.size + 1, wrow high) ∈ LA := by rw [hLA0]; exact List.Mem.head _
      have ja4 : (w.heap.size, wrow low) ∈ LA := by rw [hLA0]; exact List.Mem.tail _ (List.Mem.head _)
      have jar : (g, rrow p) ∈ LA := by rw [hLA0]; exact List.Mem.tail _ (List.Mem.tail _ nr)
      have hRA : Hid (∀ q, q ∈ LR → q ∈ LA) := by rw [hLA0]; exact fun q hq => List.Mem.tail _ (List.Mem.tail _ hq)
      have hlow : Hid (∀ q, q ∈ LA → q.1 < w.heap.size + 3) := by
        rw [hLA0]; intro q hq; rcases List.mem_cons.1 hq with rfl | hq
        · show w.heap.size + 1 < _; omega
        · rcases List.mem_cons.1 hq with rfl | hq
          · show w.heap.size < _; omega
          · exact (hLR.out q hq).2.2
      clear hLA0
      go_wp2_with (first | (refine wpList_wide rfl _ rfl _ rfl (SA) _ ja5 ?_) | fail)
      obtain ⟨I, hI0⟩ : ∃ I : Array Value → (Nat → Bool) → Act → World → Prop, I = (fun T0 L act W => ∃ vq0 vq1 vq2 vq3 vq4 vq5 vq6 vq7 vq8 vq9 vq10, act = ⟨sets T0 [(15, vq0), (16, vq1), (17, vq2), (18, vq3), (19, vq4), (20, vq5), (14, vq6), (21, vq7), (22, vq8), (7, vq9), (8, vq10)], []⟩ ∧ St w LA W ∧ w.heap.size + 3 ≤ W.heap.size ∧ (L 0 = true → vq0 = wv (high)) ∧ (L 1 = true → vq1 = rptr g) ∧ (L 2 = true → vq2 = rptr g) ∧ (L 3 = true → vq3 = .pointer (some ⟨g, 4, none⟩)) ∧ (L 4 = true → vq4 = wv (GAP p)) ∧ (L 5 = true → vq5 = .tuple #[wv pl, wv ph]) ∧ (L 6 = true → vq6 = .tuple #[wv pl, wv ph]) ∧ (L 7 = true → vq7 = wv pl) ∧ (L 8 = true → vq8 = wv ph) ∧ (L 9 = true → Made W 73 (w.heap.size + 3) vq9 (L 11) (limbs4 0) (limbs4 (pl))) ∧ (L 11 = true → L 9 = true) ∧ (L 10 = true → Made W 73 (w.heap.size + 3) vq10 (L 12) (limbs4 0) (limbs4 (ph))) ∧ (L 12 = true → L 10 = true) ∧ (L 9 = true → L 10 = true → vq9 ≠ vq10)) := ⟨_, rfl⟩
      have HI := Lib.hid hI0; clear hI0
      refine wp_region_frame (by kernel_rfl) (by kernel_rfl) I (fun T0 hT0 => ⟨?start, ?step, ?fin⟩)
      case start =>
        rw [HI.out]
        exact ⟨T0.getD 15 undef, T0.getD 16 undef, T0.getD 17 undef, T0.getD 18 undef, T0.getD 19 undef, T0.getD 20 undef, T0.getD 14 undef, T0.getD 21 undef, T0.getD 22 undef, T0.getD 7 undef, T0.getD 8 undef, by (refine Eq.trans ?_ (congrArg (fun T => Act.mk T []) (sets_self [15, 16, 17, 18, 19, 20, 14, 21, 22, 7, 8] T0).symm)); rw [hT0], SA.drew, hbase, nofun, nofun, nofun, nofun, nofun, nofun, nofun, nofun, nofun, nofun, nofun, nofun, nofun, nofun⟩
      case step =>
        refine ⟨?_, ?_, ?_, ?_, ?_, ?_, ?_, ?_, ?_, ?_, ?_, ?_, ?_, trivial⟩
        · intro L act W hI hno hdep
          rw [HI.out] at hI
          obtain ⟨vq0, vq1, vq2, vq3, vq4, vq5, vq6, vq7, vq8, vq9, vq10, hact, hS, hsz, hq0, hq1, hq2, hq3, hq4, hq5, hq6, hq7, hq8, mq9, dq11_9, mq10, dq12_10, eq9_10⟩ := hI
          subst hact
          rw [hT0]; simp only [sets, List.setIfInBounds_toArray, List.set_cons_zero, List.set_cons_succ]
          with_reducible refine wp_wide (Operand.tmp 5) rfl (w.heap.size + 1) ?_ (high) (hS.get ja5) ?_
          · rfl
          rw [HI.out]
          exact ⟨wv (high), vq1, vq2, vq3, vq4, vq5, vq6, vq7, vq8, vq9, vq10, by simp only [sets, Act.put, List.setIfInBounds_toArray, List.set_cons_zero, List.set_cons_succ], hS, hsz, fun _ => rfl, keepI hq1 rfl, keepI hq2 rfl, keepI hq3 rfl, keepI hq4 rfl, keepI hq5 rfl, keepI hq6 rfl, keepI hq7 rfl, keepI hq8 rfl, fun h => by rw [also_of (by decide)] at h ⊢; exact mq9 h, keepD dq11_9 rfl, fun h => by rw [also_of (by decide)] at h ⊢; exact mq10 h, keepD dq12_10 rfl, fun h h' => eq9_10 (by rw [also_of (by decide)] at h; exact h) (by rw [also_of (by decide)] at h'; exact h')⟩
        · intro L act W hI hno hdep
          rw [HI.out] at hI
          obtain ⟨vq0, vq1, vq2, vq3, vq4, vq5, vq6, vq7, vq8, vq9, vq10, hact, hS, hsz, hq0, hq1, hq2, hq3, hq4, hq5, hq6, hq7, hq8, mq9, dq11_9, mq10, dq12_10, eq9_10⟩ := hI
          subst hact
          rw [hT0]; simp only [sets, List.setIfInBounds_toArray, List.set_cons_zero, List.set_cons_succ]
          go_simp
          rw [HI.out]
          exact ⟨vq0, rptr g, vq2, vq3, vq4, vq5, vq6, vq7, vq8, vq9, vq10, by simp only [sets, List.setIfInBounds_toArray, List.set_cons_zero, List.set_cons_succ], hS, hsz, keepI hq0 rfl, fun _ => rfl, keepI hq2 rfl, keepI hq3 rfl, keepI hq4 rfl, keepI hq5 rfl, keepI hq6 rfl, keepI hq7 rfl, keepI hq8 rfl, fun h => by rw [also_of (by decide)] at h ⊢; exact mq9 h, keepD dq11_9 rfl, fun h => by rw [also_of (by decide)] at h ⊢; exact mq10 h, keepD dq12_10 rfl, fun h h' => eq9_10 (by rw [also_of (by decide)] at h; exact h) (by rw [also_of (by decide)] at h'; exact h')⟩
        · intro L act W hI hno hdep
          rw [HI.out] at hI
          obtain ⟨vq0, vq1, vq2, vq3, vq4, vq5, vq6, vq7, vq8, vq9, vq10, hact, hS, hsz, hq0, hq1, hq2, hq3, hq4, hq5, hq6, hq7, hq8, mq9, dq11_9, mq10, dq12_10, eq9_10⟩ := hI
          subst hact
          obtain rfl := hq1 (hdep ⟨1, .data⟩ (by simp) rfl)
          rw [hT0]; simp only [sets, List.setIfInBounds_toArray, List.set_cons_zero, List.set_cons_succ]
          go_simp
          rw [HI.out]
          exact ⟨vq0, rptr g, rptr g, vq3, vq4, vq5, vq6, vq7, vq8, vq9, vq10, by simp only [sets, List.setIfInBounds_toArray, List.set_cons_zero, List.set_cons_succ], hS, hsz, keepI hq0 rfl, fun _ => rfl, fun _ => rfl, keepI hq3 rfl, keepI hq4 rfl, keepI hq5 rfl, keepI hq6 rfl, keepI hq7 rfl, keepI hq8 rfl, fun h => by rw [also_of (by decide)] at h ⊢; exact mq9 h, keepD dq11_9 rfl, fun h => by rw [also_of (by decide)] at h ⊢; exact mq10 h, keepD dq12_10 rfl, fun h h' => eq9_10 (by rw [also_of (by decide)] at h; exact h) (by rw [also_of (by decide)] at h'; exact h')⟩
        · intro L act W hI hno hdep
          rw [HI.out] at hI
          obtain ⟨vq0, vq1, vq2, vq3, vq4, vq5, vq6, vq7, vq8, vq9, vq10, hact, hS, hsz, hq0, hq1, hq2, hq3, hq4, hq5, hq6, hq7, hq8, mq9, dq11_9, mq10, dq12_10, eq9_10⟩ := hI
          subst hact
          obtain rfl := hq2 (hdep ⟨2, .data⟩ (by simp) rfl)
          rw [hT0]; simp only [sets, List.setIfInBounds_toArray, List.set_cons_zero, List.set_cons_succ]
          go_simp
          rw [HI.out]
          exact ⟨vq0, vq1, rptr g, .pointer (some ⟨g, 4, none⟩), vq4, vq5, vq6, vq7, vq8, vq9, vq10, by simp only [sets, List.setIfInBounds_toArray, List.set_cons_zero, List.set_cons_succ], hS, hsz, keepI hq0 rfl, keepI hq1 rfl, fun _ => rfl, fun _ => rfl, keepI hq4 rfl, keepI hq5 rfl, keepI hq6 rfl, keepI hq7 rfl, keepI hq8 rfl, fun h => by rw [also_of (by decide)] at h ⊢; exact mq9 h, keepD dq11_9 rfl, fun h => by rw [also_of (by decide)] at h ⊢; exact mq10 h, keepD dq12_10 rfl, fun h h' => eq9_10 (by rw [also_of (by decide)] at h; exact h) (by rw [also_of (by decide)] at h'; exact h')⟩
        · intro L act W hI hno hdep
          rw [HI.out] at hI
          obtain ⟨vq0, vq1, vq2, vq3, vq4, vq5, vq6, vq7, vq8, vq9, vq10, hact, hS, hsz, hq0, hq1, hq2, hq3, hq4, hq5, hq6, hq7, hq8, mq9, dq11_9, mq10, dq12_10, eq9_10⟩ := hI
          subst hact
          obtain rfl := hq3 (hdep ⟨3, .data⟩ (by simp) rfl)
          rw [hT0]; simp only [sets, List.setIfInBounds_toArray, List.set_cons_zero, List.set_cons_succ]
          with_reducible refine wp_part (Operand.tmp 18) rfl g 4 ?_ (GAP p) (ring_gap (hS.get jar)) ?_
          · rfl
          rw [HI.out]
          exact ⟨vq0, vq1, vq2, .pointer (some ⟨g, 4, none⟩), wv (GAP p), vq5, vq6, vq7, vq8, vq9, vq10, by simp only [sets, Act.put, List.setIfInBounds_toArray, List.set_cons_zero, List.set_cons_succ], hS, hsz, keepI hq0 rfl, keepI hq1 rfl, keepI hq2 rfl, fun _ => rfl, fun _ => rfl, keepI hq5 rfl, keepI hq6 rfl, keepI hq7 rfl, keepI hq8 rfl, fun h => by rw [also_of (by decide)] at h ⊢; exact mq9 h, keepD dq11_9 rfl, fun h => by rw [also_of (by decide)] at h ⊢; exact mq10 h, keepD dq12_10 rfl, fun h h' => eq9_10 (by rw [also_of (by decide)] at h; exact h) (by rw [also_of (by decide)] at h'; exact h')⟩
        · intro L act W hI hno hdep
          rw [HI.out] at hI
          obtain ⟨vq0, vq1, vq2, vq3, vq4, vq5, vq6, vq7, vq8, vq9, vq10, hact, hS, hsz, hq0, hq1, hq2, hq3, hq4, hq5, hq6, hq7, hq8, mq9, dq11_9, mq10, dq12_10, eq9_10⟩ := hI
          subst hact
          obtain rfl := hq0 (hdep ⟨0, .data⟩ (by simp) rfl)
          obtain rfl := hq4 (hdep ⟨4, .data⟩ (by simp) rfl)
          rw [hT0]; simp only [sets, List.setIfInBounds_toArray, List.set_cons_zero, List.set_cons_succ]
          go_simp
          refine (CM.out _).mono ?_
          rintro e W2 ⟨rfl, hb⟩
          have hsz2 := Nat.le_trans hsz hb.size
          rw [HI.out]
          exact ⟨wv (high), vq1, vq2, vq3, wv (GAP p), .tuple #[wv pl, wv ph], vq6, vq7, vq8, vq9, vq10, by simp only [sets, List.setIfInBounds_toArray, List.set_cons_zero, List.set_cons_succ], (hS.keep hb), hsz2, fun _ => rfl, keepI hq1 rfl, keepI hq2 rfl, keepI hq3 rfl, fun _ => rfl, fun _ => rfl, keepI hq6 rfl, keepI hq7 rfl, keepI hq8 rfl, fun h => by rw [also_of (by decide)] at h ⊢; exact (fun h => (mq9 h).keep hb) h, keepD dq11_9 rfl, fun h => by rw [also_of (by decide)] at h ⊢; exact (fun h => (mq10 h).keep hb) h, keepD dq12_10 rfl, fun h h' => eq9_10 (by rw [also_of (by decide)] at h; exact h) (by rw [also_of (by decide)] at h'; exact h')⟩
        · intro L act W hI hno hdep
          rw [HI.out] at hI
          obtain ⟨vq0, vq1, vq2, vq3, vq4, vq5, vq6, vq7, vq8, vq9, vq10, hact, hS, hsz, hq0, hq1, hq2, hq3, hq4, hq5, hq6, hq7, hq8, mq9, dq11_9, mq10, dq12_10, eq9_10⟩ := hI
          subst hact
          obtain rfl := hq5 (hdep ⟨5, .data⟩ (by simp) rfl)
          rw [hT0]; simp only [sets, List.setIfInBounds_toArray, List.set_cons_zero, List.set_cons_succ]
          go_simp
          rw [HI.out]
          exact ⟨vq0, vq1, vq2, vq3, vq4, .tuple #[wv pl, wv ph], .tuple #[wv pl, wv ph], vq7, vq8, vq9, vq10, by simp only [sets, List.setIfInBounds_toArray, List.set_cons_zero, List.set_cons_succ], hS, hsz, keepI hq0 rfl, keepI hq1 rfl, keepI hq2 rfl, keepI hq3 rfl, keepI hq4 rfl, fun _ => rfl, fun _ => rfl, keepI hq7 rfl, keepI hq8 rfl, fun h => by rw [also_of (by decide)] at h ⊢; exact mq9 h, keepD dq11_9 rfl, fun h => by rw [also_of (by decide)] at h ⊢; exact mq10 h, keepD dq12_10 rfl, fun h h' => eq9_10 (by rw [also_of (by decide)] at h; exact h) (by rw [also_of (by decide)] at h'; exact h')⟩
        · intro L act W hI hno hdep
          rw [HI.out] at hI
          obtain ⟨vq0, vq1, vq2, vq3, vq4, vq5, vq6, vq7, vq8, vq9, vq10, hact, hS, hsz, hq0, hq1, hq2, hq3, hq4, hq5, hq6, hq7, hq8, mq9, dq11_9, mq10, dq12_10, eq9_10⟩ := hI
          subst hact
          obtain rfl := hq6 (hdep ⟨6, .data⟩ (by simp) rfl)
          rw [hT0]; simp only [sets, List.setIfInBounds_toArray, List.set_cons_zero, List.set_cons_succ]
          go_simp
          rw [HI.out]
          exact ⟨vq0, vq1, vq2, vq3, vq4, vq5, .tuple #[wv pl, wv ph], wv pl, vq8, vq9, vq10, by simp only [sets, List.setIfInBounds_toArray, List.set_cons_zero, List.set_cons_succ], hS, hsz, keepI hq0 rfl, keepI hq1 rfl, keepI hq2 rfl, keepI hq3 rfl, keepI hq4 rfl, keepI hq5 rfl, fun _ => rfl, fun _ => rfl, keepI hq8 rfl, fun h => by rw [also_of (by decide)] at h ⊢; exact mq9 h, keepD dq11_9 rfl, fun h => by rw [also_of (by decide)] at h ⊢; exact mq10 h, keepD dq12_10 rfl, fun h h' => eq9_10 (by rw [also_of (by decide)] at h; exact h) (by rw [also_of (by decide)] at h'; exact h')⟩
        · intro L act W hI hno hdep
          rw [HI.out] at hI
          obtain ⟨vq0, vq1, vq2, vq3, vq4, vq5, vq6, vq7, vq8, vq9, vq10, hact, hS, hsz, hq0, hq1, hq2, hq3, hq4, hq5, hq6, hq7, hq8, mq9, dq11_9, mq10, dq12_10, eq9_10⟩ := hI
          subst hact
          obtain rfl := hq6 (hdep ⟨6, .data⟩ (by simp) rfl)
          rw [hT0]; simp only [sets, List.setIfInBounds_toArray, List.set_cons_zero, List.set_cons_succ]
          go_simp
          rw [HI.out]
          exact ⟨vq0, vq1, vq2, vq3, vq4, vq5, .tuple #[wv pl, wv ph], vq7, wv ph, vq9, vq10, by simp only [sets, List.setIfInBounds_toArray, List.set_cons_zero, List.set_cons_succ], hS, hsz, keepI hq0 rfl, keepI hq1 rfl, keepI hq2 rfl, keepI hq3 rfl, keepI hq4 rfl, keepI hq5 rfl, fun _ => rfl, keepI hq7 rfl, fun _ => rfl, fun h => by rw [also_of (by decide)] at h ⊢; exact mq9 h, keepD dq11_9 rfl, fun h => by rw [also_of (by decide)] at h ⊢; exact mq10 h, keepD dq12_10 rfl, fun h h' => eq9_10 (by rw [also_of (by decide)] at h; exact h) (by rw [also_of (by decide)] at h'; exact h')⟩
        · intro L act W hI hno hdep
          rw [HI.out] at hI
          obtain ⟨vq0, vq1, vq2, vq3, vq4, vq5, vq6, vq7, vq8, vq9, vq10, hact, hS, hsz, hq0, hq1, hq2, hq3, hq4, hq5, hq6, hq7, hq8, mq9, dq11_9, mq10, dq12_10, eq9_10⟩ := hI
          subst hact
          have hsF := noF dq11_9 hno
          rw [hT0]; simp only [sets, List.setIfInBounds_toArray, List.set_cons_zero, List.set_cons_succ]
          go_simp
          rw [HI.out]
          exact ⟨vq0, vq1, vq2, vq3, vq4, vq5, vq6, vq7, vq8, (.pointer (some ⟨W.heap.size, 0, none⟩)), vq10, by simp only [sets, List.setIfInBounds_toArray, List.set_cons_zero, List.set_cons_succ], (hS.alloc0 _), (by simp at *; omega), keepI hq0 rfl, keepI hq1 rfl, keepI hq2 rfl, keepI hq3 rfl, keepI hq4 rfl, keepI hq5 rfl, keepI hq6 rfl, keepI hq7 rfl, keepI hq8 rfl, fun _ => Made.new' W _ _ (by omega) _ _ (by simp [also, hsF]), keepD dq11_9 rfl, fun h => by rw [also_of (by decide)] at h ⊢; exact (fun h => (mq10 h).alloc _) h, keepD dq12_10 rfl, fun _ h e => (mq10 (by rw [also_of (by decide)] at h; exact h)).ne e.symm⟩
        · intro L act W hI hno hdep
          rw [HI.out] at hI
          obtain ⟨vq0, vq1, vq2, vq3, vq4, vq5, vq6, vq7, vq8, vq9, vq10, hact, hS, hsz, hq0, hq1, hq2, hq3, hq4, hq5, hq6, hq7, hq8, mq9, dq11_9, mq10, dq12_10, eq9_10⟩ := hI
          subst hact
          have hsF := noF dq12_10 hno
          rw [hT0]; simp only [sets, List.setIfInBounds_toArray, List.set_cons_zero, List.set_cons_succ]
          go_simp
          rw [HI.out]
          exact ⟨vq0, vq1, vq2, vq3, vq4, vq5, vq6, vq7, vq8, vq9, (.pointer (some ⟨W.heap.size, 0, none⟩)), by simp only [sets, List.setIfInBounds_toArray, List.set_cons_zero, List.set_cons_succ], (hS.alloc0 _), (by simp at *; omega), keepI hq0 rfl, keepI hq1 rfl, keepI hq2 rfl, keepI hq3 rfl, keepI hq4 rfl, keepI hq5 rfl, keepI hq6 rfl, keepI hq7 rfl, keepI hq8 rfl, fun h => by rw [also_of (by decide)] at h ⊢; exact (fun h => (mq9 h).alloc _) h, keepD dq11_9 rfl, fun _ => Made.new' W _ _ (by omega) _ _ (by simp [also, hsF]), keepD dq12_10 rfl, fun h _ e => (mq9 (by rw [also_of (by decide)] at h; exact h)).ne e⟩
        · intro L act W hI hno hdep
          rw [HI.out] at hI
          obtain ⟨vq0, vq1, vq2, vq3, vq4, vq5, vq6, vq7, vq8, vq9, vq10, hact, hS, hsz, hq0, hq1, hq2, hq3, hq4, hq5, hq6, hq7, hq8, mq9, dq11_9, mq10, dq12_10, eq9_10⟩ := hI
          subst hact
          obtain rfl := hq7 (hdep ⟨7, .data⟩ (by simp) rfl)
          rw [hT0]; simp only [sets, List.setIfInBounds_toArray, List.set_cons_zero, List.set_cons_succ]
          with_reducible refine wp_put_made (Operand.tmp 7) (Operand.tmp 21) rfl vq9 ?_ (pl) ?_ _ _ _ (mq9 (hdep ⟨9, .data⟩ (by simp) rfl)) hno ?_
          · rfl
          · rfl
          intro gx hgx hgn hg
          subst hgx
          rw [HI.out]
          exact ⟨vq0, vq1, vq2, vq3, vq4, vq5, vq6, wv pl, vq8, (.pointer (some ⟨gx, 0, none⟩)), vq10, by simp only [sets, Act.put, List.setIfInBounds_toArray, List.set_cons_zero, List.set_cons_succ], (hS.setRow (by omega) (fun p hp => Nat.ne_of_lt (Nat.lt_of_lt_of_le (hlow.out p hp) hgn)) _), (by simpa [World.setRow] using hsz), keepI hq0 rfl, keepI hq1 rfl, keepI hq2 rfl, keepI hq3 rfl, keepI hq4 rfl, keepI hq5 rfl, keepI hq6 rfl, fun _ => rfl, keepI hq8 rfl, fun _ => by rw [also_self]; exact Made.stored hg hgn _ _, fun _ => alsoD (hdep ⟨9, .data⟩ (by simp) rfl), fun h => by rw [also_of (by decide)] at h ⊢; exact (fun h => (mq10 h).other ((fun e => eq9_10 (hdep ⟨9, .phase⟩ (by simp) rfl) (hdep ⟨10, .phase⟩ (by simp) rfl) e.symm)) _) h, keepD dq12_10 rfl, fun h h' => eq9_10 (by rw [also_of (by decide)] at h; exact h) (by rw [also_of (by decide)] at h'; exact h')⟩
        · intro L act W hI hno hdep
          rw [HI.out] at hI
          obtain ⟨vq0, vq1, vq2, vq3, vq4, vq5, vq6, vq7, vq8, vq9, vq10, hact, hS, hsz, hq0, hq1, hq2, hq3, hq4, hq5, hq6, hq7, hq8, mq9, dq11_9, mq10, dq12_10, eq9_10⟩ := hI
          subst hact
          obtain rfl := hq8 (hdep ⟨8, .data⟩ (by simp) rfl)
          rw [hT0]; simp only [sets, List.setIfInBounds_toArray, List.set_cons_zero, List.set_cons_succ]
          with_reducible refine wp_put_made (Operand.tmp 8) (Operand.tmp 22) rfl vq10 ?_ (ph) ?_ _ _ _ (mq10 (hdep ⟨10, .data⟩ (by simp) rfl)) hno ?_
          · rfl
          · rfl
          intro gx hgx hgn hg
          subst hgx
          rw [HI.out]
          exact ⟨vq0, vq1, vq2, vq3, vq4, vq5, vq6, vq7, wv ph, vq9, (.pointer (some ⟨gx, 0, none⟩)), by simp only [sets, Act.put, List.setIfInBounds_toArray, List.set_cons_zero, List.set_cons_succ], (hS.setRow (by omega) (fun p hp => Nat.ne_of_lt (Nat.lt_of_lt_of_le (hlow.out p hp) hgn)) _), (by simpa [World.setRow] using hsz), keepI hq0 rfl, keepI hq1 rfl, keepI hq2 rfl, keepI hq3 rfl, keepI hq4 rfl, keepI hq5 rfl, keepI hq6 rfl, keepI hq7 rfl, fun _ => rfl, fun h => by rw [also_of (by decide)] at h ⊢; exact (fun h => (mq9 h).other (eq9_10 (hdep ⟨9, .phase⟩ (by simp) rfl) (hdep ⟨10, .phase⟩ (by simp) rfl)) _) h, keepD dq11_9 rfl, fun _ => by rw [also_self]; exact Made.stored hg hgn _ _, fun _ => alsoD (hdep ⟨10, .data⟩ (by simp) rfl), fun h h' => eq9_10 (by rw [also_of (by decide)] at h; exact h) (by rw [also_of (by decide)] at h'; exact h')⟩
      case fin =>
        intro L act W hall hI
        rw [HI.out] at hI
        obtain ⟨vq0, vq1, vq2, vq3, vq4, vq5, vq6, vq7, vq8, vq9, vq10, hact, hS, hsz, hq0, hq1, hq2, hq3, hq4, hq5, hq6, hq7, hq8, mq9, dq11_9, mq10, dq12_10, eq9_10⟩ := hI
        subst hact
        obtain rfl := hq0 (hall 0 (by decide))
        obtain rfl := hq1 (hall 1 (by decide))
        obtain rfl := hq2 (hall 2 (by decide))
        obtain rfl := hq3 (hall 3 (by decide))
        obtain rfl := hq4 (hall 4 (by decide))
        obtain rfl := hq5 (hall 5 (by decide))
        obtain rfl := hq6 (hall 6 (by decide))
        obtain rfl := hq7 (hall 7 (by decide))
        obtain rfl := hq8 (hall 8 (by decide))
        obtain ⟨g7, rfl, g7n, g7r⟩ := mq9 (hall 9 (by decide))
        rw [hall 11 (by decide)] at g7r
        have g7h := Lib.hid (show W.heap[g7]? = some (wrow (pl)) from g7r); clear g7r
        obtain ⟨g8, rfl, g8n, g8r⟩ := mq10 (hall 10 (by decide))
        rw [hall 12 (by decide)] at g8r
        have g8h := Lib.hid (show W.heap[g8]? = some (wrow (ph)) from g8r); clear g8r
        clear hq0 hq1 hq2 hq3 hq4 hq5 hq6 hq7 hq8 mq9 dq11_9 mq10 dq12_10 eq9_10 hall
        rw [hT0]; simp only [sets, List.setIfInBounds_toArray, List.set_cons_zero, List.set_cons_succ]
        clear hT0 HI
        obtain ⟨LX, hLX0⟩ : ∃ L, L = (g8, wrow ph) :: (g7, wrow pl) :: LA := ⟨_, rfl⟩
        have SX : St w LX W := by rw [hLX0]; exact (hS.cons g7h.out).cons g8h.out
        have jx4 : (w.heap.size, wrow low) ∈ LX := by rw [hLX0]; exact List.Mem.tail _ (List.Mem.tail _ ja4)
        have jx7 : (g7, wrow pl) ∈ LX := by rw [hLX0]; exact List.Mem.tail _ (List.Mem.head _)
        have jx8 : (g8, wrow ph) ∈ LX := by rw [hLX0]; exact List.Mem.head _
        have hAX : Hid (∀ q, q ∈ LA → q ∈ LX) := by rw [hLX0]; exact fun q hq => List.Mem.tail _ (List.Mem.tail _ hq)
        clear hLX0
        go_wp2_with (first | (refine wpList_wide rfl _ rfl _ rfl (SX) _ jx4 ?_) | (refine wpList_wide rfl _ rfl _ rfl (SX) _ jx7 ?_) | fail)
        refine (CA.out _).mono ?_
        rintro e W5 ⟨rfl, hb⟩
        have S5 := (SX.keep hb).alloc (wrow s) (W5.heap.size) rfl
        have h5z : Hid (w.heap.size + 3 ≤ W5.heap.size) := Nat.le_trans hsz hb.size
        have hW5 : Hid (W.heap.size ≤ W5.heap.size) := hb.size
        clear hb
        obtain ⟨LC0, hLC00'⟩ : ∃ L, L = (W5.heap.size, wrow s) :: LR := ⟨_, rfl⟩
        obtain ⟨LB, hLB0⟩ : ∃ L, L = (W5.heap.size, wrow s) :: (w.heap.size + 1, wrow high) :: (w.heap.size, wrow low) :: LR := ⟨_, rfl⟩
        have SBx : St w LB (W5.alloc (wrow s)) := by
          rw [hLB0]
          exact S5.drop (fun q hq => by
            rcases List.mem_cons.1 hq with rfl | hq
            · exact List.Mem.head _
            · refine List.Mem.tail _ (hAX.out q ?_)
              rcases List.mem_cons.1 hq with rfl | hq
              · exact ja5
              · rcases List.mem_cons.1 hq with rfl | hq
                · exact ja4
                · exact hRA.out q hq)
        have G8 := Lib.hid (S5.get (List.Mem.tail _ jx8))
        have hg8lt : Hid (g8 < W5.heap.size) := Nat.lt_of_lt_of_le (lt_of_block (SX.get jx8)) hW5.out
        have hg8 : w.heap.size + 3 ≤ g8 := g8n
        have jb9 : (W5.heap.size, wrow s) ∈ LB := by rw [hLB0]; exact List.Mem.head _
        have jb5 : (w.heap.size + 1, wrow high) ∈ LB := by rw [hLB0]; exact List.Mem.tail _ (List.Mem.head _)
        have jb4 : (w.heap.size, wrow low) ∈ LB := by rw [hLB0]; exact List.Mem.tail _ (List.Mem.tail _ (List.Mem.head _))
        have jc9 : (W5.heap.size, wrow s) ∈ LC0 := by rw [hLC00']; exact List.Mem.head _
        have hRC : Hid (∀ q, q ∈ LR → q ∈ LC0) := by rw [hLC00']; exact fun q hq => List.Mem.tail _ hq
        have hCB : Hid (∀ q, q ∈ LC0 → q ∈ LB) := by
          rw [hLC00', hLB0]; intro q hq; rcases List.mem_cons.1 hq with rfl | hq
          · exact List.Mem.head _
          · exact List.Mem.tail _ (List.Mem.tail _ (List.Mem.tail _ hq))
        have hLC00 : Hid (∀ q, q ∈ LC0 → q.1 ≠ w.heap.size ∧ q.1 ≠ w.heap.size + 1) := by
          rw [hLC00']; intro q hq; have h5 := h5z.out; rcases List.mem_cons.1 hq with rfl | hq
          · exact ⟨by show W5.heap.size ≠ _; omega, by show W5.heap.size ≠ _; omega⟩
          · exact ⟨(hLR.out q hq).1, (hLR.out q hq).2.1⟩
        have hLB : Hid (∀ q, q ∈ LB → q.1 ≠ g8) := by
          rw [hLB0]; intro q hq; have h8 := hg8lt.out
          rcases List.mem_cons.1 hq with rfl | hq
          · show W5.heap.size ≠ g8; omega
          · rcases List.mem_cons.1 hq with rfl | hq
            · show w.heap.size + 1 ≠ g8; omega
            · rcases List.mem_cons.1 hq with rfl | hq
              · show w.heap.size ≠ g8; omega
              · have := (hLR.out q hq).2.2; omega
        clear hLC00' hLB0
        cases m with
        | true =>
          have CN := Lib.hid (fun W => add_n ph 1 (Nat.lt_trans FD.out.2.1 (gap_lt p)) (by decide) h2 false (by
            have h1 := FD.out.2.1; have h3 := gap_small p; have h4 : W256 = 115792089237316195423570985008687907853269984665640564039457584007913129639936 := by decide +kernel
            rw [HH2.out]; simp only [if_true]; exact Nat.mod_eq_of_lt (by omega)) (by
            have h1 := FD.out.2.1; have h3 := gap_small p; have h4 : W256 = 115792089237316195423570985008687907853269984665640564039457584007913129639936 := by decide +kernel
            simp; omega) W)
          have SB := SBx
          go_wp2_with fail
          obtain ⟨I, hI0⟩ : ∃ I : Array Value → (Nat → Bool) → Act → World → Prop, I = (fun T0 L act W => ∃ vq0 vq1 vq2 vq3 vq4 vq5, act = ⟨sets T0 [(31, vq0), (32, vq1), (33, vq2), (30, vq3), (34, vq4), (35, vq5)], []⟩ ∧ St w LB W ∧ (L 0 = true → vq0 = wv (ph)) ∧ (L 1 = true → vq1 = wv 1) ∧ (L 2 = true → vq2 = .tuple #[wv h2, .bool false]) ∧ (L 3 = true → vq3 = .tuple #[wv h2, .bool false]) ∧ (L 4 = true → vq4 = wv h2) ∧ (L 5 = true → vq5 = .bool false) ∧ (L 6 = false → W.heap[g8]? = some (wrow ph)) ∧ (L 6 = true → W.heap[g8]? = some (wrow h2)) ∧ (L 6 = true → L 0 = true)) := ⟨_, rfl⟩
          have HI := Lib.hid hI0; clear hI0
          refine wp_region_frame (by kernel_rfl) (by kernel_rfl) I (fun T0 hT0 => ⟨?start, ?step, ?fin⟩)
          case start =>
            rw [HI.out]
            exact ⟨T0.getD 31 undef, T0.getD 32 undef, T0.getD 33 undef, T0.getD 30 undef, T0.getD 34 undef, T0.getD 35 undef, by (refine Eq.trans ?_ (congrArg (fun T => Act.mk T []) (sets_self [31, 32, 33, 30, 34, 35] T0).symm)); rw [hT0], SB.drew, nofun, nofun, nofun, nofun, nofun, nofun, fun _ => G8.out, nofun, nofun⟩
          case step =>
            refine ⟨?_, ?_, ?_, ?_, ?_, ?_, ?_, trivial⟩
            · intro L act W hI hno hdep
              rw [HI.out] at hI
              obtain ⟨vq0, vq1, vq2, vq3, vq4, vq5, hact, hS, hq0, hq1, hq2, hq3, hq4, hq5, oq6, nq6, dq6_0⟩ := hI
              subst hact
              rw [hT0]; simp only [sets, List.setIfInBounds_toArray, List.set_cons_zero, List.set_cons_succ]
              with_reducible refine wp_wide (Operand.tmp 8) rfl g8 ?_ (ph) (oq6 (noF dq6_0 hno)) ?_
              · rfl
              rw [HI.out]
              exact ⟨wv (ph), vq1, vq2, vq3, vq4, vq5, by simp only [sets, Act.put, List.setIfInBounds_toArray, List.set_cons_zero, List.set_cons_succ], hS, fun _ => rfl, keepI hq1 rfl, keepI hq2 rfl, keepI hq3 rfl, keepI hq4 rfl, keepI hq5 rfl, keepF oq6, keepI nq6 rfl, keepD dq6_0 rfl⟩
            · intro L act W hI hno hdep
              rw [HI.out] at hI
              obtain ⟨vq0, vq1, vq2, vq3, vq4, vq5, hact, hS, hq0, hq1, hq2, hq3, hq4, hq5, oq6, nq6, dq6_0⟩ := hI
              subst hact
              rw [hT0]; simp only [sets, List.setIfInBounds_toArray, List.set_cons_zero, List.set_cons_succ]
              go_simp
              refine (CO.out _).mono ?_
              rintro e W2 ⟨rfl, hb⟩
              rw [HI.out]
              exact ⟨vq0, wv 1, vq2, vq3, vq4, vq5, by simp only [sets, List.setIfInBounds_toArray, List.set_cons_zero, List.set_cons_succ], (hS.keep hb), keepI hq0 rfl, fun _ => rfl, keepI hq2 rfl, keepI hq3 rfl, keepI hq4 rfl, keepI hq5 rfl, keepF (fun h => keepH hb (oq6 h)), keepI (fun h => keepH hb (nq6 h)) rfl, keepD dq6_0 rfl⟩
            · intro L act W hI hno hdep
              rw [HI.out] at hI
              obtain ⟨vq0, vq1, vq2, vq3, vq4, vq5, hact, hS, hq0, hq1, hq2, hq3, hq4, hq5, oq6, nq6, dq6_0⟩ := hI
              subst hact
              obtain rfl := hq0 (hdep ⟨0, .data⟩ (by simp) rfl)
              obtain rfl := hq1 (hdep ⟨1, .data⟩ (by simp) rfl)
              rw [hT0]; simp only [sets, List.setIfInBounds_toArray, List.set_cons_zero, List.set_cons_succ]
              go_simp
              refine (CN.out _).mono ?_
              rintro e W2 ⟨rfl, hb⟩
              rw [HI.out]
              exact ⟨wv (ph), wv 1, .tuple #[wv h2, .bool false], vq3, vq4, vq5, by simp only [sets, List.setIfInBounds_toArray, List.set_cons_zero, List.set_cons_succ], (hS.keep hb), fun _ => rfl, fun _ => rfl, fun _ => rfl, keepI hq3 rfl, keepI hq4 rfl, keepI hq5 rfl, keepF (fun h => keepH hb (oq6 h)), keepI (fun h => keepH hb (nq6 h)) rfl, keepD dq6_0 rfl⟩
            · intro L act W hI hno hdep
              rw [HI.out] at hI
              obtain ⟨vq0, vq1, vq2, vq3, vq4, vq5, hact, hS, hq0, hq1, hq2, hq3, hq4, hq5, oq6, nq6, dq6_0⟩ := hI
              subst hact
              obtain rfl := hq2 (hdep ⟨2, .data⟩ (by simp) rfl)
              rw [hT0]; simp only [sets, List.setIfInBounds_toArray, List.set_cons_zero, List.set_cons_succ]
              go_simp
              rw [HI.out]
              exact ⟨vq0, vq1, .tuple #[wv h2, .bool false], .tuple #[wv h2, .bool false], vq4, vq5, by simp only [sets, List.setIfInBounds_toArray, List.set_cons_zero, List.set_cons_succ], hS, keepI hq0 rfl, keepI hq1 rfl, fun _ => rfl, fun _ => rfl, keepI hq4 rfl, keepI hq5 rfl, keepF oq6, keepI nq6 rfl, keepD dq6_0 rfl⟩
            · intro L act W hI hno hdep
              rw [HI.out] at hI
              obtain ⟨vq0, vq1, vq2, vq3, vq4, vq5, hact, hS, hq0, hq1, hq2, hq3, hq4, hq5, oq6, nq6, dq6_0⟩ := hI
              subst hact
              obtain rfl := hq3 (hdep ⟨3, .data⟩ (by simp) rfl)
              rw [hT0]; simp only [sets, List.setIfInBounds_toArray, List.set_cons_zero, List.set_cons_succ]
              go_simp
              rw [HI.out]
              exact ⟨vq0, vq1, vq2, .tuple #[wv h2, .bool false], wv h2, vq5, by simp only [sets, List.setIfInBounds_toArray, List.set_cons_zero, List.set_cons_succ], hS, keepI hq0 rfl, keepI hq1 rfl, keepI hq2 rfl, fun _ => rfl, fun _ => rfl, keepI hq5 rfl, keepF oq6, keepI nq6 rfl, keepD dq6_0 rfl⟩
            · intro L act W hI hno hdep
              rw [HI.out] at hI
              obtain ⟨vq0, vq1, vq2, vq3, vq4, vq5, hact, hS, hq0, hq1, hq2, hq3, hq4, hq5, oq6, nq6, dq6_0⟩ := hI
              subst hact
              obtain rfl := hq3 (hdep ⟨3, .data⟩ (by simp) rfl)
              rw [hT0]; simp only [sets, List.setIfInBounds_toArray, List.set_cons_zero, List.set_cons_succ]
              go_simp
              rw [HI.out]
              exact ⟨vq0, vq1, vq2, .tuple #[wv h2, .bool false], vq4, .bool false, by simp only [sets, List.setIfInBounds_toArray, List.set_cons_zero, List.set_cons_succ], hS, keepI hq0 rfl, keepI hq1 rfl, keepI hq2 rfl, fun _ => rfl, keepI hq4 rfl, fun _ => rfl, keepF oq6, keepI nq6 rfl, keepD dq6_0 rfl⟩
            · intro L act W hI hno hdep
              rw [HI.out] at hI
              obtain ⟨vq0, vq1, vq2, vq3, vq4, vq5, hact, hS, hq0, hq1, hq2, hq3, hq4, hq5, oq6, nq6, dq6_0⟩ := hI
              subst hact
              obtain rfl := hq4 (hdep ⟨4, .data⟩ (by simp) rfl)
              have hg := oq6 hno
              rw [hT0]; simp only [sets, List.setIfInBounds_toArray, List.set_cons_zero, List.set_cons_succ]
              with_reducible refine wp_put (Operand.tmp 8) (Operand.tmp 34) rfl g8 ?_ (h2) (ph) ?_ hg ?_
              · rfl
              · rfl
              rw [HI.out]
              exact ⟨vq0, vq1, vq2, vq3, wv h2, vq5, by simp only [sets, Act.put, List.setIfInBounds_toArray, List.set_cons_zero, List.set_cons_succ], (hS.setRow (by omega) (fun q hq => hLB.out q hq) _), keepI hq0 rfl, keepI hq1 rfl, keepI hq2 rfl, keepI hq3 rfl, fun _ => rfl, keepI hq5 rfl, alsoF, fun _ => setRow_heap W _ _ _ _ _ hg, fun _ => alsoD (hdep ⟨0, .phase⟩ (by simp) rfl)⟩
          case fin =>
            intro L act W hall hI
            rw [HI.out] at hI
            obtain ⟨vq0, vq1, vq2, vq3, vq4, vq5, hact, hS, hq0, hq1, hq2, hq3, hq4, hq5, oq6, nq6, dq6_0⟩ := hI
            subst hact
            obtain rfl := hq0 (hall 0 (by decide))
            obtain rfl := hq1 (hall 1 (by decide))
            obtain rfl := hq2 (hall 2 (by decide))
            obtain rfl := hq3 (hall 3 (by decide))
            obtain rfl := hq4 (hall 4 (by decide))
            obtain rfl := hq5 (hall 5 (by decide))
            have tbh := Lib.hid (nq6 (hall 6 (by decide)))
            clear hq0 hq1 hq2 hq3 hq4 hq5 oq6 nq6 dq6_0 hall
            rw [hT0]; simp only [sets, List.setIfInBounds_toArray, List.set_cons_zero, List.set_cons_succ]
            clear hT0 HI
            have SD := hS.cons tbh.out
            obtain ⟨LC, hLC0⟩ : ∃ L, L = (g8, wrow h2) :: LC0 := ⟨_, rfl⟩
            have SC : St w LC W := by rw [hLC0]; exact (SD.drop (by intro q hq; rcases List.mem_cons.1 hq with rfl | hq; exact List.Mem.head _; exact List.Mem.tail _ (hCB.out q hq)))
            have C4 := Lib.hid (hS.get jb4)
            have C5 := Lib.hid (hS.get jb5)
            have c9 : (W5.heap.size, wrow s) ∈ LC := by rw [hLC0]; exact List.Mem.tail _ jc9
            have c8 : (g8, wrow h2) ∈ LC := by rw [hLC0]; exact List.Mem.head _
            have hLC : Hid (∀ q, q ∈ LC → q.1 ≠ w.heap.size ∧ q.1 ≠ w.heap.size + 1) := by
              rw [hLC0]; intro q hq; rcases List.mem_cons.1 hq with rfl | hq
              · exact ⟨by show g8 ≠ _; omega, by show g8 ≠ _; omega⟩
              · exact hLC00.out q hq
            have hLRC : Hid (∀ q, q ∈ LR → q ∈ LC) := by rw [hLC0]; exact fun q hq => List.Mem.tail _ (hRC.out q hq)
            clear hLC0
            go_wp2_with fail
            obtain ⟨I, hI0⟩ : ∃ I : Array Value → (Nat → Bool) → Act → World → Prop, I = (fun T0 L act W => ∃ vq0 vq1, act = ⟨sets T0 [(36, vq0), (37, vq1)], []⟩ ∧ St w LC W ∧ (L 0 = true → vq0 = wv (s)) ∧ (L 1 = true → vq1 = wv (h2)) ∧ (L 2 = false → W.heap[w.heap.size]? = some (wrow low)) ∧ (L 2 = true → W.heap[w.heap.size]? = some (wrow s)) ∧ (L 3 = false → W.heap[(w.heap.size + 1)]? = some (wrow high)) ∧ (L 3 = true → W.heap[(w.heap.size + 1)]? = some (wrow h2))) := ⟨_, rfl⟩
            have HI := Lib.hid hI0; clear hI0
            refine wp_region_frame (by kernel_rfl) (by kernel_rfl) I (fun T0 hT0 => ⟨?start, ?step, ?fin⟩)
            case start =>
              rw [HI.out]
              exact ⟨T0.getD 36 undef, T0.getD 37 undef, by (refine Eq.trans ?_ (congrArg (fun T => Act.mk T []) (sets_self [36, 37] T0).symm)); rw [hT0], SC.drew, nofun, nofun, fun _ => C4.out, nofun, fun _ => C5.out, nofun⟩
            case step =>
              refine ⟨?_, ?_, ?_, ?_, trivial⟩
              · intro L act W hI hno hdep
                rw [HI.out] at hI
                obtain ⟨vq0, vq1, hact, hS, hq0, hq1, oq2, nq2, oq3, nq3⟩ := hI
                subst hact
                rw [hT0]; simp only [sets, List.setIfInBounds_toArray, List.set_cons_zero, List.set_cons_succ]
                with_reducible refine wp_wide (Operand.tmp 9) rfl W5.heap.size ?_ (s) (hS.get c9) ?_
                · rfl
                rw [HI.out]
                exact ⟨wv (s), vq1, by simp only [sets, Act.put, List.setIfInBounds_toArray, List.set_cons_zero, List.set_cons_succ], hS, fun _ => rfl, keepI hq1 rfl, keepF oq2, keepI nq2 rfl, keepF oq3, keepI nq3 rfl⟩
              · intro L act W hI hno hdep
                rw [HI.out] at hI
                obtain ⟨vq0, vq1, hact, hS, hq0, hq1, oq2, nq2, oq3, nq3⟩ := hI
                subst hact
                rw [hT0]; simp only [sets, List.setIfInBounds_toArray, List.set_cons_zero, List.set_cons_succ]
                with_reducible refine wp_wide (Operand.tmp 8) rfl g8 ?_ (h2) (hS.get c8) ?_
                · rfl
                rw [HI.out]
                exact ⟨vq0, wv (h2), by simp only [sets, Act.put, List.setIfInBounds_toArray, List.set_cons_zero, List.set_cons_succ], hS, keepI hq0 rfl, fun _ => rfl, keepF oq2, keepI nq2 rfl, keepF oq3, keepI nq3 rfl⟩
              · intro L act W hI hno hdep
                rw [HI.out] at hI
                obtain ⟨vq0, vq1, hact, hS, hq0, hq1, oq2, nq2, oq3, nq3⟩ := hI
                subst hact
                obtain rfl := hq0 (hdep ⟨0, .data⟩ (by simp) rfl)
                have hg := oq2 hno
                rw [hT0]; simp only [sets, List.setIfInBounds_toArray, List.set_cons_zero, List.set_cons_succ]
                with_reducible refine wp_put (Operand.tmp 4) (Operand.tmp 36) rfl w.heap.size ?_ (s) (low) ?_ hg ?_
                · rfl
                · rfl
                rw [HI.out]
                exact ⟨wv (s), vq1, by simp only [sets, Act.put, List.setIfInBounds_toArray, List.set_cons_zero, List.set_cons_succ], (hS.setRow (Nat.le_refl _) (fun q hq => (hLC.out q hq).1) _), fun _ => rfl, keepI hq1 rfl, alsoF, fun _ => setRow_heap W _ _ _ _ _ hg, keepF (fun h => (setRow_other _ _ _ _ (by omega)).trans (oq3 h)), keepI (fun h => (setRow_other _ _ _ _ (by omega)).trans (nq3 h)) rfl⟩
              · intro L act W hI hno hdep
                rw [HI.out] at hI
                obtain ⟨vq0, vq1, hact, hS, hq0, hq1, oq2, nq2, oq3, nq3⟩ := hI
                subst hact
                obtain rfl := hq1 (hdep ⟨1, .data⟩ (by simp) rfl)
                have hg := oq3 hno
                rw [hT0]; simp only [sets, List.setIfInBounds_toArray, List.set_cons_zero, List.set_cons_succ]
                with_reducible refine wp_put (Operand.tmp 5) (Operand.tmp 37) rfl (w.heap.size + 1) ?_ (h2) (high) ?_ hg ?_
                · rfl
                · rfl
                rw [HI.out]
                exact ⟨vq0, wv (h2), by simp only [sets, Act.put, List.setIfInBounds_toArray, List.set_cons_zero, List.set_cons_succ], (hS.setRow (by omega) (fun q hq => (hLC.out q hq).2) _), keepI hq0 rfl, fun _ => rfl, keepF (fun h => (setRow_other _ _ _ _ (by omega)).trans (oq2 h)), keepI (fun h => (setRow_other _ _ _ _ (by omega)).trans (nq2 h)) rfl, alsoF, fun _ => setRow_heap W _ _ _ _ _ hg⟩
            case fin =>
              intro L act W hall hI
              rw [HI.out] at hI
              obtain ⟨vq0, vq1, hact, hS, hq0, hq1, oq2, nq2, oq3, nq3⟩ := hI
              subst hact
              obtain rfl := hq0 (hall 0 (by decide))
              obtain rfl := hq1 (hall 1 (by decide))
              have tah := Lib.hid (nq2 (hall 2 (by decide)))
              have tbh := Lib.hid (nq3 (hall 3 (by decide)))
              clear hq0 hq1 oq2 nq2 oq3 nq3 hall
              rw [hT0]; simp only [sets, List.setIfInBounds_toArray, List.set_cons_zero, List.set_cons_succ]
              clear hT0 HI
              have FI : Hid (FoldInv w p LR t (s + W256 * h2) s h2 W) := ⟨hS.drop hLRC.out, tah.out, tbh.out, FD.out.1, FD.out.2.2.1, FD.out.2.2.2.2.1.trans HJ.out.rest, rfl⟩
              go_wp2_with fail
              go_roundg (s + W256 * h2)
              case measure => have := FD.out.2.2.2.2.2; have := HJ.out.ghost; omega
              case rel => exact ⟨s, h2, FI⟩
        | false =>
          obtain rfl : h2 = ph := by have := HH2.out; simpa using this
          obtain ⟨LC, hLC0⟩ : ∃ L, L = (g8, wrow h2) :: LC0 := ⟨_, rfl⟩
          have SC : St w LC (W5.alloc (wrow s)) := by rw [hLC0]; exact ((SBx.cons G8.out).drop (by intro q hq; rcases List.mem_cons.1 hq with rfl | hq; exact List.Mem.head _; exact List.Mem.tail _ (hCB.out q hq)))
          have C4 := Lib.hid (SBx.get jb4)
          have C5 := Lib.hid (SBx.get jb5)
          have c9 : (W5.heap.size, wrow s) ∈ LC := by rw [hLC0]; exact List.Mem.tail _ jc9
          have c8 : (g8, wrow h2) ∈ LC := by rw [hLC0]; exact List.Mem.head _
          have hLC : Hid (∀ q, q ∈ LC → q.1 ≠ w.heap.size ∧ q.1 ≠ w.heap.size + 1) := by
            rw [hLC0]; intro q hq; rcases List.mem_cons.1 hq with rfl | hq
            · exact ⟨by show g8 ≠ _; omega, by show g8 ≠ _; omega⟩
            · exact hLC00.out q hq
          have hLRC : Hid (∀ q, q ∈ LR → q ∈ LC) := by rw [hLC0]; exact fun q hq => List.Mem.tail _ (hRC.out q hq)
          clear hLC0
          go_wp2_with fail
          obtain ⟨I, hI0⟩ : ∃ I : Array Value → (Nat → Bool) → Act → World → Prop, I = (fun T0 L act W => ∃ vq0 vq1, act = ⟨sets T0 [(36, vq0), (37, vq1)], []⟩ ∧ St w LC W ∧ (L 0 = true → vq0 = wv (s)) ∧ (L 1 = true → vq1 = wv (h2)) ∧ (L 2 = false → W.heap[w.heap.size]? = some (wrow low)) ∧ (L 2 = true → W.heap[w.heap.size]? = some (wrow s)) ∧ (L 3 = false → W.heap[(w.heap.size + 1)]? = some (wrow high)) ∧ (L 3 = true → W.heap[(w.heap.size + 1)]? = some (wrow h2))) := ⟨_, rfl⟩
          have HI := Lib.hid hI0; clear hI0
          refine wp_region_frame (by kernel_rfl) (by kernel_rfl) I (fun T0 hT0 => ⟨?start, ?step, ?fin⟩)
          case start =>
            rw [HI.out]
            exact ⟨T0.getD 36 undef, T0.getD 37 undef, by (refine Eq.trans ?_ (congrArg (fun T => Act.mk T []) (sets_self [36, 37] T0).symm)); rw [hT0], SC.drew, nofun, nofun, fun _ => C4.out, nofun, fun _ => C5.out, nofun⟩
          case step =>
            refine ⟨?_, ?_, ?_, ?_, trivial⟩
            · intro L act W hI hno hdep
              rw [HI.out] at hI
              obtain ⟨vq0, vq1, hact, hS, hq0, hq1, oq2, nq2, oq3, nq3⟩ := hI
              subst hact
              rw [hT0]; simp only [sets, List.setIfInBounds_toArray, List.set_cons_zero, List.set_cons_succ]
              with_reducible refine wp_wide (Operand.tmp 9) rfl W5.heap.size ?_ (s) (hS.get c9) ?_
              · rfl
              rw [HI.out]
              exact ⟨wv (s), vq1, by simp only [sets, Act.put, List.setIfInBounds_toArray, List.set_cons_zero, List.set_cons_succ], hS, fun _ => rfl, keepI hq1 rfl, keepF oq2, keepI nq2 rfl, keepF oq3, keepI nq3 rfl⟩
            · intro L act W hI hno hdep
              rw [HI.out] at hI
              obtain ⟨vq0, vq1, hact, hS, hq0, hq1, oq2, nq2, oq3, nq3⟩ := hI
              subst hact
              rw [hT0]; simp only [sets, List.setIfInBounds_toArray, List.set_cons_zero, List.set_cons_succ]
              with_reducible refine wp_wide (Operand.tmp 8) rfl g8 ?_ (h2) (hS.get c8) ?_
              · rfl
              rw [HI.out]
              exact ⟨vq0, wv (h2), by simp only [sets, Act.put, List.setIfInBounds_toArray, List.set_cons_zero, List.set_cons_succ], hS, keepI hq0 rfl, fun _ => rfl, keepF oq2, keepI nq2 rfl, keepF oq3, keepI nq3 rfl⟩
            · intro L act W hI hno hdep
              rw [HI.out] at hI
              obtain ⟨vq0, vq1, hact, hS, hq0, hq1, oq2, nq2, oq3, nq3⟩ := hI
              subst hact
              obtain rfl := hq0 (hdep ⟨0, .data⟩ (by simp) rfl)
              have hg := oq2 hno
              rw [hT0]; simp only [sets, List.setIfInBounds_toArray, List.set_cons_zero, List.set_cons_succ]
              with_reducible refine wp_put (Operand.tmp 4) (Operand.tmp 36) rfl w.heap.size ?_ (s) (low) ?_ hg ?_
              · rfl
              · rfl
              rw [HI.out]
              exact ⟨wv (s), vq1, by simp only [sets, Act.put, List.setIfInBounds_toArray, List.set_cons_zero, List.set_cons_succ], (hS.setRow (Nat.le_refl _) (fun q hq => (hLC.out q hq).1) _), fun _ => rfl, keepI hq1 rfl, alsoF, fun _ => setRow_heap W _ _ _ _ _ hg, keepF (fun h => (setRow_other _ _ _ _ (by omega)).trans (oq3 h)), keepI (fun h => (setRow_other _ _ _ _ (by omega)).trans (nq3 h)) rfl⟩
            · intro L act W hI hno hdep
              rw [HI.out] at hI
              obtain ⟨vq0, vq1, hact, hS, hq0, hq1, oq2, nq2, oq3, nq3⟩ := hI
              subst hact
              obtain rfl := hq1 (hdep ⟨1, .data⟩ (by simp) rfl)
              have hg := oq3 hno
              rw [hT0]; simp only [sets, List.setIfInBounds_toArray, List.set_cons_zero, List.set_cons_succ]
              with_reducible refine wp_put (Operand.tmp 5) (Operand.tmp 37) rfl (w.heap.size + 1) ?_ (h2) (high) ?_ hg ?_
              · rfl
              · rfl
              rw [HI.out]
              exact ⟨vq0, wv (h2), by simp only [sets, Act.put, List.setIfInBounds_toArray, List.set_cons_zero, List.set_cons_succ], (hS.setRow (by omega) (fun q hq => (hLC.out q hq).2) _), keepI hq0 rfl, fun _ => rfl, keepF (fun h => (setRow_other _ _ _ _ (by omega)).trans (oq2 h)), keepI (fun h => (setRow_other _ _ _ _ (by omega)).trans (nq2 h)) rfl, alsoF, fun _ => setRow_heap W _ _ _ _ _ hg⟩
          case fin =>
            intro L act W hall hI
            rw [HI.out] at hI
            obtain ⟨vq0, vq1, hact, hS, hq0, hq1, oq2, nq2, oq3, nq3⟩ := hI
            subst hact
            obtain rfl := hq0 (hall 0 (by decide))
            obtain rfl := hq1 (hall 1 (by decide))
            have tah := Lib.hid (nq2 (hall 2 (by decide)))
            have tbh := Lib.hid (nq3 (hall 3 (by decide)))
            clear hq0 hq1 oq2 nq2 oq3 nq3 hall
            rw [hT0]; simp only [sets, List.setIfInBounds_toArray, List.set_cons_zero, List.set_cons_succ]
            clear hT0 HI
            have FI : Hid (FoldInv w p LR t (s + W256 * h2) s h2 W) := ⟨hS.drop hLRC.out, tah.out, tbh.out, FD.out.1, FD.out.2.2.1, FD.out.2.2.2.2.1.trans HJ.out.rest, rfl⟩
            go_wp2_with fail
            go_roundg (s + W256 * h2)
            case measure => have := FD.out.2.2.2.2.2; have := HJ.out.ghost; omega
            case rel => exact ⟨s, h2, FI⟩
end Go.Proofs.Ytbaifchbpnmkpaa
