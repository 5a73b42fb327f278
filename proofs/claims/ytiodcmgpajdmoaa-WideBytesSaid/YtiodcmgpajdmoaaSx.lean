/-
  A walk by letters: a frame is a letter of which some slots are known (Fr), a world a letter in which some rows lie (Sx); a region of a function's code by its number.
-/
import Derived.Test.YtiodcmgpajdmoaaRr
import Derived.Deep.LoopGhost
import Derived.LoopN
namespace Go.Proofs.Ytiodcmgpajdmoaa
open Go.RowKit

/-- A region of a function's code, by its number. -/
def rgo (n : Nat) : Code → Option Code
  | .region i ops d => if i = n then some (.region i ops d) else none
  | .seq a b => match rgo n a with
    | some c => some c
    | none => rgo n b
  | .block _ c => rgo n c
  | .loop c => rgo n c
  | .scope c => rgo n c
  | .cond _ a b => match rgo n a with
    | some c => some c
    | none => rgo n b
  | _ => none
noncomputable def rgn (f : Func) (n : Nat) : Code := (f.body.bind (rgo n)).getD .skip

theorem Fr.ev {N : Nat} {T : Array Value} {l : List (Nat × Value)} (h : Fr N ⟨T, []⟩ l) (i : Nat) {k : Nat} {v : Value} (hi : l[i]? = some (k, v)) : T[k]?.getD undef = v := by
  have := h.known (k, v) (List.mem_of_getElem? hi)
  rwa [slot_get] at this
theorem Fr.op {N : Nat} {T : Array Value} {l : List (Nat × Value)} (h : Fr N ⟨T, []⟩ l) (i : Nat) {k : Nat} {v : Value} (hi : l[i]? = some (k, v)) : (⟨T, []⟩ : Act).eval (.tmp k) = v := h.known (k, v) (List.mem_of_getElem? hi)
theorem Fr.put {N : Nat} {T : Array Value} {l : List (Nat × Value)} (h : Fr N ⟨T, []⟩ l) (d : Nat) (v : Value) (hd : d < N) (hl : (l.all fun p => p.1 != d) = true) : Fr N ⟨T.setIfInBounds d v, []⟩ ((d, v) :: l) :=
  ⟨by simpa using h.size, rfl, fun p hp => by
    rcases List.mem_cons.1 hp with rfl | hp
    · show slot (T.setIfInBounds d v) d = v
      rw [slot_set _ _ _ _ (by have := h.size; simp only at this; omega), if_pos rfl]
    · have h1 := List.all_eq_true.1 hl p hp
      show slot (T.setIfInBounds d v) p.1 = p.2
      rw [slot_set _ _ _ _ (by have := h.size; simp only at this; omega), if_neg (by simpa using Ne.symm (bne_iff_ne.1 h1))]
      exact h.known p hp⟩
theorem Fr.pick {N : Nat} {a : Act} {l : List (Nat × Value)} (h : Fr N a l) (is : List Nat) : Fr N a (is.filterMap fun i => l[i]?) :=
  ⟨h.size, h.defers, fun p hp => by
    obtain ⟨i, -, hi⟩ := List.mem_filterMap.1 hp
    exact h.known p (List.mem_of_getElem? hi)⟩
theorem Fr.nil {N : Nat} {T : Array Value} (h : T.size = N) : Fr N ⟨T, []⟩ [] := ⟨h, rfl, fun _ h => by cases h⟩
theorem Fr.cons {N : Nat} {T : Array Value} {l : List (Nat × Value)} (h : Fr N ⟨T, []⟩ l) {k : Nat} {v : Value} (hs : slot T k = v) : Fr N ⟨T, []⟩ ((k, v) :: l) :=
  ⟨h.size, h.defers, fun p hp => by
    rcases List.mem_cons.1 hp with rfl | hp
    · exact hs
    · exact h.known p hp⟩
theorem Fr.old {N : Nat} {T0 T : Array Value} {l : List (Nat × Value)} (h : Fr N ⟨T0, []⟩ l) (hT : T.size = N) {ds : List Nat} (hs : ∀ s, s ∉ ds → slot T s = slot T0 s) (hl : (l.all fun p => !ds.contains p.1) = true) : Fr N ⟨T, []⟩ l :=
  ⟨hT, rfl, fun p hp => by
    have h1 := List.all_eq_true.1 hl p hp
    exact (hs p.1 (by simpa using h1)).trans (h.known p hp)⟩

/-- Something of a world that hangs on some blocks alone. ex: on these nothing else hangs. -/
structure Xt where
  ex : Bool
  foot : Nat → Prop
  holds : World → Prop
  stays : ∀ W W', (∀ b, foot b → b < W.heap.size → W'.heap[b]? = W.heap[b]?) → W.heap.size ≤ W'.heap.size → holds W → holds W'

/-- W is w with new blocks; these rows lie there; and what else is known of it, which hangs on none of these rows. -/
structure Sx (w : World) (L : List (Nat × Obj)) (X : List Xt) (W : World) : Prop where
  below : Below w.heap.size w W
  rows : ∀ p, p ∈ L → W.heap[p.1]? = some p.2
  apart : L.Pairwise (fun p q => p.1 ≠ q.1)
  ext : ∀ q, q ∈ X → q.holds W
  sep : ∀ p, p ∈ L → ∀ q, q ∈ X → ¬ q.foot p.1
  bound : ∀ q, q ∈ X → ∀ b, q.foot b → b < W.heap.size
  excl : X.Pairwise (fun p q => (p.ex || q.ex) = true → ∀ b, p.foot b → ¬ q.foot b)
theorem Sx.nil (w : World) : Sx w [] [] w := ⟨Below.refl _ _, fun _ h => (by cases h), List.Pairwise.nil, fun _ h => (by cases h), fun _ h => (by cases h), fun _ h => (by cases h), List.Pairwise.nil⟩
theorem Sx.at {w W : World} {L : List (Nat × Obj)} {X : List Xt} (h : Sx w L X W) (i : Nat) {g : Nat} {o : Obj} (hi : L[i]? = some (g, o)) : W.heap[g]? = some o := h.rows _ (List.mem_of_getElem? hi)
theorem Sx.x {w W : World} {L : List (Nat × Obj)} {X : List Xt} (h : Sx w L X W) (i : Nat) {q : Xt} (hi : X[i]? = some q) : q.holds W := h.ext _ (List.mem_of_getElem? hi)
theorem Sx.cell {w W : World} {L : List (Nat × Obj)} {X : List Xt} (h : Sx w L X W) (i : Nat) {g o : Nat} {cs : Array Value} {t : TypeId} {fr : Nat × Nat} {v : Value} (hi : L[i]? = some (g, .cells cs t fr)) (hc : cs[o]? = some v) : W.cell? ⟨g, o, none⟩ = some v := (cell_of_row _ _ _ _ _ _ (h.at i hi)).trans hc
theorem Sx.free {w W : World} {L : List (Nat × Obj)} {X : List Xt} (h : Sx w L X W) (i : Nat) {g : Nat} {cs : Array Value} {t : TypeId} (hi : L[i]? = some (g, .cells cs t (0, 0))) (o : Nat) : W.frozen? ⟨g, o, none⟩ = false := frozen_of_row W g o _ _ (h.at i hi)
theorem Sx.keep {w W W' : World} {L : List (Nat × Obj)} {X : List Xt} (h : Sx w L X W) (hb : Below W.heap.size W W') : Sx w L X W' :=
  ⟨below_step h.below hb, fun p hp => (hb.block _ (lt_of_block (h.rows p hp))).trans (h.rows p hp), h.apart, fun q hq => q.stays W W' (fun b _ hlt => hb.block b hlt) hb.size (h.ext q hq), h.sep, fun q hq b hbq => Nat.lt_of_lt_of_le (h.bound q hq b hbq) hb.size, h.excl⟩
theorem Sx.drew {w W : World} {L : List (Nat × Obj)} {X : List Xt} (h : Sx w L X W) : Sx w L X W.drew := h.keep ((Below.refl _ _).drew)
/-- The rows at these places, in order. -/
def picks {α : Type} (l : List α) (is : List Nat) : List α := is.filterMap fun i => l[i]?
theorem picks_mem {α : Type} {l : List α} {is : List Nat} {x : α} (h : x ∈ picks l is) : x ∈ l := by
  obtain ⟨i, -, hi⟩ := List.mem_filterMap.1 h
  exact List.mem_of_getElem? hi
def incr : List Nat → Bool
  | a :: b :: l => decide (a < b) && incr (b :: l)
  | _ => true
theorem picks_pair {α : Type} {R : α → α → Prop} {l : List α} (h : l.Pairwise R) : ∀ (is : List Nat), incr is = true → (picks l is).Pairwise R ∧ ∀ a, (∀ i, i ∈ is → a < i) → ∀ p, l[a]? = some p → ∀ q, q ∈ picks l is → R p q
  | [], _ => ⟨List.Pairwise.nil, fun _ _ _ _ _ h => by cases h⟩
  | i :: is, hi => by
    have hi2 : incr is = true ∧ ∀ j, j ∈ is → i < j := by
      clear h
      induction is generalizing i with
      | nil => exact ⟨rfl, fun _ h => by cases h⟩
      | cons b is ih =>
        simp only [incr, Bool.and_eq_true, decide_eq_true_eq] at hi
        refine ⟨hi.2, fun j hj => ?_⟩
        rcases List.mem_cons.1 hj with rfl | hj
        · exact hi.1
        · exact Nat.lt_trans hi.1 ((ih b hi.2).2 j hj)
    obtain ⟨h1, h2⟩ := picks_pair h is hi2.1
    have e : picks l (i :: is) = match l[i]? with | some x => x :: picks l is | none => picks l is := by
      unfold picks; rw [List.filterMap_cons]; cases l[i]? <;> rfl
    rw [e]
    cases hx : l[i]? with
    | none => exact ⟨h1, fun a ha p hp q hq => h2 a (fun j hj => ha j (List.mem_cons_of_mem _ hj)) p hp q hq⟩
    | some x =>
      refine ⟨List.Pairwise.cons (fun q hq => h2 i hi2.2 x hx q hq) h1, fun a ha p hp q hq => ?_⟩
      rcases List.mem_cons.1 hq with rfl | hq
      · have hai := ha i (List.mem_cons_self ..)
        obtain ⟨ha1, rfl⟩ := List.getElem?_eq_some_iff.1 hp
        obtain ⟨hi1, rfl⟩ := List.getElem?_eq_some_iff.1 hx
        exact List.pairwise_iff_getElem.1 h a i ha1 hi1 hai
      · exact h2 a (fun j hj => ha j (List.mem_cons_of_mem _ hj)) p hp q hq
/-- Some rows and some facts are let go. -/
theorem Sx.pick {w W : World} {L : List (Nat × Obj)} {X : List Xt} (h : Sx w L X W) (is js : List Nat) (hi : incr is = true) (hj : incr js = true) : Sx w (picks L is) (picks X js) W :=
  ⟨h.below, fun p hp => h.rows p (picks_mem hp), (picks_pair h.apart is hi).1, fun q hq => h.ext q (picks_mem hq), fun p hp q hq => h.sep p (picks_mem hp) q (picks_mem hq), fun q hq => h.bound q (picks_mem hq), (picks_pair h.excl js hj).1⟩
theorem Sx.fresh {w W : World} {L : List (Nat × Obj)} {X : List Xt} (h : Sx w L X W) {g : Nat} (hg : W.heap.size ≤ g) : ∀ p, p ∈ L → g ≠ p.1 := fun p hp => by have := lt_of_block (h.rows p hp); omega
/-- A row that a step has made. -/
theorem Sx.made {w W W' : World} {L : List (Nat × Obj)} {X : List Xt} (h : Sx w L X W) (hb : Below W.heap.size W W') {g : Nat} {o : Obj} (hg : W'.heap[g]? = some o) (hge : W.heap.size ≤ g) : Sx w ((g, o) :: L) X W' :=
  have k := h.keep hb
  ⟨k.below, fun p hp => by
    rcases List.mem_cons.1 hp with rfl | hp
    · exact hg
    · exact k.rows p hp, List.Pairwise.cons (fun p hp => h.fresh hge p hp) k.apart, k.ext, fun p hp q hq => by
    rcases List.mem_cons.1 hp with rfl | hp
    · exact fun hf => Nat.lt_irrefl _ (Nat.lt_of_lt_of_le (h.bound q hq _ hf) hge)
    · exact k.sep p hp q hq, k.bound, k.excl⟩
theorem Sx.alloc {w W : World} {L : List (Nat × Obj)} {X : List Xt} (h : Sx w L X W) (o : Obj) : Sx w ((W.heap.size, o) :: L) X (W.alloc o) :=
  h.made ((Below.refl _ _).alloc (Nat.le_refl _) o) (lastH W o _ rfl) (Nat.le_refl _)
theorem Sx.alloc0 {w W : World} {L : List (Nat × Obj)} {X : List Xt} (h : Sx w L X W) (o : Obj) : Sx w L X (W.alloc o) := h.keep ((Below.refl _ _).alloc (Nat.le_refl _) o)
/-- A fact more. -/
theorem Sx.addX {w W : World} {L : List (Nat × Obj)} {X : List Xt} (h : Sx w L X W) (q : Xt) (hq : q.holds W) (hs : ∀ p, p ∈ L → ¬ q.foot p.1) (hbd : ∀ b, q.foot b → b < W.heap.size) (hx : ∀ r, r ∈ X → (q.ex || r.ex) = true → ∀ b, q.foot b → ¬ r.foot b) : Sx w L (q :: X) W :=
  ⟨h.below, h.rows, h.apart, fun r hr => by
    rcases List.mem_cons.1 hr with rfl | hr
    · exact hq
    · exact h.ext r hr, fun p hp r hr => by
    rcases List.mem_cons.1 hr with rfl | hr
    · exact hs p hp
    · exact h.sep p hp r hr, fun r hr => by
    rcases List.mem_cons.1 hr with rfl | hr
    · exact hbd
    · exact h.bound r hr, List.Pairwise.cons hx h.excl⟩
/-- A fact on blocks that a step has made. -/
theorem Sx.madeX {w W W' : World} {L : List (Nat × Obj)} {X : List Xt} (h : Sx w L X W) (hb : Below W.heap.size W W') (q : Xt) (hq : q.holds W') (hge : ∀ b, q.foot b → W.heap.size ≤ b) (hbd : ∀ b, q.foot b → b < W'.heap.size) : Sx w L (q :: X) W' :=
  (h.keep hb).addX q hq (fun p hp hf => by have h1 := lt_of_block (h.rows p hp); have h2 := hge _ hf; omega) hbd (fun r hr _ b h1 h2 => by have h3 := h.bound r hr b h2; have h4 := hge b h1; omega)
/-- A row is written: block g alone changes. -/
theorem Sx.write {w W W' : World} {L : List (Nat × Obj)} {X : List Xt} (h : Sx w L X W) (i : Nat) {g : Nat} {o : Obj} (hi : L[i]? = some (g, o)) (o' : Obj)
    (hb : Below w.heap.size w W') (hs : W.heap.size ≤ W'.heap.size) (hold : ∀ b, b ≠ g → b < W.heap.size → W'.heap[b]? = W.heap[b]?) (hnew : W'.heap[g]? = some o') : Sx w (L.set i (g, o')) X W' := by
  have hlen : i < L.length := (List.getElem?_eq_some_iff.1 hi).1
  have e2 : L[i] = (g, o) := (List.getElem?_eq_some_iff.1 hi).2
  have hne : ∀ (j : Nat) (p : Nat × Obj), L[j]? = some p → j ≠ i → p.1 ≠ g := by
    intro j p hj hji
    have hjl : j < L.length := (List.getElem?_eq_some_iff.1 hj).1
    have e1 : L[j] = p := (List.getElem?_eq_some_iff.1 hj).2
    rcases Nat.lt_or_gt_of_ne hji with hlt | hgt
    · have := List.pairwise_iff_getElem.1 h.apart j i hjl hlen hlt
      rw [e1, e2] at this; exact this
    · have := List.pairwise_iff_getElem.1 h.apart i j hlen hjl hgt
      rw [e1, e2] at this; exact fun e => this e.symm
  have hmem : ∀ p, p ∈ L.set i (g, o') → p = (g, o') ∨ (p ∈ L ∧ p.1 ≠ g) := by
    intro p hp
    obtain ⟨j, hj⟩ := List.getElem?_of_mem hp
    rw [List.getElem?_set] at hj
    by_cases hij : i = j
    · subst hij
      rw [if_pos rfl, if_pos hlen] at hj
      cases hj; exact Or.inl rfl
    · rw [if_neg hij] at hj
      exact Or.inr ⟨List.mem_of_getElem? hj, hne j p hj (Ne.symm hij)⟩
  have hgm : (g, o) ∈ L := List.mem_of_getElem? hi
  refine ⟨hb, fun p hp => ?_, ?_, fun q hq => q.stays W W' (fun b hb2 hlt => hold b (fun e => h.sep _ hgm q hq (by rw [← e]; exact hb2)) hlt) hs (h.ext q hq), fun p hp q hq => ?_, fun q hq b hbq => Nat.lt_of_lt_of_le (h.bound q hq b hbq) hs, h.excl⟩
  · rcases hmem p hp with rfl | ⟨h1, h2⟩
    · exact hnew
    · exact (hold _ h2 (lt_of_block (h.rows p h1))).trans (h.rows p h1)
  · rw [List.pairwise_iff_getElem]
    intro a b ha hb2 hab
    have hal : a < L.length := by simpa using ha
    have hbl : b < L.length := by simpa using hb2
    have hp := List.pairwise_iff_getElem.1 h.apart a b hal hbl hab
    rw [List.getElem_set, List.getElem_set]
    by_cases e1 : i = a
    · subst e1
      rw [if_pos rfl, if_neg (by omega)]
      rw [e2] at hp; exact hp
    · rw [if_neg e1]
      by_cases e3 : i = b
      · subst e3
        rw [if_pos rfl]; rw [e2] at hp; exact hp
      · rw [if_neg e3]; exact hp
  · rcases hmem p hp with rfl | ⟨h1, h2⟩
    · exact h.sep _ hgm q hq
    · exact h.sep p h1 q hq
theorem Sx.setCell {w W : World} {L : List (Nat × Obj)} {X : List Xt} (h : Sx w L X W) (i : Nat) {g : Nat} {cs : Array Value} {t : TypeId} (hi : L[i]? = some (g, .cells cs t (0, 0))) (hg : w.heap.size ≤ g) (o : Nat) (v : Value) :
    Sx w (L.set i (g, .cells (cs.setIfInBounds o v) t (0, 0))) X (W.setCell ⟨g, o, none⟩ v) :=
  h.write i hi _ (h.below.setCell hg v) (Below.setCell (Below.refl 0 W) (p := ⟨g, o, none⟩) (Nat.zero_le _) v).size (fun b hb _ => heap_setCell_other W ⟨g, o, none⟩ b v hb) (heap_setCell_same W g o cs t v (h.at i hi))
theorem Sx.setRow {w W : World} {L : List (Nat × Obj)} {X : List Xt} (h : Sx w L X W) (i : Nat) {g : Nat} {cs : Array Value} {t : TypeId} (hi : L[i]? = some (g, .cells cs t (0, 0))) (hg : w.heap.size ≤ g) (c : Array Value) :
    Sx w (L.set i (g, .cells c t (0, 0))) X (W.setRow g c) :=
  h.write i hi _ (below_setRow h.below hg c) (by simp [World.setRow]) (fun b hb _ => setRow_other W g b c hb) (setRow_heap W g cs c t (0, 0) (h.at i hi))

/-- A row that is only read. -/
def xrow (g : Nat) (o : Obj) : Xt := ⟨false, fun b => b = g, fun W => W.heap[g]? = some o, fun _ _ hk _ h => (hk g rfl (lt_of_block h)).trans h⟩

/-- A fact more on the blocks of another one. -/
theorem Sx.dup {w W : World} {L : List (Nat × Obj)} {X : List Xt} (h : Sx w L X W) (i : Nat) {q : Xt} (hi : X[i]? = some q) (hex : q.ex = false) (q' : Xt) (hex' : q'.ex = false) (hf : ∀ b, q'.foot b → q.foot b) (hq' : q'.holds W) : Sx w L (q' :: X) W := by
  have hlen : i < X.length := (List.getElem?_eq_some_iff.1 hi).1
  have e2 : X[i] = q := (List.getElem?_eq_some_iff.1 hi).2
  have hqm : q ∈ X := List.mem_of_getElem? hi
  refine h.addX q' hq' (fun p hp hb => h.sep p hp q hqm (hf _ hb)) (fun b hb => h.bound q hqm b (hf b hb)) (fun r hr hrx b hb hrb => ?_)
  rw [hex', Bool.false_or] at hrx
  obtain ⟨j, hj⟩ := List.getElem?_of_mem hr
  have hjl : j < X.length := (List.getElem?_eq_some_iff.1 hj).1
  have e1 : X[j] = r := (List.getElem?_eq_some_iff.1 hj).2
  rcases Nat.lt_trichotomy i j with hlt | heq | hgt
  · have := List.pairwise_iff_getElem.1 h.excl i j hlen hjl hlt
    rw [e1, e2] at this; exact this (by rw [hrx]; simp) b (hf b hb) hrb
  · subst heq; rw [e2] at e1; subst e1; rw [hex] at hrx; cases hrx
  · have := List.pairwise_iff_getElem.1 h.excl j i hjl hlen hgt
    rw [e1, e2] at this; exact this (by rw [hrx]; rfl) b hrb (hf b hb)
/-- What hangs on blocks of its own is written. -/
theorem Sx.writeX {w W W' : World} {L : List (Nat × Obj)} {X : List Xt} (h : Sx w L X W) (i : Nat) {q q' : Xt} (hi : X[i]? = some q) (hex : q.ex = true) (hex' : q'.ex = true) (hq' : q'.holds W') (hf : ∀ b, q'.foot b → q.foot b ∨ W.heap.size ≤ b) (hbd' : ∀ b, q'.foot b → b < W'.heap.size)
    (hlow : ∀ b, q.foot b → w.heap.size ≤ b) (hos : W'.os = W.os) (htape : W'.tape = W.tape) (hout : W'.output = W.output) (hs : W.heap.size ≤ W'.heap.size) (hold : ∀ b, b < W.heap.size → ¬ q.foot b → W'.heap[b]? = W.heap[b]?) : Sx w L (X.set i q') W' := by
  have hlen : i < X.length := (List.getElem?_eq_some_iff.1 hi).1
  have e2 : X[i] = q := (List.getElem?_eq_some_iff.1 hi).2
  have hqm : q ∈ X := List.mem_of_getElem? hi
  have hmem : ∀ p, p ∈ X.set i q' → p = q' ∨ (p ∈ X ∧ ∀ b, q.foot b → ¬ p.foot b) := by
    intro p hp
    obtain ⟨j, hj⟩ := List.getElem?_of_mem hp
    rw [List.getElem?_set] at hj
    by_cases hij : i = j
    · subst hij
      rw [if_pos rfl, if_pos hlen] at hj
      cases hj; exact Or.inl rfl
    · rw [if_neg hij] at hj
      have hjl : j < X.length := (List.getElem?_eq_some_iff.1 hj).1
      have e1 : X[j] = p := (List.getElem?_eq_some_iff.1 hj).2
      refine Or.inr ⟨List.mem_of_getElem? hj, fun b hqb hpb => ?_⟩
      rcases Nat.lt_or_gt_of_ne hij with hlt | hgt
      · have := List.pairwise_iff_getElem.1 h.excl i j hlen hjl hlt
        rw [e1, e2] at this; exact this (by rw [hex]; rfl) b hqb hpb
      · have := List.pairwise_iff_getElem.1 h.excl j i hjl hlen hgt
        rw [e1, e2] at this; exact this (by rw [hex]; simp) b hpb hqb
  refine ⟨h.below.trans ⟨hos, htape, hout, hs, fun b hb => hold b (Nat.lt_of_lt_of_le hb h.below.size) (fun e => by have := hlow b e; omega)⟩, fun p hp => ?_, h.apart, fun p hp => ?_, fun p hp r hr => ?_, fun r hr b hb => ?_, ?_⟩
  · exact (hold _ (lt_of_block (h.rows p hp)) (h.sep p hp q hqm)).trans (h.rows p hp)
  · rcases hmem p hp with rfl | ⟨h1, h2⟩
    · exact hq'
    · exact p.stays W W' (fun b hb hlt => hold b hlt (fun e => h2 b e hb)) hs (h.ext p h1)
  · rcases hmem r hr with rfl | ⟨h1, h2⟩
    · intro e
      rcases hf _ e with h3 | h3
      · exact h.sep p hp q hqm h3
      · have := lt_of_block (h.rows p hp); omega
    · exact h.sep p hp r h1
  · rcases hmem r hr with rfl | ⟨h1, h2⟩
    · exact hbd' b hb
    · exact Nat.lt_of_lt_of_le (h.bound r h1 b hb) hs
  · have hnew : ∀ r, r ∈ X → (∀ b, q.foot b → ¬ r.foot b) → ∀ b, q'.foot b → ¬ r.foot b := fun r hr h2 b hb hrb => by
      rcases hf b hb with h3 | h3
      · exact h2 b h3 hrb
      · have := h.bound r hr b hrb; omega
    rw [List.pairwise_iff_getElem]
    intro a b ha hb2 hab
    have hal : a < X.length := by simpa using ha
    have hbl : b < X.length := by simpa using hb2
    have hp := List.pairwise_iff_getElem.1 h.excl a b hal hbl hab
    rw [List.getElem_set, List.getElem_set]
    by_cases e1 : i = a
    · subst e1
      rw [if_pos rfl, if_neg (by omega)]
      rw [e2] at hp
      exact fun _ => hnew _ (List.getElem_mem hbl) (hp (by rw [hex]; rfl))
    · rw [if_neg e1]
      by_cases e3 : i = b
      · subst e3
        rw [if_pos rfl]
        rw [e2] at hp
        exact fun _ c hc hc' => hnew _ (List.getElem_mem hal) (fun c h1 h2 => hp (by rw [hex]; simp) c h2 h1) c hc' hc
      · rw [if_neg e3]; exact hp

section steps
variable {P : Program} {ops : Array Oper} {rest : List Oper} {Q : Exit → Act → World → Prop} {o : Oper} {N : Nat} {T : Array Value} {W : World} {l : List (Nat × Value)}
/-- An operation of a plain region: what it yields and what becomes of the world, by a relation. -/
theorem so_step (hF : Fr N ⟨T, []⟩ l) {d : Nat} (hd : o.dst = some d) (hw : Region.wanted o (yielded ops T) = true) (hdN : d < N) (hl : (l.all fun p => p.1 != d) = true) (R : Value → World → Prop)
    (hop : ∀ K : Act → World → Prop, Hid (∀ v W', R v W' → K ((⟨T, []⟩ : Act).put o.dst v) W') → o.wp P ⟨T, []⟩ W K Q)
    (k : ∀ v T' W', R v W' → Fr N ⟨T', []⟩ ((d, v) :: l) → wpList P ops Q rest ⟨T', []⟩ W') : wpList P ops Q (o :: rest) ⟨T, []⟩ W :=
  wpList_step fun K hK => by
    rw [if_pos hw]
    refine hop K (fun v W' hR => ?_)
    rw [hd]
    exact hK _ _ (k v _ W' hR (hF.put d v hdN hl))
/-- .. that leaves the world as it is. -/
theorem so_pure (hF : Fr N ⟨T, []⟩ l) {d : Nat} (hd : o.dst = some d) (hw : Region.wanted o (yielded ops T) = true) (hdN : d < N) (hl : (l.all fun p => p.1 != d) = true) (v : Value)
    (hop : ∀ K : Act → World → Prop, Hid (K ((⟨T, []⟩ : Act).put o.dst v) W) → o.wp P ⟨T, []⟩ W K Q)
    (k : ∀ T', Fr N ⟨T', []⟩ ((d, v) :: l) → wpList P ops Q rest ⟨T', []⟩ W) : wpList P ops Q (o :: rest) ⟨T, []⟩ W :=
  so_step hF hd hw hdN hl (fun v' W' => v = v' ∧ W = W') (fun K hK => hop K (hK.out _ _ ⟨rfl, rfl⟩)) (fun v' T' W' h hF' => by obtain ⟨rfl, rfl⟩ := h; exact k T' hF')
/-- .. that yields nothing. -/
theorem so_step0 (hd : o.dst = none) (hw : Region.wanted o (yielded ops T) = true) (R : World → Prop)
    (hop : ∀ K : Act → World → Prop, Hid (∀ W', R W' → K ((⟨T, []⟩ : Act).put o.dst undef) W') → o.wp P ⟨T, []⟩ W K Q)
    (k : ∀ W', R W' → wpList P ops Q rest ⟨T, []⟩ W') : wpList P ops Q (o :: rest) ⟨T, []⟩ W :=
  wpList_step fun K hK => by
    rw [if_pos hw]
    refine hop K (fun W' hR => ?_)
    rw [hd]
    exact hK _ _ (k W' hR)
/-- .. that isn't wanted. -/
theorem so_off (hF : Fr N ⟨T, []⟩ l) {d : Nat} (hd : o.dst = some d) (hw : Region.wanted o (yielded ops T) = false) (hdN : d < N) (hl : (l.all fun p => p.1 != d) = true)
    (k : ∀ T', Fr N ⟨T', []⟩ l → wpList P ops Q rest ⟨T', []⟩ W) : wpList P ops Q (o :: rest) ⟨T, []⟩ W :=
  wpList_step fun K hK => by
    rw [if_neg (by rw [hw]; simp), hd]
    refine hK _ _ (k _ ?_)
    have h := hF.put d undef hdN hl
    exact ⟨h.size, h.defers, fun p hp => h.known p (List.mem_cons_of_mem _ hp)⟩
theorem so_offU (hF : Fr N ⟨T, []⟩ l) {d : Nat} (hd : o.dst = some d) (hw : Region.wanted o (yielded ops T) = false) (hdN : d < N) (hl : (l.all fun p => p.1 != d) = true)
    (k : ∀ T', Fr N ⟨T', []⟩ ((d, undef) :: l) → wpList P ops Q rest ⟨T', []⟩ W) : wpList P ops Q (o :: rest) ⟨T, []⟩ W :=
  wpList_step fun K hK => by
    rw [if_neg (by rw [hw]; simp), hd]
    exact hK _ _ (k _ (hF.put d undef hdN hl))
theorem wantedU {l0 : List Oper} {oj : Oper} {j d : Nat} {b : Bool} (hF : Fr N ⟨T, []⟩ l) (hg : o.guard = some (j, b)) (ho : l0[j]? = some oj) (hd : oj.dst = some d) (hdN : d < N) (i : Nat) (hi : l[i]? = some (d, undef)) : Region.wanted o (yielded l0.toArray T) = false := by
  have hlt : d < T.size := by have := hF.size; simp only at this; omega
  have hv : slot T d = undef := hF.known (d, undef) (List.mem_of_getElem? hi)
  have h1 : T[d]? = some undef := by
    rw [Array.getElem?_eq_getElem hlt]
    simp [slot, Array.getD, hlt] at hv
    rw [hv]
  simp only [Region.wanted, hg, yielded, List.getElem?_toArray, ho, Option.bind_some, hd, h1]
  rfl
theorem wantedT {l0 : List Oper} {oj : Oper} {j d : Nat} {b c : Bool} (hF : Fr N ⟨T, []⟩ l) (hg : o.guard = some (j, b)) (ho : l0[j]? = some oj) (hd : oj.dst = some d) (hdN : d < N) (i : Nat) (hi : l[i]? = some (d, .bool c)) : Region.wanted o (yielded l0.toArray T) = (c == b) :=
  wanted_by hg ho hd (by have := hF.size; simp only at this; omega) (hF.known (d, .bool c) (List.mem_of_getElem? hi))
end steps

theorem relOps_dst {n : Nat} {l : List Oper} (hp : relOps n l = true) : ∀ d, d ∈ l.filterMap (·.dst) → d < n := fun d hd => by
  obtain ⟨o, ho, hod⟩ := List.mem_filterMap.1 hd
  obtain ⟨i, hi⟩ := List.getElem?_of_mem ho
  have h1 := List.all_eq_true.1 hp i (List.mem_range.2 (List.getElem?_eq_some_iff.1 hi).1)
  rw [hi] at h1
  simp only [hod, Bool.and_eq_true, decide_eq_true_eq] at h1
  exact h1.2.1
/-- A drawn region that makes no variable and writes none, from a frame of which some slots are known. -/
theorem wp_region_relF {P : Program} {l : List Oper} {Q : Exit → Act → World → Prop} {id N : Nat} {T0 : Array Value} {w : World} {F : List (Nat × Value)} (hF : Fr N ⟨T0, []⟩ F) (hm : P.follows .mixedOrders = true) (hp : relOps N l = true)
    (Rs : List (Value → World → Prop)) (J : World → Prop) (hst : ∀ p, p ∈ Rs → Stable p)
    (h0 : J w.drew) (step : RelSteps P l T0 Rs J Q 0 l)
    (ds : List Tmp) (hds : l.filterMap (·.dst) = ds)
    (fin : ∀ (T : Array Value) W, J W → T.size = N → (∀ (i : Nat) (o : Oper) (d : Tmp), l[i]? = some o → o.dst = some d → (Rs.getD i (fun _ _ => True)) (slot T d) W) → (∀ s, s ∉ ds → slot T s = slot T0 s) → Q .normal ⟨T, []⟩ W) : (Code.region id l.toArray true).wp P Q ⟨T0, []⟩ w := by
  have hsz : T0.size = N := hF.size
  have hlt := relOps_dst hp
  rw [hds] at hlt
  refine wp_region_rel hm (by rw [hsz]; exact hp) Rs J hst h0 step ds hds (fun V W hJ hd => ?_)
  refine fin _ W hJ (by rw [sets_size, hsz]) (fun i o d hi hdst => ?_) (fun s hs => ?_)
  · rw [slot_sets V ds T0 d (fun x hx => by rw [hsz]; exact hlt x hx), if_pos (by rw [← hds]; exact List.mem_filterMap.2 ⟨o, List.mem_of_getElem? hi, hdst⟩)]
    exact hd i o d hi hdst
  · rw [slot_sets V ds T0 s (fun x hx => by rw [hsz]; exact hlt x hx), if_neg hs]

/-- What holds when a set of operations has been carried out; the world's condition hangs on that set. -/
structure RelInvL (ops : List Oper) (T0 : Array Value) (Rs : List (Value → World → Prop)) (J : (Nat → Bool) → World → Prop) (L : Nat → Bool) (a : Act) (W : World) : Prop where
  defers : a.defers = []
  size : a.tmps.size = T0.size
  st : J L W
  done : ∀ (i : Nat) (o : Oper) (d : Tmp), ops[i]? = some o → L i = true → o.dst = some d → (Rs.getD i (fun _ _ => True)) (slot a.tmps d) W
  rest : ∀ s, (∀ (i : Nat) (o : Oper), ops[i]? = some o → o.dst = some s → L i = false) → slot a.tmps s = slot T0 s
  shut : ∀ (i : Nat) (o : Oper), ops[i]? = some o → L i = true → ∀ e ∈ o.after, Region.binds .any e = true → L e.on = true
/-- What is known of values stays. -/
def Stay (Rs : List (Value → World → Prop)) (W W' : World) : Prop := ∀ p, p ∈ Rs → ∀ v, p v W → p v W'
theorem stayB {Rs : List (Value → World → Prop)} (hst : ∀ p, p ∈ Rs → Stable p) {W W' : World} (hb : Below W.heap.size W W') : Stay Rs W W' := fun p hp v h => hst p hp v W W' hb h
def RelStepL (P : Program) (ops : List Oper) (T0 : Array Value) (Rs : List (Value → World → Prop)) (J : (Nat → Bool) → World → Prop) (Q : Exit → Act → World → Prop) (i : Nat) (o : Oper) : Prop :=
  ∀ (L : Nat → Bool) (T : Array Value) (W : World), T.size = T0.size → J L W → L i = false → (∀ j, (∃ e ∈ o.after, Region.binds .any e = true ∧ e.on = j) → L j = true) →
    (∀ j d, (∃ e ∈ o.after, Region.binds .any e = true ∧ e.on = j) → (ops[j]?.bind (·.dst)) = some d → (Rs.getD j (fun _ _ => True)) (slot T d) W) →
    (∀ s, (∀ (j : Nat) (o' : Oper), ops[j]? = some o' → o'.dst = some s → i = j ∨ ∃ e ∈ o'.after, Region.binds .any e = true ∧ e.on = i) → slot T s = slot T0 s) →
    ∀ K : Act → World → Prop, (∀ v W', (Rs.getD i (fun _ _ => True)) v W' → J (also L i) W' → Stay Rs W W' → K ((⟨T, []⟩ : Act).put o.dst v) W') →
      if Region.wanted o (yielded ops.toArray T) = true then Oper.wp P o ⟨T, []⟩ W K Q else K ((⟨T, []⟩ : Act).put o.dst undef) W
def RelStepsL (P : Program) (ops : List Oper) (T0 : Array Value) (Rs : List (Value → World → Prop)) (J : (Nat → Bool) → World → Prop) (Q : Exit → Act → World → Prop) : Nat → List Oper → Prop
  | _, [] => True
  | i, o :: rest => RelStepL P ops T0 Rs J Q i o ∧ RelStepsL P ops T0 Rs J Q (i + 1) rest
theorem RelStepsL.at_ {P : Program} {ops : List Oper} {T0 : Array Value} {Rs : List (Value → World → Prop)} {J : (Nat → Bool) → World → Prop} {Q : Exit → Act → World → Prop} : ∀ {l : List Oper} {i : Nat}, RelStepsL P ops T0 Rs J Q i l → ∀ (j : Nat) (o : Oper), l[j]? = some o → RelStepL P ops T0 Rs J Q (i + j) o
  | [], _, _, j, o, h => by simp at h
  | x :: l, i, hs, 0, o, h => by simp at h; subst h; exact hs.1
  | x :: l, i, hs, j + 1, o, h => by
    have := RelStepsL.at_ hs.2 j o (by simpa using h)
    rwa [show i + 1 + j = i + (j + 1) by omega] at this
theorem stay_nil {W W' : World} : Stay [] W W' := fun _ h => by cases h
theorem stay_cons {p : Value → World → Prop} {Rs : List (Value → World → Prop)} {W W' : World} (h : ∀ v, p v W → p v W') (hl : Stay Rs W W') : Stay (p :: Rs) W W' := fun q hq v hv => by
  rcases List.mem_cons.1 hq with rfl | hq
  · exact h v hv
  · exact hl q hq v hv
theorem wp_region_relL {P : Program} {l : List Oper} {Q : Exit → Act → World → Prop} {id N : Nat} {T0 : Array Value} {w : World} {F : List (Nat × Value)} (hF : Fr N ⟨T0, []⟩ F) (hm : P.follows .mixedOrders = true) (hp : relOps N l = true)
    (Rs : List (Value → World → Prop)) (J : (Nat → Bool) → World → Prop) (h0 : J (fun _ => false) w.drew) (step : RelStepsL P l T0 Rs J Q 0 l)
    (ds : List Tmp) (hds : l.filterMap (·.dst) = ds)
    (fin : ∀ (T : Array Value) (L : Nat → Bool) W, (∀ i, i < l.length → L i = true) → J L W → T.size = N → (∀ (i : Nat) (o : Oper) (d : Tmp), l[i]? = some o → o.dst = some d → (Rs.getD i (fun _ _ => True)) (slot T d) W) → (∀ s, s ∉ ds → slot T s = slot T0 s) → Q .normal ⟨T, []⟩ W) : (Code.region id l.toArray true).wp P Q ⟨T0, []⟩ w := by
  have hsz : T0.size = N := hF.size
  have look : ∀ (i : Nat) (o : Oper), l[i]? = some o → (∀ e ∈ o.after, Region.binds .any e = true → e.on < i) ∧ (∀ d, o.dst = some d → d < T0.size ∧ ∀ j o', j < i → l[j]? = some o' → o'.dst ≠ some d) := by
    intro i o ho
    have hi : i < l.length := (List.getElem?_eq_some_iff.1 ho).1
    have h1 := List.all_eq_true.1 hp i (List.mem_range.2 hi)
    rw [ho, Bool.and_eq_true] at h1
    refine ⟨fun e he hbd => ?_, fun d hd => ?_⟩
    · have h2 := Array.all_eq_true_iff_forall_mem.1 h1.1 e he
      rw [hbd] at h2
      simpa using h2
    · have h2 := h1.2
      rw [hd] at h2
      simp only [Bool.and_eq_true, decide_eq_true_eq] at h2
      refine ⟨by rw [hsz]; exact h2.1, fun j o' hj ho' => ?_⟩
      have h3 := List.all_eq_true.1 h2.2 j (List.mem_range.2 hj)
      rw [ho'] at h3
      simpa using h3
  have one : ∀ (i j : Nat) (o o' : Oper) (d : Tmp), l[i]? = some o → l[j]? = some o' → o.dst = some d → o'.dst = some d → i = j := by
    intro i j o o' d h1 h2 h3 h4
    rcases Nat.lt_trichotomy i j with h | h | h
    · exact absurd h3 ((look j o' h2).2 d h4 |>.2 i o h h1)
    · exact h
    · exact absurd h4 ((look i o h1).2 d h3 |>.2 j o' h h2)
  refine wp_region_inv l.length (by simp) hm (fun i o ho => (look i o (by simpa using ho)).1) (RelInvL l T0 Rs J) ?_ ?_ ?_
  · exact ⟨rfl, rfl, h0, fun i o d _ h => by simp at h, fun s _ => rfl, fun i o _ h => by simp at h⟩
  · intro i o ho L a W hI hf hd
    have ho' : l[i]? = some o := by simpa using ho
    obtain ⟨T, ds⟩ := a
    obtain rfl : ds = [] := hI.defers
    have hs : T.size = T0.size := hI.size
    have hstep := step.at_ i o ho'
    rw [Nat.zero_add] at hstep
    have next : ∀ v W', (Rs.getD i (fun _ _ => True)) v W' → J (also L i) W' → Stay Rs W W' → RelInvL l T0 Rs J (also L i) ((⟨T, []⟩ : Act).put o.dst v) W' := by
      intro v W' hv hJ hb
      refine ⟨put_defers _ _ _, by rw [put_size]; exact hs, hJ, fun k ok d hk hL hdk => ?_, fun s hno => ?_, fun k ok hk hL e he hbd => ?_⟩
      · by_cases hki : k = i
        · subst hki
          have : ok = o := by rw [ho'] at hk; exact (Option.some.inj hk).symm
          subst this
          rw [hdk, slot_put_same T d v (by rw [hs]; exact ((look k ok ho').2 d hdk).1)]
          exact hv
        · have hL' : L k = true := by simpa [also, hki] using hL
          rw [slot_put_other _ _ _ _ (fun e => hki (one k i ok o d hk ho' hdk e))]
          have hdone := hI.done k ok d hk hL' hdk
          rw [List.getD_eq_getElem?_getD] at hdone ⊢
          cases hr : Rs[k]? with
          | none => simp
          | some p => rw [hr] at hdone; exact hb p (List.mem_of_getElem? hr) _ hdone
      · rw [slot_put_other _ _ _ _ (fun e => by have := hno i o ho' e; simp [also] at this)]
        exact hI.rest s (fun k ok hk hdk => by have := hno k ok hk hdk; simp [also] at this; exact this.2)
      · by_cases hki : k = i
        · subst hki
          have : ok = o := by rw [ho'] at hk; exact (Option.some.inj hk).symm
          subst this
          have := hd e he hbd
          simp [also, this]
        · have hL' : L k = true := by simpa [also, hki] using hL
          have := hI.shut k ok hk hL' e he hbd
          simp [also, this]
    exact hstep L T W hs hI.st hf (fun j hj => by obtain ⟨e, he, hbd, rfl⟩ := hj; exact hd e he hbd) (fun j d hj hdj => by
      obtain ⟨e, he, hbd, rfl⟩ := hj
      cases ho2 : l[e.on]? with
      | none => rw [ho2] at hdj; simp at hdj
      | some oj =>
        rw [ho2] at hdj
        exact hI.done _ oj d ho2 (hd e he hbd) hdj) (fun s hno => hI.rest s (fun j o' hj hdj => by
      rcases hno j o' hj hdj with rfl | ⟨e, he, hbd, hon⟩
      · exact hf
      · cases hL : L j with
        | false => rfl
        | true =>
          have := hI.shut j o' hj hL e he hbd
          rw [hon, hf] at this; cases this)) (RelInvL l T0 Rs J (also L i)) next
  · intro L a W hall hI
    obtain ⟨T, ds'⟩ := a
    obtain rfl : ds' = [] := hI.defers
    refine fin T L W hall hI.st (hI.size.trans hsz) (fun i o d ho hd => hI.done i o d ho (hall i (List.getElem?_eq_some_iff.1 ho).1) hd) (fun s hs => hI.rest s (fun i o ho hd => absurd (by rw [← hds]; exact List.mem_filterMap.2 ⟨o, List.mem_of_getElem? ho, hd⟩) hs))

section ints
variable {P : Program} {o : Oper} {a : Act} {W : World} {K : Act → World → Prop} {Q : Exit → Act → World → Prop} {t ty : TypeId} {x y : Operand} {k k' : IntKind} {m n : Int}
theorem wp_eql (ho : o.op = .binOp .eql t x y ty) (hx : a.eval x = .int k m) (hy : a.eval y = .int k n) (b : Bool) (h : (m = n) ↔ b = true) (hk : Hid (K (a.put o.dst (.bool b)) W)) : o.wp P a W K Q := by
  obtain rfl : b = (decide (m = n)) := by rw [Bool.eq_iff_iff, ← h]; simp
  unfold Oper.wp execOp
  simp [ho, hx, hy, eqGuard, binOp, Op.intCmp]
  exact hk.out
theorem wp_eql_t (ho : o.op = .binOp .eql t x y ty) (hx : a.eval x = .int k m) (hy : a.eval y = .int k n) (h : m = n) (hk : Hid (K (a.put o.dst (.bool true)) W)) : o.wp P a W K Q := wp_eql ho hx hy true ⟨fun _ => rfl, fun _ => h⟩ hk
theorem wp_eql_f (ho : o.op = .binOp .eql t x y ty) (hx : a.eval x = .int k m) (hy : a.eval y = .int k n) (h : ¬ (m = n)) (hk : Hid (K (a.put o.dst (.bool false)) W)) : o.wp P a W K Q := wp_eql ho hx hy false ⟨fun h' => absurd h' h, fun h' => by cases h'⟩ hk
theorem wp_neq (ho : o.op = .binOp .neq t x y ty) (hx : a.eval x = .int k m) (hy : a.eval y = .int k n) (b : Bool) (h : (m ≠ n) ↔ b = true) (hk : Hid (K (a.put o.dst (.bool b)) W)) : o.wp P a W K Q := by
  obtain rfl : b = (!decide (m = n)) := by rw [Bool.eq_iff_iff, ← h]; simp
  unfold Oper.wp execOp
  simp [ho, hx, hy, eqGuard, binOp, Op.intCmp]
  exact hk.out
theorem wp_neq_t (ho : o.op = .binOp .neq t x y ty) (hx : a.eval x = .int k m) (hy : a.eval y = .int k n) (h : m ≠ n) (hk : Hid (K (a.put o.dst (.bool true)) W)) : o.wp P a W K Q := wp_neq ho hx hy true ⟨fun _ => rfl, fun _ => h⟩ hk
theorem wp_neq_f (ho : o.op = .binOp .neq t x y ty) (hx : a.eval x = .int k m) (hy : a.eval y = .int k n) (h : ¬ (m ≠ n)) (hk : Hid (K (a.put o.dst (.bool false)) W)) : o.wp P a W K Q := wp_neq ho hx hy false ⟨fun h' => absurd h' h, fun h' => by cases h'⟩ hk
theorem wp_lss (ho : o.op = .binOp .lss t x y ty) (hx : a.eval x = .int k m) (hy : a.eval y = .int k n) (b : Bool) (h : (m < n) ↔ b = true) (hk : Hid (K (a.put o.dst (.bool b)) W)) : o.wp P a W K Q := by
  obtain rfl : b = (decide (m < n)) := by rw [Bool.eq_iff_iff, ← h]; simp
  unfold Oper.wp execOp
  simp [ho, hx, hy, eqGuard, binOp, Op.intCmp]
  exact hk.out
theorem wp_lss_t (ho : o.op = .binOp .lss t x y ty) (hx : a.eval x = .int k m) (hy : a.eval y = .int k n) (h : m < n) (hk : Hid (K (a.put o.dst (.bool true)) W)) : o.wp P a W K Q := wp_lss ho hx hy true ⟨fun _ => rfl, fun _ => h⟩ hk
theorem wp_lss_f (ho : o.op = .binOp .lss t x y ty) (hx : a.eval x = .int k m) (hy : a.eval y = .int k n) (h : ¬ (m < n)) (hk : Hid (K (a.put o.dst (.bool false)) W)) : o.wp P a W K Q := wp_lss ho hx hy false ⟨fun h' => absurd h' h, fun h' => by cases h'⟩ hk
theorem wp_leq (ho : o.op = .binOp .leq t x y ty) (hx : a.eval x = .int k m) (hy : a.eval y = .int k n) (b : Bool) (h : (m ≤ n) ↔ b = true) (hk : Hid (K (a.put o.dst (.bool b)) W)) : o.wp P a W K Q := by
  obtain rfl : b = (decide (m ≤ n)) := by rw [Bool.eq_iff_iff, ← h]; simp
  unfold Oper.wp execOp
  simp [ho, hx, hy, eqGuard, binOp, Op.intCmp]
  exact hk.out
theorem wp_leq_t (ho : o.op = .binOp .leq t x y ty) (hx : a.eval x = .int k m) (hy : a.eval y = .int k n) (h : m ≤ n) (hk : Hid (K (a.put o.dst (.bool true)) W)) : o.wp P a W K Q := wp_leq ho hx hy true ⟨fun _ => rfl, fun _ => h⟩ hk
theorem wp_leq_f (ho : o.op = .binOp .leq t x y ty) (hx : a.eval x = .int k m) (hy : a.eval y = .int k n) (h : ¬ (m ≤ n)) (hk : Hid (K (a.put o.dst (.bool false)) W)) : o.wp P a W K Q := wp_leq ho hx hy false ⟨fun h' => absurd h' h, fun h' => by cases h'⟩ hk
theorem wp_gtr (ho : o.op = .binOp .gtr t x y ty) (hx : a.eval x = .int k m) (hy : a.eval y = .int k n) (b : Bool) (h : (m > n) ↔ b = true) (hk : Hid (K (a.put o.dst (.bool b)) W)) : o.wp P a W K Q := by
  obtain rfl : b = (decide (m > n)) := by rw [Bool.eq_iff_iff, ← h]; simp
  unfold Oper.wp execOp
  simp [ho, hx, hy, eqGuard, binOp, Op.intCmp]
  exact hk.out
theorem wp_gtr_t (ho : o.op = .binOp .gtr t x y ty) (hx : a.eval x = .int k m) (hy : a.eval y = .int k n) (h : m > n) (hk : Hid (K (a.put o.dst (.bool true)) W)) : o.wp P a W K Q := wp_gtr ho hx hy true ⟨fun _ => rfl, fun _ => h⟩ hk
theorem wp_gtr_f (ho : o.op = .binOp .gtr t x y ty) (hx : a.eval x = .int k m) (hy : a.eval y = .int k n) (h : ¬ (m > n)) (hk : Hid (K (a.put o.dst (.bool false)) W)) : o.wp P a W K Q := wp_gtr ho hx hy false ⟨fun h' => absurd h' h, fun h' => by cases h'⟩ hk
theorem wp_geq (ho : o.op = .binOp .geq t x y ty) (hx : a.eval x = .int k m) (hy : a.eval y = .int k n) (b : Bool) (h : (m ≥ n) ↔ b = true) (hk : Hid (K (a.put o.dst (.bool b)) W)) : o.wp P a W K Q := by
  obtain rfl : b = (decide (m ≥ n)) := by rw [Bool.eq_iff_iff, ← h]; simp
  unfold Oper.wp execOp
  simp [ho, hx, hy, eqGuard, binOp, Op.intCmp]
  exact hk.out
theorem wp_geq_t (ho : o.op = .binOp .geq t x y ty) (hx : a.eval x = .int k m) (hy : a.eval y = .int k n) (h : m ≥ n) (hk : Hid (K (a.put o.dst (.bool true)) W)) : o.wp P a W K Q := wp_geq ho hx hy true ⟨fun _ => rfl, fun _ => h⟩ hk
theorem wp_geq_f (ho : o.op = .binOp .geq t x y ty) (hx : a.eval x = .int k m) (hy : a.eval y = .int k n) (h : ¬ (m ≥ n)) (hk : Hid (K (a.put o.dst (.bool false)) W)) : o.wp P a W K Q := wp_geq ho hx hy false ⟨fun h' => absurd h' h, fun h' => by cases h'⟩ hk
theorem wp_add (ho : o.op = .binOp .add t x y ty) (hx : a.eval x = .int k m) (hy : a.eval y = .int k n) (r : Int) (h : k.wrap (m + n) = r) (hk : Hid (K (a.put o.dst (.int k r)) W)) : o.wp P a W K Q := by
  unfold Oper.wp execOp
  simp [ho, hx, hy, eqGuard, binOp, Op.intArith, h]
  exact hk.out
theorem wp_sub (ho : o.op = .binOp .sub t x y ty) (hx : a.eval x = .int k m) (hy : a.eval y = .int k n) (r : Int) (h : k.wrap (m - n) = r) (hk : Hid (K (a.put o.dst (.int k r)) W)) : o.wp P a W K Q := by
  unfold Oper.wp execOp
  simp [ho, hx, hy, eqGuard, binOp, Op.intArith, h]
  exact hk.out
theorem wp_mul (ho : o.op = .binOp .mul t x y ty) (hx : a.eval x = .int k m) (hy : a.eval y = .int k n) (r : Int) (h : k.wrap (m * n) = r) (hk : Hid (K (a.put o.dst (.int k r)) W)) : o.wp P a W K Q := by
  unfold Oper.wp execOp
  simp [ho, hx, hy, eqGuard, binOp, Op.intArith, h]
  exact hk.out
theorem wp_quo (ho : o.op = .binOp .quo t x y ty) (hx : a.eval x = .int k m) (hy : a.eval y = .int k n) (h0 : n ≠ 0) (r : Int) (h : k.wrap (m.tdiv n) = r) (hk : Hid (K (a.put o.dst (.int k r)) W)) : o.wp P a W K Q := by
  unfold Oper.wp execOp
  simp [ho, hx, hy, eqGuard, binOp, Op.intDiv, h0, h]
  exact hk.out
theorem wp_rem (ho : o.op = .binOp .rem t x y ty) (hx : a.eval x = .int k m) (hy : a.eval y = .int k n) (h0 : n ≠ 0) (r : Int) (h : m.tmod n = r) (hk : Hid (K (a.put o.dst (.int k r)) W)) : o.wp P a W K Q := by
  unfold Oper.wp execOp
  simp [ho, hx, hy, eqGuard, binOp, Op.intDiv, h0, h]
  exact hk.out
theorem wp_shl (ho : o.op = .binOp .shl t x y ty) (hx : a.eval x = .int k m) (hy : a.eval y = .int k' n) (h0 : 0 ≤ n) (r : Int) (h : k.wrap (m * 2 ^ min n.toNat k.bits) = r) (hk : Hid (K (a.put o.dst (.int k r)) W)) : o.wp P a W K Q := by
  unfold Oper.wp execOp
  simp [ho, hx, hy, eqGuard, binOp, Op.shift, show ¬ n < 0 by omega, h]
  exact hk.out
theorem wp_shr (ho : o.op = .binOp .shr t x y ty) (hx : a.eval x = .int k m) (hy : a.eval y = .int k' n) (h0 : 0 ≤ n) (r : Int) (h : m.fdiv (2 ^ min n.toNat k.bits) = r) (hk : Hid (K (a.put o.dst (.int k r)) W)) : o.wp P a W K Q := by
  unfold Oper.wp execOp
  simp [ho, hx, hy, eqGuard, binOp, Op.shift, show ¬ n < 0 by omega, h]
  exact hk.out
theorem wp_int (ho : o.op = .convert t ty x) (hx : a.eval x = .int k n) {d : TypeDesc} (hs : P.underlying t = some d) (hd : P.underlying ty = some (.int k')) (r : Int) (h : k'.wrap n = r) (hk : Hid (K (a.put o.dst (.int k' r)) W)) : o.wp P a W K Q := by
  unfold Oper.wp execOp
  simp [ho, hx, convert, run_underlying hs, run_underlying hd, Conv.intToInt, h]
  exact hk.out
theorem wp_move {v : Value} (ho : o.op = .move x) (hx : a.eval x = v) (hk : Hid (K (a.put o.dst v) W)) : o.wp P a W K Q := by
  unfold Oper.wp execOp
  simp only [ho, hx]
  exact hk.out
theorem wp_assign {v : Value} (ho : o.op = .assign x) (hx : a.eval x = v) (hk : Hid (K (a.put o.dst v) W)) : o.wp P a W K Q := by
  unfold Oper.wp execOp
  simp only [ho, hx]
  exact hk.out
theorem wp_pick {c : Operand} {b : Bool} {v : Value} (ho : o.op = .pick c x y) (hc : a.eval c = .bool b) (hv : a.eval (if b then x else y) = v) (hk : Hid (K (a.put o.dst v) W)) : o.wp P a W K Q := by
  unfold Oper.wp execOp
  cases b <;> simp only [Bool.false_eq_true, if_true, if_false] at hv <;> simp [ho, hc, hv, asBool] <;> exact hk.out
theorem wp_extract {i : Nat} {vs : Array Value} {v : Value} (ho : o.op = .extract x i) (hx : a.eval x = .tuple vs) (hi : vs[i]? = some v) (hk : Hid (K (a.put o.dst v) W)) : o.wp P a W K Q := by
  unfold Oper.wp execOp
  simp [ho, hx, Instr.extract, hi]
  exact hk.out
theorem wp_len {A : Option Addr} {l c : Nat} {e : TypeId} {tt : TypeId} (ho : o.op = .call { callee := .builtin .len, args := #[x], argTypes := #[tt] }) (hx : a.eval x = .slice A l c) (hu : P.underlying tt = some (.slice e)) (hk : Hid (K (a.put o.dst (.int .i64 (l : Int))) W)) : o.wp P a W K Q := by
  unfold Oper.wp execOp
  simp [ho, hx, resolve, invoke, builtin, Builtin.len_, run_underlying hu, goInt]
  exact hk.out
theorem wp_lens {s : ByteArray} {tt : TypeId} (ho : o.op = .call { callee := .builtin .len, args := #[x], argTypes := #[tt] }) (hx : a.eval x = .string s) (hu : P.underlying tt = some .string) (hk : Hid (K (a.put o.dst (.int .i64 (s.size : Int))) W)) : o.wp P a W K Q := by
  unfold Oper.wp execOp
  simp [ho, hx, resolve, invoke, builtin, Builtin.len_, run_underlying hu, goInt]
  exact hk.out
theorem wp_ixs {b off l c s : Nat} {e : TypeId} (ho : o.op = .indexAddr t x y) (hx : a.eval x = .slice (some ⟨b, off, none⟩) l c) (hy : a.eval y = .int k m) (hu : P.underlying t = some (.slice e)) (hs : ∀ w, (Go.sizeOf e).run P w = .ok s w) (h0 : 0 ≤ m) (h1 : m < l) (of : Nat) (hof : of = off + m.toNat * s)
    (hk : Hid (K (a.put o.dst (.pointer (some ⟨b, of, none⟩))) W)) : o.wp P a W K Q := by
  have hadd : (⟨b, off, none⟩ : Addr).add (m.toNat * s) = ⟨b, of, none⟩ := by unfold Addr.add; split <;> simp_all
  unfold Oper.wp execOp
  simp [ho, hx, hy, Instr.indexAt, asIntOf, run_underlying hu, hs, h0, h1, hadd]
  exact hk.out
theorem wp_ld {g of : Nat} {d : TypeDesc} {v : Value} (ho : o.op = .load t x) (hx : a.eval x = .pointer (some ⟨g, of, none⟩)) (hu : P.underlying t = some d) (hd : (match d with | .struct _ | .array _ _ => false | _ => true) = true) (hc : W.cell? ⟨g, of, none⟩ = some v) (hk : Hid (K (a.put o.dst v) W)) : o.wp P a W K Q := by
  have e : (loadVar t ⟨g, of, none⟩).run P W = .ok v W := by
    unfold loadVar isAgg
    cases d <;> simp [run_underlying hu, hc] at hd ⊢
  unfold Oper.wp execOp
  simp [ho, hx, Instr.loadAt, Instr.sureAddr, e]
  exact hk.out
theorem bytes_eq (s u : ByteArray) : (s.toList == u.toList) = decide (s = u) := by
  rw [Bool.eq_iff_iff]; simp [ByteArray.toList_eq]
  exact ⟨fun h => ByteArray.ext h, fun h => by rw [h]⟩
theorem wp_eqs {s u : ByteArray} (ho : o.op = .binOp .eql t x y ty) (hx : a.eval x = .string s) (hy : a.eval y = .string u) (b : Bool) (h : s = u ↔ b = true) (hk : Hid (K (a.put o.dst (.bool b)) W)) : o.wp P a W K Q := by
  obtain rfl : b = decide (s = u) := by rw [Bool.eq_iff_iff, ← h]; simp
  unfold Oper.wp execOp
  simp [ho, hx, hy, eqGuard, binOp, Op.stringOp, bytes_eq]
  exact hk.out
theorem wp_nes {s u : ByteArray} (ho : o.op = .binOp .neq t x y ty) (hx : a.eval x = .string s) (hy : a.eval y = .string u) (b : Bool) (h : s ≠ u ↔ b = true) (hk : Hid (K (a.put o.dst (.bool b)) W)) : o.wp P a W K Q := by
  obtain rfl : b = !decide (s = u) := by rw [Bool.eq_iff_iff, ← h]; simp
  unfold Oper.wp execOp
  simp [ho, hx, hy, eqGuard, binOp, Op.stringOp, bytes_eq]
  exact hk.out
theorem wp_adds {s u : ByteArray} (ho : o.op = .binOp .add t x y ty) (hx : a.eval x = .string s) (hy : a.eval y = .string u) (hn : s.size + u.size ≤ 9223372036854775807) (hk : Hid (K (a.put o.dst (.string (s ++ u))) W)) : o.wp P a W K Q := by
  unfold Oper.wp execOp
  have h1 : ¬ (((s.size + u.size : Nat) : Int) > IntKind.i64.max) := by simp [IntKind.max, IntKind.bits, IntKind.signed]; omega
  simp only [ho, hx, hy, eqGuard, binOp, Op.stringOp, h1, if_false, Sem.run_bind, Sem.run_pure, Result.andThen_ok]
  exact hk.out
theorem wp_eqa {xs ys : Array Value} (ho : o.op = .binOp .eql t x y ty) (hx : a.eval x = .agg xs) (hy : a.eval y = .agg ys) (hgd : P.eqGuardType P.depth t = false) (r : Bool) (hr : (Op.equalIn 10000 t (.agg xs) (.agg ys)).run P W = .ok r W) (hk : Hid (K (a.put o.dst (.bool r)) W)) : o.wp P a W K Q := by
  unfold Oper.wp execOp
  have e : (Op.equal t (.agg xs) (.agg ys)).run P W = .ok r W := hr
  simp [ho, hx, hy, eqGuard, binOp, hgd, e]
  exact hk.out
theorem wp_nea {xs ys : Array Value} (ho : o.op = .binOp .neq t x y ty) (hx : a.eval x = .agg xs) (hy : a.eval y = .agg ys) (hgd : P.eqGuardType P.depth t = false) (r : Bool) (hr : (Op.equalIn 10000 t (.agg xs) (.agg ys)).run P W = .ok r W) (hk : Hid (K (a.put o.dst (.bool (!r))) W)) : o.wp P a W K Q := by
  unfold Oper.wp execOp
  have e : (Op.equal t (.agg xs) (.agg ys)).run P W = .ok r W := hr
  simp [ho, hx, hy, eqGuard, binOp, hgd, e]
  exact hk.out
theorem wp_not {b : Bool} {u : TypeId} (ho : o.op = .unOp .not u x) (hx : a.eval x = .bool b) (hk : Hid (K (a.put o.dst (.bool (!b))) W)) : o.wp P a W K Q := by
  unfold Oper.wp execOp
  simp [ho, hx, Op.unary]
  exact hk.out
/-- May a call go into it? -/
def callable (fn : Func) : Bool := !(fn.name == "runtime.NumGoroutine") && fn.body.isSome
theorem wp_call {f : FuncId} {fn : Func} {xs : Array Operand} {tys : Array TypeId} {vs : Array Value} (ho : o.op = .call { callee := .value (.func f), args := xs, argTypes := tys }) (hf : P.funcs[f]? = some fn) (hc : callable fn = true) (hv : xs.map a.eval = vs)
    (h : Calls P f vs W (fun e w' => ∃ v, e = .returned v ∧ K (a.put o.dst v) w')) : o.wp P a W K Q := by
  simp only [callable, Bool.and_eq_true, Bool.not_eq_true', Option.isSome_iff_exists] at hc
  obtain ⟨h1, c, h2⟩ := hc
  unfold Oper.wp execOp
  have e : (do let d ← resolve a.eval { callee := .value (.func f), args := xs, argTypes := tys } o.type; invoke d.target d.args : Sem Next).run P W = .ok (.enter f vs) W := by
    have h1' : ¬ fn.name = "runtime.NumGoroutine" := by simpa using h1
    simp [resolve, Act.eval, Deferred.ofValue, invoke, callFunc, hf, h1', h2, hv]
  simp only [ho]
  rw [e]
  exact h.mono (fun e w' ⟨v, he, hk⟩ => by subst he; exact hk)
theorem ev0 : (#[] : Array Operand).map a.eval = #[] := by simp
theorem ev1 {x1 : Operand} {v1 : Value} (h1 : a.eval x1 = v1) : #[x1].map a.eval = #[v1] := by simp [h1]
theorem ev2 {x1 x2 : Operand} {v1 v2 : Value} (h1 : a.eval x1 = v1) (h2 : a.eval x2 = v2) : #[x1, x2].map a.eval = #[v1, v2] := by simp [h1, h2]
theorem ev3 {x1 x2 x3 : Operand} {v1 v2 v3 : Value} (h1 : a.eval x1 = v1) (h2 : a.eval x2 = v2) (h3 : a.eval x3 = v3) : #[x1, x2, x3].map a.eval = #[v1, v2, v3] := by simp [h1, h2, h3]
theorem ev4 {x1 x2 x3 x4 : Operand} {v1 v2 v3 v4 : Value} (h1 : a.eval x1 = v1) (h2 : a.eval x2 = v2) (h3 : a.eval x3 = v3) (h4 : a.eval x4 = v4) : #[x1, x2, x3, x4].map a.eval = #[v1, v2, v3, v4] := by simp [h1, h2, h3, h4]
end ints

section ways
variable {P : Program} {Q : Exit → Act → World → Prop} {a : Act} {w : World} {K : Act → World → Prop} {id : Nat}
theorem then_normal (h : K a w) : Exit.then K Q .normal a w := h
theorem then_ret (h : Q .ret a w) : Exit.then K Q .ret a w := h
theorem then_exit (h : Q (.exit id) a w) : Exit.then K Q (.exit id) a w := h
theorem block_normal (h : Q .normal a w) : Exit.inBlock id Q .normal a w := h
theorem block_ret (h : Q .ret a w) : Exit.inBlock id Q .ret a w := h
theorem block_exit (h : Q .normal a w) : Exit.inBlock id Q (.exit id) a w := by simp only [Exit.inBlock, if_true]; exact h
theorem block_exit_other {id' : Nat} (hne : id' ≠ id) (h : Q (.exit id') a w) : Exit.inBlock id Q (.exit id') a w := by simp only [Exit.inBlock, if_neg hne]; exact h
theorem enter {f : FuncId} {fn : Func} {c : Code} {args : Array Value} {R : Ending → World → Prop} (N : Nat) (l : List (Nat × Value)) (hf : P.funcs[f]? = some fn) (hb : fn.body = some c)
    (hN : args.size + (fn.ntmps - args.size) = N) (hl : (l.map fun p => args[p.1]?) = l.map fun p => some p.2)
    {L : List (Nat × Obj)} {X : List Xt} (hS : Sx w L X w) (h : ∀ T W, Fr N ⟨T, []⟩ l → Sx w L X W → c.wp P (bodyPost P fn R) ⟨T, []⟩ W) : Calls P f args w R :=
  calls_of_wp hf hb (h _ w ⟨by simpa using hN, rfl, fun p hp => by
    have h1 := List.map_inj_left.1 hl p hp
    have hlt : p.1 < args.size := (Array.getElem?_eq_some_iff.1 h1).1
    simp only [slot, Array.getD_eq_getD_getElem?]
    rw [Array.getElem?_append_left hlt, h1]; rfl⟩ hS)
theorem results_c1 {fn : Func} {T : Array Value} {p g : Nat} {ty : TypeId} {v : Value} (h : fn.results = #[.cell p ty]) (hp : T[p]?.getD undef = .pointer (some ⟨g, 0, none⟩)) (hc : (loadVar ty ⟨g, 0, none⟩).run P w = .ok v w) : (results fn T).run P w = .ok v w := by
  simp [results, h, hp, asAddr, hc]
theorem results_c2 {fn : Func} {T : Array Value} {p g q : Nat} {ty : TypeId} {v u : Value} (h : fn.results = #[.cell p ty, .tmp q]) (hp : T[p]?.getD undef = .pointer (some ⟨g, 0, none⟩)) (hc : (loadVar ty ⟨g, 0, none⟩).run P w = .ok v w) (hq : T[q]?.getD undef = u) : (results fn T).run P w = .ok (.tuple #[v, u]) w := by
  simp [results, h, hp, asAddr, hc, hq]
theorem results_c3 {fn : Func} {T : Array Value} {p g q r : Nat} {ty : TypeId} {v u x : Value} (h : fn.results = #[.cell p ty, .tmp q, .tmp r]) (hp : T[p]?.getD undef = .pointer (some ⟨g, 0, none⟩)) (hc : (loadVar ty ⟨g, 0, none⟩).run P w = .ok v w) (hq : T[q]?.getD undef = u) (hr : T[r]?.getD undef = x) : (results fn T).run P w = .ok (.tuple #[v, u, x]) w := by
  simp [results, h, hp, asAddr, hc, hq, hr]
theorem results_t1 {fn : Func} {T : Array Value} {p : Nat} {v : Value} (h : fn.results = #[.tmp p]) (hp : T[p]?.getD undef = v) : (results fn T).run P w = .ok v w := by
  simp [results, h, hp]
theorem results_t2 {fn : Func} {T : Array Value} {p q : Nat} {v u : Value} (h : fn.results = #[.tmp p, .tmp q]) (hp : T[p]?.getD undef = v) (hq : T[q]?.getD undef = u) : (results fn T).run P w = .ok (.tuple #[v, u]) w := by
  simp [results, h, hp, hq]
theorem results_t3 {fn : Func} {T : Array Value} {p q r : Nat} {v u x : Value} (h : fn.results = #[.tmp p, .tmp q, .tmp r]) (hp : T[p]?.getD undef = v) (hq : T[q]?.getD undef = u) (hr : T[r]?.getD undef = x) : (results fn T).run P w = .ok (.tuple #[v, u, x]) w := by
  simp [results, h, hp, hq, hr]
theorem results_t4 {fn : Func} {T : Array Value} {p q r s : Nat} {v u x y : Value} (h : fn.results = #[.tmp p, .tmp q, .tmp r, .tmp s]) (hp : T[p]?.getD undef = v) (hq : T[q]?.getD undef = u) (hr : T[r]?.getD undef = x) (hs : T[s]?.getD undef = y) : (results fn T).run P w = .ok (.tuple #[v, u, x, y]) w := by
  simp [results, h, hp, hq, hr, hs]
end ways
section short
variable {P : Program} {ops : Array Oper} {rest : List Oper} {Q : Exit → Act → World → Prop} {o : Oper} {N : Nat} {T : Array Value} {W : World} {l : List (Nat × Value)}
/-- so_pure in short. -/
theorem so_p (hF : Fr N ⟨T, []⟩ l) {d : Nat} (v : Value) (hop : ∀ K : Act → World → Prop, Hid (K ((⟨T, []⟩ : Act).put o.dst v) W) → o.wp P ⟨T, []⟩ W K Q)
    (k : ∀ T', Fr N ⟨T', []⟩ ((d, v) :: l) → wpList P ops Q rest ⟨T', []⟩ W) (hw : Region.wanted o (yielded ops T) = true := by exact wanted_none rfl _)
    (hd : o.dst = some d := by rfl) (hdN : d < N := by decide) (hl : (l.all fun p => p.1 != d) = true := by rfl) : wpList P ops Q (o :: rest) ⟨T, []⟩ W := so_pure hF hd hw hdN hl v hop k
/-- A move of the frame's i-th value. -/
theorem so_mv (hF : Fr N ⟨T, []⟩ l) (i : Nat) {s d : Nat} {v : Value} (k : ∀ T', Fr N ⟨T', []⟩ ((d, v) :: l) → wpList P ops Q rest ⟨T', []⟩ W) (hw : Region.wanted o (yielded ops T) = true := by exact wanted_none rfl _)
    (ho : o.op = .move (.tmp s) := by rfl) (hi : l[i]? = some (s, v) := by rfl) (hd : o.dst = some d := by rfl) (hdN : d < N := by decide) (hl : (l.all fun p => p.1 != d) = true := by rfl) : wpList P ops Q (o :: rest) ⟨T, []⟩ W :=
  so_pure hF hd hw hdN hl v (fun _ hK => wp_move ho (hF.op i hi) hK) k
theorem so_as (hF : Fr N ⟨T, []⟩ l) (i : Nat) {s d : Nat} {v : Value} (k : ∀ T', Fr N ⟨T', []⟩ ((d, v) :: l) → wpList P ops Q rest ⟨T', []⟩ W) (hw : Region.wanted o (yielded ops T) = true := by exact wanted_none rfl _)
    (ho : o.op = .assign (.tmp s) := by rfl) (hi : l[i]? = some (s, v) := by rfl) (hd : o.dst = some d := by rfl) (hdN : d < N := by decide) (hl : (l.all fun p => p.1 != d) = true := by rfl) : wpList P ops Q (o :: rest) ⟨T, []⟩ W :=
  so_pure hF hd hw hdN hl v (fun _ hK => wp_assign ho (hF.op i hi) hK) k
theorem so_ex (hF : Fr N ⟨T, []⟩ l) (i : Nat) {s d j : Nat} {vs : Array Value} {v : Value} (k : ∀ T', Fr N ⟨T', []⟩ ((d, v) :: l) → wpList P ops Q rest ⟨T', []⟩ W) (hw : Region.wanted o (yielded ops T) = true := by exact wanted_none rfl _)
    (ho : o.op = .extract (.tmp s) j := by rfl) (hi : l[i]? = some (s, .tuple vs) := by rfl) (hv : vs[j]? = some v := by rfl) (hd : o.dst = some d := by rfl) (hdN : d < N := by decide) (hl : (l.all fun p => p.1 != d) = true := by rfl) : wpList P ops Q (o :: rest) ⟨T, []⟩ W :=
  so_pure hF hd hw hdN hl v (fun _ hK => wp_extract ho (hF.op i hi) hv hK) k
theorem dE {k : Nat} {v : Value} (h : slot T k = v) : (⟨T, []⟩ : Act).eval (.tmp k) = v := h
theorem dS {ops : List Oper} {i : Nat} {T0 : Array Value} (hs : ∀ s, (∀ (j : Nat) (o' : Oper), ops[j]? = some o' → o'.dst = some s → i = j ∨ ∃ e ∈ o'.after, Region.binds .any e = true ∧ e.on = i) → slot T s = slot T0 s)
    (hF : Fr N ⟨T0, []⟩ l) (q : Nat) {k : Nat} {v : Value} (hi : l[q]? = some (k, v) := by rfl) (hl : lateB ops i k = true := by rfl) : (⟨T, []⟩ : Act).eval (.tmp k) = v :=
  (hs k (late hl)).trans (hF.known _ (List.mem_of_getElem? hi))
variable {lo : List Oper} {T0 : Array Value} {Rs : List (Value → World → Prop)} {J : (Nat → Bool) → World → Prop} {i : Nat}
/-- An operation of a drawn region that no guard holds. -/
theorem dr_un (hst : ∀ p, p ∈ Rs → Stable p) (h : ∀ (T : Array Value) (W : World) (L : Nat → Bool), T.size = T0.size → J L W →
    (∀ j d, (∃ e ∈ o.after, Region.binds .any e = true ∧ e.on = j) → (lo[j]?.bind (·.dst)) = some d → (Rs.getD j (fun _ _ => True)) (slot T d) W) →
    (∀ s, (∀ (j : Nat) (o' : Oper), lo[j]? = some o' → o'.dst = some s → i = j ∨ ∃ e ∈ o'.after, Region.binds .any e = true ∧ e.on = i) → slot T s = slot T0 s) →
    ∀ K : Act → World → Prop, (∀ v W', (Rs.getD i (fun _ _ => True)) v W' → J (also L i) W' → Below W.heap.size W W' → K ((⟨T, []⟩ : Act).put o.dst v) W') → Oper.wp P o ⟨T, []⟩ W K Q)
    (hg : o.guard = none := by rfl) : RelStepL P lo T0 Rs J Q i o := by
  intro L T W hT hJ hL0 hLd hd hs K hK
  rw [if_pos (wanted_none hg _)]
  exact h T W L hT hJ hd hs K (fun v W' h1 h2 h3 => hK v W' h1 h2 (stayB hst h3))
/-- .. whose guard holds. -/
theorem dr_on (hst : ∀ p, p ∈ Rs → Stable p) {F : List (Nat × Value)} (hF : Fr N ⟨T0, []⟩ F) (j : Nat) {d : Nat} {oj : Oper} {b : Bool} (he : ∃ e ∈ o.after, Region.binds .any e = true ∧ e.on = j) (h : ∀ (T : Array Value) (W : World) (L : Nat → Bool), T.size = T0.size → J L W →
    (∀ j d, (∃ e ∈ o.after, Region.binds .any e = true ∧ e.on = j) → (lo[j]?.bind (·.dst)) = some d → (Rs.getD j (fun _ _ => True)) (slot T d) W) →
    (∀ s, (∀ (j : Nat) (o' : Oper), lo[j]? = some o' → o'.dst = some s → i = j ∨ ∃ e ∈ o'.after, Region.binds .any e = true ∧ e.on = i) → slot T s = slot T0 s) →
    ∀ K : Act → World → Prop, (∀ v W', (Rs.getD i (fun _ _ => True)) v W' → J (also L i) W' → Below W.heap.size W W' → K ((⟨T, []⟩ : Act).put o.dst v) W') → Oper.wp P o ⟨T, []⟩ W K Q)
    (hg : o.guard = some (j, b) := by rfl) (ho : lo[j]? = some oj := by rfl) (hdj : oj.dst = some d := by rfl) (hR : Rs.getD j (fun _ _ => True) = (fun v _ => v = .bool b) := by rfl) (hdN : d < N := by decide) : RelStepL P lo T0 Rs J Q i o := by
  intro L T W hT hJ hL0 hLd hd hs K hK
  have fg : slot T d = .bool b := by
    have h1 := hd j d he (by rw [ho]; exact hdj)
    rw [hR] at h1; exact h1
  rw [wanted_by (j := j) (d := d) hg ho hdj (Nat.lt_of_lt_of_eq hdN (hT.trans hF.size).symm) fg, if_pos (by simp)]
  exact h T W L hT hJ hd hs K (fun v W' h1 h2 h3 => hK v W' h1 h2 (stayB hst h3))
/-- .. whose guard doesn't hold. -/
theorem dr_off {F : List (Nat × Value)} (hF : Fr N ⟨T0, []⟩ F) (j : Nat) {d : Nat} {oj : Oper} {b c : Bool} (he : ∃ e ∈ o.after, Region.binds .any e = true ∧ e.on = j) (hR : Rs.getD j (fun _ _ => True) = (fun v _ => v = .bool c))
    (hg : o.guard = some (j, b) := by rfl) (hcb : (c == b) = false := by rfl) (ho : lo[j]? = some oj := by rfl) (hdj : oj.dst = some d := by rfl) (hdN : d < N := by decide)
    (hRi : Rs.getD i (fun _ _ => True) = (fun _ _ => True) := by rfl) (hJJ : ∀ L W, J L W → J (also L i) W := by exact fun _ _ h => h) : RelStepL P lo T0 Rs J Q i o := by
  intro L T W hT hJ hL0 hLd hd hs K hK
  have fg : slot T d = .bool c := by
    have h1 := hd j d he (by rw [ho]; exact hdj)
    rw [hR] at h1; exact h1
  rw [wanted_by (j := j) (d := d) hg ho hdj (Nat.lt_of_lt_of_eq hdN (hT.trans hF.size).symm) fg, if_neg (by rw [hcb]; decide)]
  refine hK undef W ?_ (hJJ _ _ hJ) (fun _ _ _ h => h)
  rw [hRi]; exact trivial
end short
end Go.Proofs.Ytiodcmgpajdmoaa
