/-
  A walk by reckoning: what is known of the frame (by slots), of rows and of the rest of the world stands in the goal; the kernel reckons what operations yield.
-/
import Derived.Test.YtiodcmgpajdmoaaSx
import Derived.ChangeKeysEq
import Derived.Laws.StructEq
namespace Go.Proofs.Ytiodcmgpajdmoaa
open Go.RowKit

/-- What a frame's slot is known to hold. -/
def look : List (Nat × Value) → Nat → Option Value
  | [], _ => none
  | (a, v) :: F, k => bif Nat.beq a k then some v else look F k
/-- An operand: what is known, else what the frame holds. -/
def opd (F : List (Nat × Value)) (T : Array Value) : Operand → Value
  | .tmp k => match look F k with
    | some v => v
    | none => T.getD k undef
  | .const v => v
  | .global g => .pointer (some ⟨g, 0, none⟩)
  | .func f => .func (.func f) #[] #[]
/-- A frame of N slots, of which these are known. -/
structure Fq (N : Nat) (T : Array Value) (F : List (Nat × Value)) : Prop where
  size : T.size = N
  known : ∀ k v, look F k = some v → T.getD k undef = v
theorem opd_eq {N : Nat} {T : Array Value} {F : List (Nat × Value)} (h : Fq N T F) : (⟨T, []⟩ : Act).eval = opd F T := by
  funext x
  cases x with
  | tmp k =>
    show T.getD k undef = _
    simp only [opd]
    cases e : look F k with
    | none => rfl
    | some v => exact h.known k v e
  | const v => rfl
  | global g => rfl
  | func f => rfl

/-- What a step does that reads one row at most: what it yields, and the blocks that it reads. -/
def symR {α : Type} (P : Program) (cs : Array Value) (ty : TypeId) : Sem α → Option (α × List Nat)
  | .pure a => some (a, [])
  | .program k => symR P cs ty (k P)
  | .mark _ k => symR P cs ty k
  | .load _ a k => match a.spot, cs[a.off]? with
    | none, some v => (symR P cs ty (k v)).map fun p => (p.1, a.block :: p.2)
    | _, _ => none
  | .shape r k => (symR P cs ty (k (some (ty, cs.size)))).map fun p => (p.1, r :: p.2)
  | _ => none
theorem symR_run {α : Type} {P : Program} {cs : Array Value} {ty : TypeId} {fr : Nat × Nat} {W : World} {g : Nat} {s : Sem α} : ∀ {x : α} {l : List Nat}, symR P cs ty s = some (x, l) → (∀ b, b ∈ l → b = g) → (l = [] ∨ W.heap[g]? = some (.cells cs ty fr)) → s.run P W = .ok x W := by
  induction s with
  | pure a => intro x l h _ _; simp [symR] at h; rw [h.1]; rfl
  | program k ih => intro x l h h1 h2; exact ih P h h1 h2
  | mark m k ih => intro x l h h1 h2; exact ih h h1 h2
  | load m a k ih =>
    intro x l h h1 h2
    simp only [symR] at h
    split at h
    · rename_i v e1 e2
      cases e3 : symR P cs ty (k v) with
      | none => rw [e3] at h; cases h
      | some p =>
        rw [e3] at h
        simp only [Option.map_some, Option.some.injEq, Prod.mk.injEq] at h
        obtain ⟨rfl, rfl⟩ := h
        have hg := h1 a.block (List.mem_cons_self ..)
        have hr : W.heap[g]? = some (.cells cs ty fr) := h2.resolve_left (by simp)
        have hc : W.cell? a = some v := by
          unfold World.cell?; rw [hg, hr]; simp [e1, e2]
        show Sem.run P (.load m a k) W = _
        simp only [Sem.run, hc]
        exact ih v e3 (fun b hb => h1 b (List.mem_cons_of_mem _ hb)) (Or.inr hr)
    · cases h
  | shape r k ih =>
    intro x l h h1 h2
    simp only [symR] at h
    cases e3 : symR P cs ty (k (some (ty, cs.size))) with
    | none => rw [e3] at h; cases h
    | some p =>
      rw [e3] at h
      simp only [Option.map_some, Option.some.injEq, Prod.mk.injEq] at h
      obtain ⟨rfl, rfl⟩ := h
      have hg := h1 r (List.mem_cons_self ..)
      have hr : W.heap[g]? = some (.cells cs ty fr) := h2.resolve_left (by simp)
      have hc : W.shape? r = some (ty, cs.size) := by unfold World.shape?; rw [hg, hr]
      show Sem.run P (.shape r k) W = _
      simp only [Sem.run, hc]
      exact ih _ e3 (fun b hb => h1 b (List.mem_cons_of_mem _ hb)) (Or.inr hr)
  | store m a v k ih => intro x l h; cases v <;> cases h
  | _ => intro x l h; cases h

/-- The value of one cell? -/
def plainV : Value → Bool
  | .agg _ | .tuple _ => false
  | _ => true
/-- What a step does that writes one row: the row's cells behind it. -/
def symW {α : Type} (P : Program) (ty : TypeId) : Sem α → Array Value → Option (α × Array Value × List Nat)
  | .pure a, cs => some (a, cs, [])
  | .program k, cs => symW P ty (k P) cs
  | .mark _ k, cs => symW P ty k cs
  | .load _ a k, cs => match a.spot, cs[a.off]? with
    | none, some v => (symW P ty (k v) cs).map fun p => (p.1, p.2.1, a.block :: p.2.2)
    | _, _ => none
  | .shape r k, cs => (symW P ty (k (some (ty, cs.size))) cs).map fun p => (p.1, p.2.1, r :: p.2.2)
  | .store _ a v k, cs => match a.spot, cs[a.off]?, plainV v with
    | none, some _, true => (symW P ty k (cs.setIfInBounds a.off v)).map fun p => (p.1, p.2.1, a.block :: p.2.2)
    | _, _, _ => none
  | _, _ => none
/-- Only block g may have changed. -/
structure OnlyAt (g : Nat) (W W' : World) : Prop where
  os : W'.os = W.os
  tape : W'.tape = W.tape
  output : W'.output = W.output
  size : W'.heap.size = W.heap.size
  other : ∀ b, b ≠ g → W'.heap[b]? = W.heap[b]?
theorem OnlyAt.refl (g : Nat) (W : World) : OnlyAt g W W := ⟨rfl, rfl, rfl, rfl, fun _ _ => rfl⟩
theorem OnlyAt.trans {g : Nat} {W W1 W2 : World} (h : OnlyAt g W W1) (k : OnlyAt g W1 W2) : OnlyAt g W W2 :=
  ⟨k.os.trans h.os, k.tape.trans h.tape, k.output.trans h.output, k.size.trans h.size, fun b hb => (k.other b hb).trans (h.other b hb)⟩
theorem OnlyAt.setCell (g o : Nat) (W : World) (v : Value) : OnlyAt g W (W.setCell ⟨g, o, none⟩ v) :=
  ⟨rfl, rfl, rfl, by simp [World.setCell], fun b hb => heap_setCell_other W ⟨g, o, none⟩ b v hb⟩
theorem symW_run {α : Type} {P : Program} {ty : TypeId} {g : Nat} {s : Sem α} : ∀ {W : World} {cs cs' : Array Value} {x : α} {l : List Nat}, symW P ty s cs = some (x, cs', l) → (∀ b, b ∈ l → b = g) → W.heap[g]? = some (.cells cs ty (0, 0)) → ∃ W', s.run P W = .ok x W' ∧ OnlyAt g W W' ∧ W'.heap[g]? = some (.cells cs' ty (0, 0)) := by
  induction s with
  | pure a => intro W cs cs' x l h _ hr; simp [symW] at h; obtain ⟨rfl, rfl, -⟩ := h; exact ⟨W, rfl, .refl _ _, hr⟩
  | program k ih => intro W cs cs' x l h h1 hr; exact ih P (by simpa [symW] using h) h1 hr
  | mark m k ih => intro W cs cs' x l h h1 hr; exact ih (by simpa [symW] using h) h1 hr
  | load m a k ih =>
    intro W cs cs' x l h h1 hr
    simp only [symW] at h
    split at h
    · rename_i v e1 e2
      cases e3 : symW P ty (k v) cs with
      | none => rw [e3] at h; cases h
      | some p =>
        rw [e3] at h
        simp only [Option.map_some, Option.some.injEq, Prod.mk.injEq] at h
        obtain ⟨rfl, rfl, rfl⟩ := h
        have hg := h1 a.block (List.mem_cons_self ..)
        have hc : W.cell? a = some v := by
          unfold World.cell?; rw [hg, hr]; simp [e1, e2]
        simp only [Sem.run, hc]
        exact ih v e3 (fun b hb => h1 b (List.mem_cons_of_mem _ hb)) hr
    · cases h
  | shape r k ih =>
    intro W cs cs' x l h h1 hr
    simp only [symW] at h
    cases e3 : symW P ty (k (some (ty, cs.size))) cs with
    | none => rw [e3] at h; cases h
    | some p =>
      rw [e3] at h
      simp only [Option.map_some, Option.some.injEq, Prod.mk.injEq] at h
      obtain ⟨rfl, rfl, rfl⟩ := h
      have hg := h1 r (List.mem_cons_self ..)
      have hc : W.shape? r = some (ty, cs.size) := by unfold World.shape?; rw [hg, hr]
      simp only [Sem.run, hc]
      exact ih _ e3 (fun b hb => h1 b (List.mem_cons_of_mem _ hb)) hr
  | store m a v k ih =>
    intro W cs cs' x l h h1 hr
    simp only [symW] at h
    split at h
    · rename_i u e1 e2 hp
      cases e3 : symW P ty k (cs.setIfInBounds a.off v) with
      | none => rw [e3] at h; cases h
      | some p =>
        rw [e3] at h
        simp only [Option.map_some, Option.some.injEq, Prod.mk.injEq] at h
        obtain ⟨rfl, rfl, rfl⟩ := h
        have hg := h1 a.block (List.mem_cons_self ..)
        obtain ⟨ab, ao, asp⟩ := a
        simp only at hg e1 e2 e3
        subst hg; subst e1
        have hc : W.cell? ⟨ab, ao, none⟩ = some u := (cell_of_row _ _ _ _ _ _ hr).trans e2
        have hz : W.frozen? ⟨ab, ao, none⟩ = false := frozen_of_row W ab ao _ _ hr
        obtain ⟨W', r1, r2, r3⟩ := ih (W := W.setCell ⟨ab, ao, none⟩ v) e3 (fun b hb => h1 b (List.mem_cons_of_mem _ hb)) (heap_setCell_same W ab ao cs ty v hr)
        refine ⟨W', ?_, (OnlyAt.setCell ab ao W v).trans r2, r3⟩
        rw [← r1]
        cases v <;> first | (simp only [Sem.run, hc, hz]; rfl) | cases hp
    · cases h
  | _ => intro W cs cs' x l h; simp [symW] at h

/-- What a step does that makes one block, of number n. -/
def symN {α : Type} (P : Program) (n : Nat) : Sem α → Option (α × Obj)
  | .program k => symN P n (k P)
  | .mark _ k => symN P n k
  | .new o k => match symR P #[] 0 (k n) with
    | some (x, []) => some (x, o)
    | _ => none
  | _ => none
theorem symN_run {α : Type} {P : Program} {W : World} {s : Sem α} : ∀ {x : α} {o : Obj}, symN P W.heap.size s = some (x, o) → s.run P W = .ok x (W.alloc o) := by
  induction s with
  | program k ih => intro x o h; exact ih P h
  | mark m k ih => intro x o h; exact ih h
  | new o' k ih =>
    intro x o h
    simp only [symN] at h
    split at h
    · rename_i x' e
      cases h
      exact symR_run (W := W.alloc o') (g := 0) (fr := (0, 0)) e (fun _ h => by cases h) (Or.inl rfl)
    · cases h
  | store m a v k ih => intro x o h; cases v <;> cases h
  | _ => intro x o h; cases h

/-- The operations of a region, by its number. -/
noncomputable def rops (f : Func) (r : Nat) : List Oper := match rgn f r with
  | .region _ ops _ => ops.toList
  | _ => []
noncomputable def rdrawn (f : Func) (r : Nat) : Option Bool := match rgn f r with
  | .region _ _ d => some d
  | _ => none
/-- A list of operations in order. -/
def wpSeq (P : Program) (l : List Oper) (Q : Exit → Act → World → Prop) : List Oper → Act → World → Prop
  | [], a, w => Q .normal a w
  | o :: rest, a, w => if Region.wanted o (yielded l.toArray a.tmps) = true then o.wp P a w (wpSeq P l Q rest) Q else wpSeq P l Q rest (a.put o.dst undef) w
theorem wpSeq_list {P : Program} {l : List Oper} {Q : Exit → Act → World → Prop} : ∀ {rest : List Oper} {a : Act} {w : World}, wpSeq P l Q rest a w → wpList P l.toArray Q rest a w
  | [], _, _, h => h
  | o :: rest, a, w, h => by
    unfold wpSeq at h
    unfold wpList
    split
    · rename_i hw; rw [if_pos hw] at h
      exact .inl (Oper.wp_mono (fun _ _ h => wpSeq_list h) h)
    · rename_i hw; rw [if_neg hw] at h
      exact wpSeq_list h
theorem wpSeq_step {P : Program} {l : List Oper} {Q : Exit → Act → World → Prop} {rest : List Oper} {o : Oper} {a : Act} {w : World}
    (h : ∀ K : Act → World → Prop, (∀ a w, wpSeq P l Q rest a w → K a w) → if Region.wanted o (yielded l.toArray a.tmps) = true then o.wp P a w K Q else K (a.put o.dst undef) w) : wpSeq P l Q (o :: rest) a w := by
  have := h _ (fun _ _ h => h)
  unfold wpSeq
  split
  · rename_i hw; rw [if_pos hw] at this; exact this
  · rename_i hw; rw [if_neg hw] at this; exact this
theorem rgn_plain {P : Program} {f : Func} {r : Nat} {Q : Exit → Act → World → Prop} {a : Act} {W : World} (hd : rdrawn f r = some false) (h : wpSeq P (rops f r) Q (rops f r) a W) : (rgn f r).wp P Q a W := by
  unfold rdrawn at hd; unfold rops at h
  split at hd
  · rename_i e
    simp only [Option.some.injEq] at hd; subst hd
    rw [e] at h ⊢
    exact wp_region_lit (wpSeq_list (by simpa using h))
  · cases hd

/-- Is an operation wanted? By what is known of the frame. -/
def wantF (F : List (Nat × Value)) (l : List Oper) (o : Oper) : Option Bool := match o.guard with
  | none => some true
  | some (j, b) => match (l[j]?).bind (·.dst) with
    | none => some false
    | some d => match look F d with
      | none => none
      | some (.bool c) => some (c == b)
      | some _ => some false
theorem wantF_ok {N : Nat} {T : Array Value} {F : List (Nat × Value)} (hF : Fq N T F) {l : List Oper} {o : Oper} {b : Bool} (h : wantF F l o = some b) (hN : ∀ o', o' ∈ l → ∀ d, o'.dst = some d → d < N) : Region.wanted o (yielded l.toArray T) = b := by
  unfold wantF at h
  unfold Region.wanted
  split at h
  · simp_all
  · rename_i j w e
    rw [e]
    simp only
    unfold yielded
    rw [List.getElem?_toArray]
    split at h
    · rename_i e2; rw [e2]; simp at h; subst h; rfl
    · rename_i d e2
      rw [e2]
      have hd : d < T.size := by
        cases e3 : l[j]? with
        | none => rw [e3] at e2; cases e2
        | some o' => rw [e3] at e2; rw [hF.size]; exact hN o' (List.mem_of_getElem? e3) d e2
      simp only [Option.bind_some]
      split at h
      · cases h
      · rename_i c e4
        have := hF.known _ _ e4
        rw [Array.getD_eq_getD_getElem?, Array.getElem?_eq_getElem hd, Option.getD_some] at this
        rw [Array.getElem?_eq_getElem hd, this]
        simp at h; subst h
        cases c <;> cases w <;> rfl
      · rename_i v hv e4
        have := hF.known _ _ e4
        rw [Array.getD_eq_getD_getElem?, Array.getElem?_eq_getElem hd, Option.getD_some] at this
        rw [Array.getElem?_eq_getElem hd, this]
        simp at h; subst h
        cases v <;> first | rfl | exact absurd rfl (hv _)

/-- Are two values the same? By their cells, as one condition. -/
def eqB (P : Program) : Nat → TypeId → Value → Value → Option Bool
  | 0, _, _, _ => none
  | d + 1, t, x, y => match P.underlying t, x, y with
    | some .bool, .bool a, .bool b => some (a == b)
    | some (.int _), .int k a, .int k' b => if k = k' then some (a == b) else none
    | some .string, .string a, .string b => some (a == b)
    | some (.struct _), .agg xs, .agg ys => match P.stoodInHeld t with
      | true => none
      | false => (P.fieldsOf t).toList.foldr (fun f acc => match acc, symR P #[] 0 (part f.type xs f.offset), symR P #[] 0 (part f.type ys f.offset), f.name == "_" with
        | some r, some (a, []), some (b, []), false => (eqB P d f.type a b).map fun q => (q && r)
        | _, _, _, _ => none) (some true)
    | some (.array n e), .agg xs, .agg ys => match P.info? e with
      | none => none
      | some _ => (List.range n).foldr (fun i acc => match acc, symR P #[] 0 (part e xs (i * P.cellsOf e)), symR P #[] 0 (part e ys (i * P.cellsOf e)) with
        | some r, some (a, []), some (b, []) => (eqB P d e a b).map fun q => (q && r)
        | _, _, _ => none) (some true)
    | _, _, _ => none
theorem sym0_run {α : Type} {P : Program} {W : World} {s : Sem α} {x : α} (h : symR P #[] 0 s = some (x, [])) : s.run P W = .ok x W := symR_run (fr := (0, 0)) (g := 0) h (fun _ h => by cases h) (Or.inl rfl)
theorem underlying_struct {P : Program} {t : TypeId} {fs : Array Field} (h : P.underlying t = some (.struct fs)) : P.underlying t = some (.struct (P.fieldsOf t)) := by
  unfold Program.fieldsOf; rw [h]
theorem eqB_run {P : Program} {W : World} : ∀ {d : Nat} {t : TypeId} {x y : Value} {b : Bool}, eqB P d t x y = some b → (Op.equalIn d t x y).run P W = .ok b W
  | 0, _, _, _, _, h => by cases h
  | d + 1, t, x, y, b, h => by
    unfold eqB at h
    split at h
    · rename_i hu
      cases h
      simp only [Op.equalIn, Sem.run_bind, run_underlying hu, Result.andThen_ok]; rfl
    · rename_i k a k' b' hu
      split at h
      · rename_i hk
        cases h
        simp only [Op.equalIn, Sem.run_bind, run_underlying hu, Result.andThen_ok, hk, if_true]; rfl
      · cases h
    · rename_i a b' hu
      cases h
      simp only [Op.equalIn, Sem.run_bind, run_underlying hu, Result.andThen_ok]
      rw [beq_toListBytes]; rfl
    · rename_i xs ys hu
      split at h
      · cases h
      · rename_i hst
        rw [run_equalIn_struct W d t xs ys (underlying_struct hu) hst]
        generalize (P.fieldsOf t).toList = fs at h
        clear hu hst
        induction fs generalizing b with
        | nil => cases h; rfl
        | cons f fs ih =>
          simp only [List.foldr_cons] at h
          split at h
          · rename_i r a b1 e1 e2 e3 e4
            cases e5 : eqB P d f.type a b1 with
            | none => rw [e5] at h; cases h
            | some q =>
              rw [e5] at h
              cases h
              have hn : f.name ≠ "_" := by simpa using e4
              simp only [Op.eqFields, hn, ne_eq, not_false_eq_true, if_true, Sem.run_bind, sym0_run e2, sym0_run e3, eqB_run e5, Result.andThen_ok]
              cases q with
              | false => rfl
              | true => simpa using ih _ e1
          · cases h
    · rename_i n e xs ys hu
      split at h
      · cases h
      · rename_i i hi
        rw [run_equalIn_array W d xs ys hu hi]
        generalize List.range n = is at h
        clear hu hi
        induction is generalizing b with
        | nil => cases h; rfl
        | cons j is ih =>
          simp only [List.foldr_cons] at h
          split at h
          · rename_i r a b1 e1 e2 e3
            cases e5 : eqB P d e a b1 with
            | none => rw [e5] at h; cases h
            | some q =>
              rw [e5] at h
              cases h
              simp only [Op.eqItems, Sem.run_bind, sym0_run e2, sym0_run e3, eqB_run e5, Result.andThen_ok]
              cases q with
              | false => rfl
              | true => simpa using ih _ e1
          · cases h
    · cases h
/-- '==' and '!=' between structs and arrays. -/
def aggEq (P : Program) (ρ : Operand → Value) (o : Oper) : Option Value := match o.op with
  | .binOp op t x y _ => match ρ x, ρ y with
    | .agg xs, .agg ys => match P.eqGuardType P.depth t with
      | true => none
      | false => match op with
        | .eql => (eqB P 10000 t (.agg xs) (.agg ys)).map .bool
        | .neq => (eqB P 10000 t (.agg xs) (.agg ys)).map fun b => .bool (!b)
        | _ => none
    | _, _ => none
  | _ => none
theorem aggEq_run {P : Program} {ρ : Operand → Value} {o : Oper} {v : Value} {W : World} (h : aggEq P ρ o = some v) : (execOp ρ o).run P W = .ok (.value v) W := by
  unfold aggEq at h
  split at h
  · rename_i op t x y ty ho
    split at h
    · rename_i xs ys hx hy
      split at h
      · cases h
      · rename_i hgd
        split at h
        · cases e : eqB P 10000 t (.agg xs) (.agg ys) with
          | none => rw [e] at h; cases h
          | some b =>
            rw [e] at h; cases h
            have er : (Op.equal t (.agg xs) (.agg ys)).run P W = .ok b W := eqB_run e
            unfold execOp
            simp [ho, hx, hy, eqGuard, binOp, hgd, er]
        · cases e : eqB P 10000 t (.agg xs) (.agg ys) with
          | none => rw [e] at h; cases h
          | some b =>
            rw [e] at h; cases h
            have er : (Op.equal t (.agg xs) (.agg ys)).run P W = .ok b W := eqB_run e
            unfold execOp
            simp [ho, hx, hy, eqGuard, binOp, hgd, er]
        · cases h
    · cases h
  · cases h
/-- The block of a row of the list, by its place. -/
def gAt (L : List (Nat × Obj)) (j : Nat) : Nat := match L[j]? with
  | some (g, _) => g
  | _ => 0
/-- What a pure operation yields, and the blocks that it reads. -/
def oneR (P : Program) (ρ : Operand → Value) (L : List (Nat × Obj)) (j : Nat) (o : Oper) : Option (Value × List Nat) :=
  match L[j]? with
  | some (_, .cells cs ty _) => match symR P cs ty (execOp ρ o) with
    | some (.value v, l) => some (v, l)
    | _ => none
  | _ => match symR P #[] 0 (execOp ρ o) with
    | some (.value v, []) => some (v, [])
    | _ => none
def oneV (P : Program) (F : List (Nat × Value)) (T : Array Value) (L : List (Nat × Obj)) (j : Nat) (o : Oper) : Option (Value × List Nat) :=
  match aggEq P (opd F T) o with
  | some v => some (v, [])
  | none => oneR P (opd F T) L j o
theorem oneR_run {P : Program} {ρ : Operand → Value} {w W : World} {L : List (Nat × Obj)} {X : List Xt} {j : Nat} {o : Oper} {v : Value} {bl : List Nat} (hS : Sx w L X W) (h : oneR P ρ L j o = some (v, bl)) (hl : bl = bl.map fun _ => gAt L j) : (execOp ρ o).run P W = .ok (.value v) W := by
  have hb : ∀ b, b ∈ bl → b = gAt L j := fun b hb => by
    rw [hl] at hb
    obtain ⟨_, _, h⟩ := List.mem_map.1 hb
    exact h.symm
  unfold oneR at h
  unfold gAt at hb
  split at h
  · rename_i g cs ty fr e2
    rw [e2] at hb
    split at h
    · rename_i v' l' e
      cases h
      exact symR_run (fr := fr) e hb (Or.inr (hS.rows _ (List.mem_of_getElem? e2)))
    · cases h
  · split at h
    · rename_i v' e
      cases h
      exact symR_run (fr := (0, 0)) (g := 0) e (fun b hb => by cases hb) (Or.inl rfl)
    · cases h
/-- Operations from a list on, one by one: the frame behind them, the slots that are written, the blocks that are read and those that are to be read. -/
def evs (P : Program) (L : List (Nat × Obj)) (l0 : List Oper) : Array Value → List (Nat × Value) → List Nat → List Oper → Option (List (Nat × Value) × List Nat × List Nat × List Nat)
  | _, F, _, [] => some (F, [], [], [])
  | T, F, hs, o :: os => match o.dst, wantF F l0 o with
    | some d, some false => (evs P L l0 (T.setIfInBounds d undef) ((d, undef) :: F) hs.tail os).map fun p => (p.1, d :: p.2.1, p.2.2)
    | some d, some true => match oneV P F T L (hs.headD 0) o with
      | some (v, l) => (evs P L l0 (T.setIfInBounds d v) ((d, v) :: F) hs.tail os).map fun p => (p.1, d :: p.2.1, l ++ p.2.2.1, l.map (fun _ => gAt L (hs.headD 0)) ++ p.2.2.2)
      | none => none
    | _, _ => none
theorem oneV_run {P : Program} {N : Nat} {F : List (Nat × Value)} {T : Array Value} {L : List (Nat × Obj)} {w W : World} {X : List Xt} {j : Nat} {o : Oper} {v : Value} {l : List Nat} (hF : Fq N T F) (hS : Sx w L X W) (h : oneV P F T L j o = some (v, l)) (hl : l = l.map fun _ => gAt L j) :
    (execOp (⟨T, []⟩ : Act).eval o).run P W = .ok (.value v) W := by
  rw [opd_eq hF]
  unfold oneV at h
  split at h
  · rename_i v' e
    cases h
    exact aggEq_run e
  · exact oneR_run hS h hl
/-- .. in a frame. -/
theorem Fq.put {N : Nat} {T : Array Value} {F : List (Nat × Value)} (h : Fq N T F) (d : Nat) (v : Value) (hd : d < N) : Fq N (T.setIfInBounds d v) ((d, v) :: F) :=
  ⟨by simpa using h.size, fun k u hk => by
    have hd' : d < T.size := by rw [h.size]; exact hd
    simp only [look] at hk
    rw [Array.getD_eq_getD_getElem?, Array.getElem?_setIfInBounds]
    cases e : Nat.beq d k with
    | true =>
      rw [e] at hk
      have : d = k := Nat.eq_of_beq_eq_true e
      subst this
      simp at hk; subst hk
      simp [hd']
    | false =>
      rw [e] at hk
      have : d ≠ k := fun e2 => by subst e2; simp at e
      rw [if_neg this, ← Array.getD_eq_getD_getElem?]
      exact h.known k u hk⟩
/-- Each slot that an operation writes lies in the frame. -/
def dstsOk (N : Nat) (l : List Oper) : Bool := l.all fun o => match o.dst with
  | some d => decide (d < N)
  | none => true
theorem dstsOk_lt {N : Nat} {l : List Oper} (h : dstsOk N l = true) : ∀ o, o ∈ l → ∀ d, o.dst = some d → d < N := fun o ho d hd => by
  have := List.all_eq_true.1 h o ho
  rw [hd] at this
  exact of_decide_eq_true this

theorem evs_run {P : Program} {N : Nat} {L : List (Nat × Obj)} {w W : World} {X : List Xt} {l0 : List Oper} {Q : Exit → Act → World → Prop} (hS : Sx w L X W) (hN : ∀ o, o ∈ l0 → ∀ d, o.dst = some d → d < N) : ∀ {os rest : List Oper} {F F1 : List (Nat × Value)} {T : Array Value} {hs ds l g : List Nat},
    (∀ o, o ∈ os → o ∈ l0) → Fq N T F → evs P L l0 T F hs os = some (F1, ds, l, g) → l = g → (∀ T', (∀ k, k ∉ ds → T'.getD k undef = T.getD k undef) → Fq N T' F1 → wpSeq P l0 Q rest ⟨T', []⟩ W) → wpSeq P l0 Q (os ++ rest) ⟨T, []⟩ W
  | [], rest, F, F1, T, hs, ds, l, g, _, hF, h, _, k => by
    simp only [evs, Option.some.injEq, Prod.mk.injEq] at h
    obtain ⟨rfl, -⟩ := h
    exact k T (fun _ _ => rfl) hF
  | o :: os, rest, F, F1, T, hs, ds, l, g, hin, hF, h, hlg, k => by
    have hin' : ∀ o, o ∈ os → o ∈ l0 := fun x hx => hin x (List.mem_cons_of_mem _ hx)
    have other : ∀ (d : Nat) (v : Value) (ds2 : List Nat) (T' : Array Value), (∀ k, k ∉ ds2 → T'.getD k undef = (T.setIfInBounds d v).getD k undef) → ∀ k, k ∉ d :: ds2 → T'.getD k undef = T.getD k undef := by
      intro d v ds2 T' h k hk
      rw [h k (fun e => hk (List.mem_cons_of_mem _ e)), Array.getD_eq_getD_getElem?, Array.getElem?_setIfInBounds, if_neg (fun e => hk (by rw [e]; exact List.mem_cons_self ..)), ← Array.getD_eq_getD_getElem?]
    simp only [evs] at h
    refine wpSeq_step fun K hK => ?_
    split at h
    · rename_i d e1 e2
      have hd := hN o (hin o (List.mem_cons_self ..)) d e1
      rw [if_neg (by rw [wantF_ok hF e2 hN]; decide), e1]
      cases e3 : evs P L l0 (T.setIfInBounds d undef) ((d, undef) :: F) hs.tail os with
      | none => rw [e3] at h; cases h
      | some p =>
        rw [e3] at h
        obtain ⟨p1, p2, p3, p4⟩ := p
        simp only [Option.map_some, Option.some.injEq, Prod.mk.injEq] at h
        obtain ⟨rfl, rfl, rfl, rfl⟩ := h
        refine hK _ _ (evs_run hS hN hin' (hF.put d undef hd) e3 hlg (fun T' h1 h2 => k T' (other d undef p2 T' h1) h2))
    · rename_i d e1 e2
      have hd := hN o (hin o (List.mem_cons_self ..)) d e1
      rw [if_pos (wantF_ok hF e2 hN)]
      split at h
      · rename_i v l1 e4
        cases e3 : evs P L l0 (T.setIfInBounds d v) ((d, v) :: F) hs.tail os with
        | none => rw [e3] at h; cases h
        | some p =>
          rw [e3] at h
          obtain ⟨p1, p2, p3, p4⟩ := p
          simp only [Option.map_some, Option.some.injEq, Prod.mk.injEq] at h
          obtain ⟨rfl, rfl, rfl, rfl⟩ := h
          obtain ⟨h1, h2⟩ := List.append_inj hlg (by simp)
          unfold Oper.wp
          rw [oneV_run hF hS e4 h1]
          show K ((⟨T, []⟩ : Act).put o.dst v) W
          rw [e1]
          exact hK _ _ (evs_run hS hN hin' (hF.put d v hd) e3 h2 (fun T' h1 h2 => k T' (other d v p2 T' h1) h2))
      · cases h
    · cases h

/-- From operation i of region r on. -/
def At (P : Program) (f : Func) (r i : Nat) (Q : Exit → Act → World → Prop) (N : Nat) (F : List (Nat × Value)) (w : World) (L : List (Nat × Obj)) (X : List Xt) : Prop :=
  dstsOk N (rops f r) = true → ∀ T W, Fq N T F → Sx w L X W → wpSeq P (rops f r) Q ((rops f r).drop i) ⟨T, []⟩ W
/-- A piece of code. -/
def Cd (P : Program) (c : Code) (Q : Exit → Act → World → Prop) (N : Nat) (F : List (Nat × Value)) (w : World) (L : List (Nat × Obj)) (X : List Xt) : Prop :=
  ∀ T W, Fq N T F → Sx w L X W → c.wp P Q ⟨T, []⟩ W
/-- What is behind. -/
def Nx (q : Act → World → Prop) (N : Nat) (F : List (Nat × Value)) (w : World) (L : List (Nat × Obj)) (X : List Xt) : Prop :=
  ∀ T W, Fq N T F → Sx w L X W → q ⟨T, []⟩ W

section walk
variable {P : Program} {f : Func} {r i N : Nat} {Q : Exit → Act → World → Prop} {F : List (Nat × Value)} {w : World} {L : List (Nat × Obj)} {X : List Xt}
/-- Operations from the i-th on, n of them, reckoned. -/
noncomputable def ev (P : Program) (f : Func) (r i n : Nat) (L : List (Nat × Obj)) (F : List (Nat × Value)) (hs : List Nat) (T : Array Value) := evs P L (rops f r) T F hs (((rops f r).drop i).take n)
def lone (F : List (Nat × Value)) (new : List (Nat × Value)) (ds : List Nat) : Bool := ds.all fun d => match look F d with
  | none => true
  | some _ => (look new d).isSome
noncomputable def runL (P : Program) (f : Func) (r i n : Nat) (L : List (Nat × Obj)) (F : List (Nat × Value)) (hs : List Nat) (new : List (Nat × Value)) (T : Array Value) : Option (List (Option Value) × List Nat × Bool) :=
  match ev P f r i n L F hs T with
  | some (F1, ds, l, _) => some (new.map (fun p => look F1 p.1), l, lone F new ds)
  | none => none
noncomputable def runR (P : Program) (f : Func) (r i n : Nat) (L : List (Nat × Obj)) (F : List (Nat × Value)) (hs : List Nat) (new : List (Nat × Value)) (T : Array Value) : Option (List (Option Value) × List Nat × Bool) :=
  match ev P f r i n L F hs T with
  | some (_, _, _, g) => some (new.map (fun p => some p.2), g, true)
  | none => some ([], [], true)
theorem look_app (A B : List (Nat × Value)) (k : Nat) : look (A ++ B) k = match look A k with | some v => some v | none => look B k := by
  induction A with
  | nil => rfl
  | cons p A ih =>
    obtain ⟨a, v⟩ := p
    simp only [List.cons_append, look]
    cases e : Nat.beq a k with
    | true => rfl
    | false => simpa using ih
theorem look_mem : ∀ (A : List (Nat × Value)) (k : Nat) (v : Value), look A k = some v → (k, v) ∈ A
  | [], _, _, h => by cases h
  | (a, u) :: A, k, v, h => by
    simp only [look] at h
    cases e : Nat.beq a k with
    | true =>
      rw [e] at h
      have : a = k := Nat.eq_of_beq_eq_true e
      subst this
      simp at h; subst h
      exact List.mem_cons_self ..
    | false => rw [e] at h; exact List.mem_cons_of_mem _ (look_mem A k v h)
theorem look_nk (A : List (Nat × Value)) (k : Nat) (h : look A k = none) : ∀ v, (k, v) ∉ A := by
  induction A with
  | nil => intro v hv; cases hv
  | cons p A ih =>
    obtain ⟨a, u⟩ := p
    intro v hv
    simp only [look] at h
    cases e : Nat.beq a k with
    | true => rw [e] at h; cases h
    | false =>
      rw [e] at h
      rcases List.mem_cons.1 hv with h1 | h1
      · cases h1; simp at e
      · exact ih h v h1
/-- The frame behind some operations, from what is known ahead of it and what is new. -/
theorem Fq.after {T T' : Array Value} {F1 new : List (Nat × Value)} {ds : List Nat} (hF : Fq N T F) (hT : ∀ k, k ∉ ds → T'.getD k undef = T.getD k undef) (h1 : Fq N T' F1) (hn : new.map (fun p => look F1 p.1) = new.map (fun p => some p.2)) (hl : lone F new ds = true) : Fq N T' (new ++ F) :=
  ⟨h1.size, fun k v hk => by
    rw [look_app] at hk
    cases e : look new k with
    | some u =>
      rw [e] at hk
      simp only [Option.some.injEq] at hk
      subst hk
      exact h1.known k u (List.map_inj_left.1 hn _ (look_mem _ _ _ e))
    | none =>
      rw [e] at hk
      simp only at hk
      by_cases hd : k ∈ ds
      · have := List.all_eq_true.1 hl k hd
        rw [hk, e] at this; cases this
      · rw [hT k hd]; exact hF.known k v hk⟩
theorem ev_run {F1 : List (Nat × Value)} {ds l g : List Nat} {n : Nat} {hs : List Nat} {T : Array Value} {W : World} (hN : dstsOk N (rops f r) = true) (hF : Fq N T F) (hS : Sx w L X W) (h : ev P f r i n L F hs T = some (F1, ds, l, g)) (hl : l = g)
    (k : ∀ T', (∀ k, k ∉ ds → T'.getD k undef = T.getD k undef) → Fq N T' F1 → wpSeq P (rops f r) Q ((rops f r).drop (i + n)) ⟨T', []⟩ W) : wpSeq P (rops f r) Q ((rops f r).drop i) ⟨T, []⟩ W := by
  rw [← List.take_append_drop n ((rops f r).drop i), List.drop_drop]
  exact evs_run hS (dstsOk_lt hN) (fun o ho => List.mem_of_mem_drop (List.mem_of_mem_take ho)) hF h hl k
/-- Some operations that are reckoned; what is new is named. -/
theorem At.run (n : Nat) (hs : List Nat) (new : List (Nat × Value)) (k : At P f r (i + n) Q N (new ++ F) w L X)
    (hk : ∀ T, runL P f r i n L F hs new T = runR P f r i n L F hs new T := by intro T; kernel_rfl) : At P f r i Q N F w L X := by
  intro hN T W hF hS
  have h := hk T
  unfold runL runR at h
  cases e : ev P f r i n L F hs T with
  | none => rw [e] at h; cases h
  | some q =>
    obtain ⟨F1, ds, l, g⟩ := q
    rw [e] at h
    simp only [Option.some.injEq, Prod.mk.injEq] at h
    obtain ⟨h1, h2, h3⟩ := h
    exact ev_run hN hF hS e h2 (fun T' hT' h4 => k hN T' W (hF.after hT' h4 h1 h3) hS)
/-- .. of which one slot is known better. -/
theorem At.ar (n : Nat) (hs : List Nat) (d : Nat) (v v' : Value) (hv : v = v') (k : At P f r (i + n) Q N ((d, v') :: F) w L X)
    (hk : ∀ T, runL P f r i n L F hs [(d, v)] T = runR P f r i n L F hs [(d, v)] T := by intro T; kernel_rfl) : At P f r i Q N F w L X := by
  subst hv
  exact At.run n hs [(d, v)] k hk

/-- Does a function have a body that calls go into? -/
def callableF (P : Program) (f : FuncId) : Bool := match P.funcs[f]? with
  | some fn => callable fn
  | none => false
/-- The function that an operation calls, and with what. -/
def callOf (ρ : Operand → Value) (o : Oper) : Option (FuncId × Array Value) := match o.op with
  | .call c => match c.callee with
    | .value (.func f) => some (f, c.args.map ρ)
    | _ => none
  | _ => none
/-- The operation behind n that are reckoned. -/
noncomputable def opL (P : Program) (f : Func) (r i n : Nat) (L : List (Nat × Obj)) (F : List (Nat × Value)) (hs : List Nat) (T : Array Value) {β : Type} (b : List (Nat × Value) → Oper → Option β) : Option (β × List Nat × Bool × Option Bool) :=
  match ev P f r i n L F hs T, (rops f r)[i + n]? with
  | some (F1, ds, l, _), some o => match b F1 o with
    | some x => some (x, l, lone F [] ds, wantF F1 (rops f r) o)
    | none => none
  | _, _ => none
noncomputable def opE (P : Program) (f : Func) (r i n : Nat) (L : List (Nat × Obj)) (F : List (Nat × Value)) (hs : List Nat) (T : Array Value) {β : Type} (b : List (Nat × Value) → Oper → Option β) : Option (β × List Nat × Bool × Option Bool) :=
  match ev P f r i n L F hs T, (rops f r)[i + n]? with
  | some (F1, _, _, g), some o => match b F1 o with
    | some x => some (x, g, true, some true)
    | none => none
  | _, _ => none
noncomputable def opR (P : Program) (f : Func) (r i n : Nat) (L : List (Nat × Obj)) (F : List (Nat × Value)) (hs : List Nat) (T : Array Value) {β : Type} (x : β) : Option (β × List Nat × Bool × Option Bool) :=
  match ev P f r i n L F hs T with
  | some (_, _, _, g) => some (x, g, true, some true)
  | none => some (x, [], true, none)
theorem op_core {n : Nat} {hs : List Nat} {T : Array Value} {W : World} (hN : dstsOk N (rops f r) = true) (hF : Fq N T F) (hS : Sx w L X W) {F1 : List (Nat × Value)} {ds l g : List Nat} {o : Oper} (e : ev P f r i n L F hs T = some (F1, ds, l, g)) (e2 : (rops f r)[i + n]? = some o) (hlg : l = g) (hl : lone F [] ds = true) (hw : wantF F1 (rops f r) o = some true)
    (k : ∀ T', Fq N T' F → Fq N T' F1 → Region.wanted o (yielded (rops f r).toArray T') = true → (∀ d, o.dst = some d → d < N) → wpSeq P (rops f r) Q (o :: (rops f r).drop (i + n + 1)) ⟨T', []⟩ W) : wpSeq P (rops f r) Q ((rops f r).drop i) ⟨T, []⟩ W := by
  refine ev_run hN hF hS e hlg (fun T' hT' h4 => ?_)
  have hd : (rops f r).drop (i + n) = o :: (rops f r).drop (i + n + 1) := by
    obtain ⟨h1, h2⟩ := List.getElem?_eq_some_iff.1 e2
    rw [List.drop_eq_getElem_cons h1, h2]
  rw [hd]
  exact k T' (hF.after (new := []) hT' h4 rfl hl) h4 (wantF_ok h4 hw (dstsOk_lt hN)) (fun d hd => dstsOk_lt hN o (List.mem_of_getElem? e2) d hd)
theorem op_run {β : Type} {b : Array Value → List (Nat × Value) → Oper → Option β} {x : β} {n : Nat} {hs : List Nat} {T : Array Value} {W : World} (hN : dstsOk N (rops f r) = true) (hF : Fq N T F) (hS : Sx w L X W) (hk : ∀ T T', opL P f r i n L F hs T (b T') = opR P f r i n L F hs T x)
    (k : ∀ T' F1 o, Fq N T' F → Fq N T' F1 → b T' F1 o = some x → Region.wanted o (yielded (rops f r).toArray T') = true → (∀ d, o.dst = some d → d < N) → wpSeq P (rops f r) Q (o :: (rops f r).drop (i + n + 1)) ⟨T', []⟩ W) : wpSeq P (rops f r) Q ((rops f r).drop i) ⟨T, []⟩ W := by
  have h := fun T' => hk T T'
  unfold opL opR at h
  cases e : ev P f r i n L F hs T with
  | none => have := h #[]; rw [e] at this; cases e2 : (rops f r)[i + n]? <;> rw [e2] at this <;> cases this
  | some q =>
    obtain ⟨F1, ds, l, g⟩ := q
    rw [e] at h
    cases e2 : (rops f r)[i + n]? with
    | none => have := h #[]; rw [e2] at this; cases this
    | some o =>
      rw [e2] at h
      have hin : ∀ T', b T' F1 o = some x ∧ l = g ∧ lone F [] ds = true ∧ wantF F1 (rops f r) o = some true := fun T' => by
        have h1 := h T'
        simp only at h1
        cases e3 : b T' F1 o with
        | none => rw [e3] at h1; cases h1
        | some y =>
          rw [e3] at h1
          simp only [Option.some.injEq, Prod.mk.injEq] at h1
          exact ⟨congrArg some h1.1, h1.2.1, h1.2.2.1, h1.2.2.2⟩
      exact op_core hN hF hS e e2 (hin #[]).2.1 (hin #[]).2.2.1 (hin #[]).2.2.2 (fun T' h1 h2 h3 h4 => k T' F1 o h1 h2 (hin T').1 h3 h4)
theorem op_run2 {β : Type} {b b' : Array Value → List (Nat × Value) → Oper → Option β} {n : Nat} {hs : List Nat} {T : Array Value} {W : World} (hN : dstsOk N (rops f r) = true) (hF : Fq N T F) (hS : Sx w L X W) (hs1 : ∀ T T', (opL P f r i n L F hs T (b T')).isSome = true) (hk : ∀ T T', opL P f r i n L F hs T (b T') = opE P f r i n L F hs T (b' T'))
    (k : ∀ T' F1 o y, Fq N T' F → Fq N T' F1 → b T' F1 o = some y → b' T' F1 o = some y → Region.wanted o (yielded (rops f r).toArray T') = true → (∀ d, o.dst = some d → d < N) → wpSeq P (rops f r) Q (o :: (rops f r).drop (i + n + 1)) ⟨T', []⟩ W) : wpSeq P (rops f r) Q ((rops f r).drop i) ⟨T, []⟩ W := by
  have h := fun T' => hk T T'
  have h0 := fun T' => hs1 T T'
  unfold opL at h0
  unfold opL opE at h
  cases e : ev P f r i n L F hs T with
  | none => have := h0 #[]; rw [e] at this; cases e2 : (rops f r)[i + n]? <;> rw [e2] at this <;> cases this
  | some q =>
    obtain ⟨F1, ds, l, g⟩ := q
    rw [e] at h h0
    cases e2 : (rops f r)[i + n]? with
    | none => have := h0 #[]; rw [e2] at this; cases this
    | some o =>
      rw [e2] at h h0
      have hin : ∀ T', (∃ y, b T' F1 o = some y ∧ b' T' F1 o = some y) ∧ l = g ∧ lone F [] ds = true ∧ wantF F1 (rops f r) o = some true := fun T' => by
        have h1 := h T'
        have h2 := h0 T'
        simp only at h1 h2
        cases e3 : b T' F1 o with
        | none => rw [e3] at h2; cases h2
        | some y =>
          rw [e3] at h1
          cases e4 : b' T' F1 o with
          | none => rw [e4] at h1; cases h1
          | some y' =>
            rw [e4] at h1
            simp only [Option.some.injEq, Prod.mk.injEq] at h1
            exact ⟨⟨y, rfl, congrArg some h1.1.symm⟩, h1.2.1, h1.2.2.1, h1.2.2.2⟩
      refine op_core hN hF hS e e2 (hin #[]).2.1 (hin #[]).2.2.1 (hin #[]).2.2.2 (fun T' h1 h2 h3 h4 => ?_)
      obtain ⟨y, h5, h6⟩ := (hin T').1
      exact k T' F1 o y h1 h2 h5 h6 h3 h4

/-- The function that an operation calls, with what, and where its answer goes. -/
def callB (P : Program) (T : Array Value) (F : List (Nat × Value)) (o : Oper) : Option (Nat × FuncId × Array Value × Bool) := match o.dst, callOf (opd F T) o with
  | some d, some (f, vs) => some (d, f, vs, callableF P f)
  | _, _ => none
theorem call_wp {T : Array Value} {F1 : List (Nat × Value)} {o : Oper} {fid : FuncId} {vs : Array Value} {d : Nat} {W : World} {K : Act → World → Prop} (hF1 : Fq N T F1) (hb : callB P T F1 o = some (d, fid, vs, true))
    (h : Calls P fid vs W (fun e w' => ∃ v, e = .returned v ∧ K ⟨T.setIfInBounds d v, []⟩ w')) : o.wp P ⟨T, []⟩ W K Q := by
  unfold callB at hb
  split at hb
  · rename_i d' f' vs' e1 e2
    simp only [Option.some.injEq, Prod.mk.injEq] at hb
    obtain ⟨rfl, rfl, rfl, hc⟩ := hb
    unfold callOf at e2
    split at e2
    · rename_i c ho
      obtain ⟨callee, args, argTypes⟩ := c
      simp only at e2
      split at e2
      · rename_i f2
        simp only [Option.some.injEq, Prod.mk.injEq] at e2
        obtain ⟨rfl, rfl⟩ := e2
        unfold callableF at hc
        split at hc
        · rename_i fn hfn
          refine wp_call ho hfn hc (by rw [opd_eq hF1]) ?_
          rw [e1]; exact h
        · cases hc
      · cases e2
    · cases e2
  · cases hb
/-- A call that answers a known value and makes new blocks alone. -/
theorem At.call (n : Nat) (hs : List Nat) (d : Nat) {fid : FuncId} {vs : Array Value} {v : Value} (h : ∀ W, Sx w L X W → Calls P fid vs W (fun e w' => e = .returned v ∧ Below W.heap.size W w')) (k : At P f r (i + n + 1) Q N ((d, v) :: F) w L X)
    (hk : ∀ T T', opL P f r i n L F hs T (callB P T') = opR P f r i n L F hs T (d, fid, vs, true) := by intro T T'; kernel_rfl) : At P f r i Q N F w L X := by
  intro hN T W hF hS
  refine op_run hN hF hS hk (fun T' F1 o hF' hF1 hb hw hdN => ?_)
  refine wpSeq_step fun K hK => ?_
  rw [if_pos hw]
  have hd : d < N := hdN d (by unfold callB at hb; split at hb <;> simp_all)
  refine call_wp hF1 hb ((h W hS).mono ?_)
  rintro e w' ⟨rfl, hbl⟩
  exact ⟨v, rfl, hK _ _ (k hN _ w' (hF'.put d v hd) (hS.keep hbl))⟩
/-- A call that answers one of many values, each with what it says of the world. -/
theorem At.callX {ι : Type} (n : Nat) (hs : List Nat) (d : Nat) {fid : FuncId} {vs : Array Value} {V : ι → Value} {L' : ι → List (Nat × Obj)} {X' : ι → List Xt} (h : ∀ W, Sx w L X W → Calls P fid vs W (fun e w' => ∃ y, e = .returned (V y) ∧ Sx w (L' y) (X' y) w')) (k : ∀ y, At P f r (i + n + 1) Q N ((d, V y) :: F) w (L' y) (X' y))
    (hk : ∀ T T', opL P f r i n L F hs T (callB P T') = opR P f r i n L F hs T (d, fid, vs, true) := by intro T T'; kernel_rfl) : At P f r i Q N F w L X := by
  intro hN T W hF hS
  refine op_run hN hF hS hk (fun T' F1 o hF' hF1 hb hw hdN => ?_)
  refine wpSeq_step fun K hK => ?_
  rw [if_pos hw]
  have hd : d < N := hdN d (by unfold callB at hb; split at hb <;> simp_all)
  refine call_wp hF1 hb ((h W hS).mono ?_)
  rintro e w' ⟨y, rfl, hS'⟩
  exact ⟨_, rfl, hK _ _ (k y hN _ w' (hF'.put d _ hd) hS')⟩

/-- An operation that makes a block: where it goes, what it yields, what lies in the block. -/
def newB (P : Program) (g : Nat) (T : Array Value) (F : List (Nat × Value)) (o : Oper) : Option (Nat × Value × Obj) := match o.dst, symN P g (execOp (opd F T) o) with
  | some d, some (.value v, ob) => some (d, v, ob)
  | _, _ => none
theorem At.new' (n : Nat) (hs : List Nat) (d : Nat) (V : Nat → Value) (ob : Obj) (k : ∀ g, w.heap.size ≤ g → At P f r (i + n + 1) Q N ((d, V g) :: F) w ((g, ob) :: L) X)
    (hk : ∀ g T T', opL P f r i n L F hs T (newB P g T') = opR P f r i n L F hs T (d, V g, ob)) : At P f r i Q N F w L X := by
  intro hN T W hF hS
  refine op_run hN hF hS (hk W.heap.size) (fun T' F1 o hF' hF1 hb hw hdN => ?_)
  refine wpSeq_step fun K hK => ?_
  rw [if_pos hw]
  unfold newB at hb
  split at hb
  · rename_i d' v' ob' e1 e2
    simp only [Option.some.injEq, Prod.mk.injEq] at hb
    obtain ⟨rfl, rfl, rfl⟩ := hb
    unfold Oper.wp
    rw [opd_eq hF1, symN_run e2]
    show K ((⟨T', []⟩ : Act).put o.dst (V W.heap.size)) _
    rw [e1]
    exact hK _ _ (k W.heap.size hS.below.size hN _ _ (hF'.put _ _ (hdN _ e1)) (hS.alloc _))
  · cases hb
@[reducible] def pt (g : Nat) : Value := .pointer (some ⟨g, 0, none⟩)
@[reducible] def po (g o : Nat) : Value := .pointer (some ⟨g, o, none⟩)
/-- A variable is made. -/
theorem At.new (n : Nat) (hs : List Nat) (d : Nat) (cs : Array Value) (ty : TypeId) (k : ∀ g, w.heap.size ≤ g → At P f r (i + n + 1) Q N ((d, pt g) :: F) w ((g, .cells cs ty (0, 0)) :: L) X)
    (hk : ∀ g T T', opL P f r i n L F hs T (newB P g T') = opR P f r i n L F hs T (d, pt g, .cells cs ty (0, 0)) := by intro g T T'; kernel_rfl) : At P f r i Q N F w L X :=
  At.new' n hs d pt _ k hk
/-- A slice is made. -/
theorem At.sli (n : Nat) (hs : List Nat) (d len : Nat) (cs : Array Value) (ty : TypeId) (k : ∀ g, w.heap.size ≤ g → At P f r (i + n + 1) Q N ((d, .slice (some ⟨g, 0, none⟩) len len) :: F) w ((g, .cells cs ty (0, 0)) :: L) X)
    (hk : ∀ g T T', opL P f r i n L F hs T (newB P g T') = opR P f r i n L F hs T (d, .slice (some ⟨g, 0, none⟩) len len, .cells cs ty (0, 0)) := by intro g T T'; kernel_rfl) : At P f r i Q N F w L X :=
  At.new' n hs d _ _ k hk

/-- A row with other cells. -/
def setC (L : List (Nat × Obj)) (j : Nat) (cs : Array Value) : List (Nat × Obj) := match L[j]? with
  | some (g, .cells _ ty fr) => L.set j (g, .cells cs ty fr)
  | _ => L
/-- An operation that writes a row: the cells behind it, and the blocks that it touches. -/
def stB (P : Program) (L : List (Nat × Obj)) (j : Nat) (T : Array Value) (F : List (Nat × Value)) (o : Oper) : Option (Array Value × List Nat) := match o.dst, L[j]? with
  | none, some (_, .cells cs ty (0, 0)) => match symW P ty (execOp (opd F T) o) cs with
    | some (.skip, cs', l) => some (cs', l)
    | _ => none
  | _, _ => none
theorem Sx.only {W W' : World} (h : Sx w L X W) (j : Nat) {g : Nat} {o o' : Obj} (hj : L[j]? = some (g, o)) (hg : w.heap.size ≤ g) (ho : OnlyAt g W W') (hn : W'.heap[g]? = some o') : Sx w (L.set j (g, o')) X W' :=
  h.write j hj o' (h.below.trans ⟨ho.os, ho.tape, ho.output, Nat.le_of_eq ho.size.symm, fun b hb => ho.other b (by omega)⟩) (Nat.le_of_eq ho.size.symm) (fun b hb _ => ho.other b hb) hn
/-- A row is written. -/
theorem At.st (n : Nat) (hs : List Nat) (j : Nat) (cs : Array Value) (hg : w.heap.size ≤ gAt L j) (k : At P f r (i + n + 1) Q N F w (setC L j cs) X)
    (hk : ∀ T T', opL P f r i n L F hs T (stB P L j T') = opE P f r i n L F hs T (fun F o => (stB P L j T' F o).map fun q => (cs, q.2.map fun _ => gAt L j)) := by intro T T'; kernel_rfl)
    (h1 : ∀ T T', (opL P f r i n L F hs T (stB P L j T')).isSome = true := by intro T T'; kernel_rfl) : At P f r i Q N F w L X := by
  intro hN T W hF hS
  refine op_run2 hN hF hS h1 hk (fun T' F1 o y hF' hF1 hb hb' hw hdN => ?_)
  refine wpSeq_step fun K hK => ?_
  rw [if_pos hw]
  rw [hb] at hb'
  simp only [Option.map_some, Option.some.injEq] at hb'
  unfold stB at hb
  split at hb
  · rename_i g cs0 ty e1 e2
    split at hb
    · rename_i cs' l e3
      cases hb
      simp only [Prod.mk.injEq] at hb'
      obtain ⟨rfl, hl⟩ := hb'
      have hgj : gAt L j = g := by unfold gAt; rw [e2]
      obtain ⟨W', r1, r2, r3⟩ := symW_run (W := W) e3 (fun b hb => by
        rw [← hl] at hb
        obtain ⟨_, _, h⟩ := List.mem_map.1 hb
        exact h.symm.trans hgj) (hS.rows _ (List.mem_of_getElem? e2))
      unfold Oper.wp
      rw [opd_eq hF1, r1]
      show K ((⟨T', []⟩ : Act).put o.dst undef) _
      rw [e1]
      refine hK _ _ (k hN _ _ hF' ?_)
      unfold setC
      rw [e2]
      exact hS.only j e2 (hgj ▸ hg) r2 r3
    · cases hb
  · cases hb

/-- Nothing is left of a region. -/
theorem At.fin (k : ∀ T W, Fq N T F → Sx w L X W → Q .normal ⟨T, []⟩ W) (h : (rops f r).drop i = [] := by kernel_rfl) : At P f r i Q N F w L X := by
  intro _ T W hF hS
  rw [h]
  exact k T W hF hS
/-- .. and what is behind it is code. -/
theorem At.nx {c : Code} (k : Cd P c Q N F w L X) (h : (rops f r).drop i = [] := by kernel_rfl) : At P f r i (Exit.then (c.wp P Q) Q) N F w L X := At.fin (fun T W hF hS => k T W hF hS) h
/-- Something of what is known of the world is said in another way. -/
theorem At.as {L' : List (Nat × Obj)} {X' : List Xt} (h : ∀ W, Sx w L X W → Sx w L' X' W) (k : At P f r i Q N F w L' X') : At P f r i Q N F w L X := fun hN T W hF hS => k hN T W hF (h W hS)
theorem Cd.as {c : Code} {L' : List (Nat × Obj)} {X' : List Xt} (h : ∀ W, Sx w L X W → Sx w L' X' W) (k : Cd P c Q N F w L' X') : Cd P c Q N F w L X := fun T W hF hS => k T W hF (h W hS)
/-- A fact of the world at hand. -/
theorem At.fact {p : Prop} (h : ∀ W, Sx w L X W → p) (k : p → At P f r i Q N F w L X) : At P f r i Q N F w L X := fun hN T W hF hS => k (h W hS) hN T W hF hS
theorem Cd.fact {c : Code} {p : Prop} (h : ∀ W, Sx w L X W → p) (k : p → Cd P c Q N F w L X) : Cd P c Q N F w L X := fun T W hF hS => k (h W hS) T W hF hS
theorem Cd.rg (k : At P f r 0 Q N F w L X) (h : rdrawn f r = some false := by kernel_rfl) (hN : dstsOk N (rops f r) = true := by kernel_rfl) : Cd P (rgn f r) Q N F w L X := fun T W hF hS => rgn_plain h (k hN T W hF hS)
theorem Cd.seq {a b : Code} (k : Cd P a (Exit.then (b.wp P Q) Q) N F w L X) : Cd P (.seq a b) Q N F w L X := fun T W hF hS => wp_seq (k T W hF hS)
/-- A plain region, and code behind it. -/
theorem Cd.sr {c : Code} (k : At P f r 0 (Exit.then (c.wp P Q) Q) N F w L X) (h : rdrawn f r = some false := by kernel_rfl) (hN : dstsOk N (rops f r) = true := by kernel_rfl) : Cd P (.seq (rgn f r) c) Q N F w L X := .seq (.rg k h hN)
theorem eval_known {T : Array Value} {j : Nat} {v : Value} (hF : Fq N T F) (h : look F j = some v) : (⟨T, []⟩ : Act).eval (.tmp j) = v := hF.known _ _ h
theorem Cd.ct {a b : Code} {j : Nat} (k : Cd P a Q N F w L X) (h : look F j = some (.bool true) := by kernel_rfl) : Cd P (.cond (.tmp j) a b) Q N F w L X := fun T W hF hS => wp_cond_true (eval_known hF h) (k T W hF hS)
theorem Cd.cf {a b : Code} {j : Nat} (k : Cd P b Q N F w L X) (h : look F j = some (.bool false) := by kernel_rfl) : Cd P (.cond (.tmp j) a b) Q N F w L X := fun T W hF hS => wp_cond_false (eval_known hF h) (k T W hF hS)
theorem Cd.sk (k : ∀ T W, Fq N T F → Sx w L X W → Q .normal ⟨T, []⟩ W) : Cd P .skip Q N F w L X := fun T W hF hS => wp_skip (k T W hF hS)
theorem Cd.skn {c : Code} (k : Cd P c Q N F w L X) : Cd P .skip (Exit.then (c.wp P Q) Q) N F w L X := fun T W hF hS => wp_skip (k T W hF hS)
theorem Cd.blk {c : Code} {id : Nat} (k : Cd P c (Exit.inBlock id Q) N F w L X) : Cd P (.block id c) Q N F w L X := fun T W hF hS => wp_block (k T W hF hS)
theorem Cd.ex {id : Nat} (k : ∀ T W, Fq N T F → Sx w L X W → Q (.exit id) ⟨T, []⟩ W) : Cd P (.exit id) Q N F w L X := fun T W hF hS => wp_exit (k T W hF hS)

/-- A slot is known in another way. -/
theorem At.eqv (j : Nat) (v v' : Value) (h : v = v') (k : At P f r i Q N ((j, v') :: F) w L X) (hj : look F j = some v := by kernel_rfl) : At P f r i Q N F w L X := by
  intro hN T W hF hS
  refine k hN T W ⟨hF.size, fun a u ha => ?_⟩ hS
  simp only [look] at ha
  cases e : Nat.beq j a with
  | true => rw [e] at ha; simp at ha; subst ha; subst h; rw [← Nat.eq_of_beq_eq_true e]; exact hF.known _ _ hj
  | false => rw [e] at ha; exact hF.known _ _ ha
theorem Cd.eqv {c : Code} (j : Nat) (v v' : Value) (h : v = v') (k : Cd P c Q N ((j, v') :: F) w L X) (hj : look F j = some v := by kernel_rfl) : Cd P c Q N F w L X := by
  intro T W hF hS
  refine k T W ⟨hF.size, fun a u ha => ?_⟩ hS
  simp only [look] at ha
  cases e : Nat.beq j a with
  | true => rw [e] at ha; simp at ha; subst ha; subst h; rw [← Nat.eq_of_beq_eq_true e]; exact hF.known _ _ hj
  | false => rw [e] at ha; exact hF.known _ _ ha
/-- What holds when a round has come to its end. -/
def again {ι : Type} (m : ι → Nat) (Fi : ι → List (Nat × Value)) (w : World) (Li : ι → List (Nat × Obj)) (Xi : ι → List Xt) (N : Nat) (i : ι) (a : Act) (W : World) : Prop := ∃ j, m j < m i ∧ ∃ T, a = ⟨T, []⟩ ∧ Fq N T (Fi j) ∧ Sx w (Li j) (Xi j) W
theorem Fq.sub {T : Array Value} {F' : List (Nat × Value)} (h : Fq N T F) (hk : F'.map (fun p => look F p.1) = F'.map (fun p => some p.2)) : Fq N T F' :=
  ⟨h.size, fun k v hv => h.known k v (List.map_inj_left.1 hk _ (look_mem _ _ _ hv))⟩
/-- A loop whose rounds have letters, and a number that falls. -/
theorem Cd.loop {c : Code} {ι : Type} (m : ι → Nat) (Fi : ι → List (Nat × Value)) (Li : ι → List (Nat × Obj)) (Xi : ι → List Xt) (i0 : ι) (hS0 : ∀ W, Sx w L X W → Sx w (Li i0) (Xi i0) W) (step : ∀ i, Cd P c (Exit.then (again m Fi w Li Xi N i) Q) N (Fi i) w (Li i) (Xi i))
    (hF0 : (Fi i0).map (fun p => look F p.1) = (Fi i0).map (fun p => some p.2) := by kernel_rfl) : Cd P (.loop c) Q N F w L X := by
  intro T W hF hS
  refine wp_loop_ghost (fun n a W => ∃ i, n = m i ∧ ∃ T, a = ⟨T, []⟩ ∧ Fq N T (Fi i) ∧ Sx w (Li i) (Xi i) W) (m i0) ⟨i0, rfl, T, rfl, hF.sub hF0, hS0 W hS⟩ ?_
  rintro n a W ⟨i, rfl, T, rfl, hF, hS⟩
  refine wp_mono (step i T W hF hS) ?_
  intro e a' W' h
  cases e with
  | normal =>
    obtain ⟨j, hlt, T', ha, h1, h2⟩ := h
    exact ⟨m j, hlt, j, rfl, T', ha, h1, h2⟩
  | _ => exact h
theorem again_of {ι : Type} {m : ι → Nat} {Fi : ι → List (Nat × Value)} {Li : ι → List (Nat × Obj)} {Xi : ι → List Xt} {i : ι} (j : ι) (hlt : m j < m i) (hS : ∀ W, Sx w L X W → Sx w (Li j) (Xi j) W) (hk : (Fi j).map (fun p => look F p.1) = (Fi j).map (fun p => some p.2) := by kernel_rfl) : ∀ T W, Fq N T F → Sx w L X W → Exit.then (again m Fi w Li Xi N i) Q .normal ⟨T, []⟩ W :=
  fun T W hF h => ⟨j, hlt, T, rfl, hF.sub hk, hS W h⟩
/-- An operation on two values that isn't reckoned. -/
def binB (T : Array Value) (F : List (Nat × Value)) (o : Oper) : Option (Nat × Bool × BinOp × Value × Value) := match o.dst, o.op with
  | some d, .binOp op _ x y _ => some (d, (match op with | .eql | .neq => false | _ => true), op, opd F T x, opd F T y)
  | _, _ => none
theorem At.bin (n : Nat) (hs : List Nat) (d : Nat) (op : BinOp) (x y v : Value) (hv : ∀ t W, (binOp op t x y).run P W = .ok v W) (k : At P f r (i + n + 1) Q N ((d, v) :: F) w L X)
    (hk : ∀ T T', opL P f r i n L F hs T (binB T') = opR P f r i n L F hs T (d, true, op, x, y) := by intro T T'; kernel_rfl) : At P f r i Q N F w L X := by
  intro hN T W hF hS
  refine op_run hN hF hS hk (fun T' F1 o hF' hF1 hb hw hdN => ?_)
  refine wpSeq_step fun K hK => ?_
  rw [if_pos hw]
  unfold binB at hb
  split at hb
  · rename_i d' op' t x' y' ty e1 e2
    simp only [Option.some.injEq, Prod.mk.injEq] at hb
    obtain ⟨rfl, hop, rfl, rfl, rfl⟩ := hb
    have hg : (eqGuard op' t x' y' (opd F1 T' x') (opd F1 T' y')).run P W = .ok () W := by
      unfold eqGuard
      cases op' <;> first | rfl | cases hop
    unfold Oper.wp
    rw [opd_eq hF1]
    unfold execOp
    simp only [e2, Sem.run_bind, hg, Result.andThen_ok, hv]
    show K ((⟨T', []⟩ : Act).put o.dst v) W
    rw [e1]
    exact hK _ _ (k hN _ W (hF'.put _ v (hdN _ e1)) hS)
  · cases hb
/-- An address in an array or a slice, at a place that isn't a literal. -/
def ixB (P : Program) (T : Array Value) (F : List (Nat × Value)) (o : Oper) : Option (Nat × Option Nat × Nat × Value × Value) := match o.dst, o.op with
  | some d, .indexAddr t x y => match P.underlying t with
    | some (.array len e) => match symR P #[] 0 (sizeOf e) with
      | some (s, []) => some (d, some len, s, opd F T x, opd F T y)
      | _ => none
    | some (.slice e) => match symR P #[] 0 (sizeOf e) with
      | some (s, []) => some (d, none, s, opd F T x, opd F T y)
      | _ => none
    | _ => none
  | _, _ => none
theorem At.ixa (n : Nat) (hs : List Nat) (d len s g o : Nat) (k' : IntKind) (m : Nat) (hm : m < len) (k : At P f r (i + n + 1) Q N ((d, po g (o + m * s)) :: F) w L X)
    (hk : ∀ T T', opL P f r i n L F hs T (ixB P T') = opR P f r i n L F hs T (d, some len, s, po g o, .int k' (m : Int)) := by intro T T'; kernel_rfl) : At P f r i Q N F w L X := by
  intro hN T W hF hS
  refine op_run hN hF hS hk (fun T' F1 op hF' hF1 hb hw hdN => ?_)
  refine wpSeq_step fun K hK => ?_
  rw [if_pos hw]
  unfold ixB at hb
  split at hb
  · rename_i d' t x' y' e1 e2
    split at hb
    · rename_i len' e hu
      split at hb
      · rename_i s' e3
        simp only [Option.some.injEq, Prod.mk.injEq] at hb
        obtain ⟨rfl, rfl, rfl, hx, hy⟩ := hb
        have hadd : (⟨g, o, none⟩ : Addr).add (m * s') = ⟨g, o + m * s', none⟩ := by unfold Addr.add; split <;> simp_all
        unfold Oper.wp
        rw [opd_eq hF1]
        unfold execOp
        simp [e2, hx, hy, Instr.indexAt, asIntOf, run_underlying hu, sym0_run e3, Instr.sureAddr, hm, hadd]
        show K ((⟨T', []⟩ : Act).put op.dst _) W
        rw [e1]
        exact hK _ _ (k hN _ W (hF'.put _ _ (hdN _ e1)) hS)
      · cases hb
    · split at hb
      · simp at hb
      · cases hb
    · cases hb
  · cases hb
theorem At.ixs (n : Nat) (hs : List Nat) (d s g o l c : Nat) (k' : IntKind) (m : Nat) (hm : m < l) (k : At P f r (i + n + 1) Q N ((d, po g (o + m * s)) :: F) w L X)
    (hk : ∀ T T', opL P f r i n L F hs T (ixB P T') = opR P f r i n L F hs T (d, none, s, .slice (some ⟨g, o, none⟩) l c, .int k' (m : Int)) := by intro T T'; kernel_rfl) : At P f r i Q N F w L X := by
  intro hN T W hF hS
  refine op_run hN hF hS hk (fun T' F1 op hF' hF1 hb hw hdN => ?_)
  refine wpSeq_step fun K hK => ?_
  rw [if_pos hw]
  unfold ixB at hb
  split at hb
  · rename_i d' t x' y' e1 e2
    split at hb
    · split at hb
      · simp at hb
      · cases hb
    · rename_i e hu
      split at hb
      · rename_i s' e3
        simp only [Option.some.injEq, Prod.mk.injEq] at hb
        obtain ⟨rfl, -, rfl, hx, hy⟩ := hb
        have hadd : (⟨g, o, none⟩ : Addr).add (m * s') = ⟨g, o + m * s', none⟩ := by unfold Addr.add; split <;> simp_all
        unfold Oper.wp
        rw [opd_eq hF1]
        unfold execOp
        simp [e2, hx, hy, Instr.indexAt, asIntOf, run_underlying hu, sym0_run e3, hm, hadd]
        show K ((⟨T', []⟩ : Act).put op.dst _) W
        rw [e1]
        exact hK _ _ (k hN _ W (hF'.put _ _ (hdN _ e1)) hS)
      · cases hb
    · cases hb
  · cases hb
/-- A cell is read at a place that isn't a literal. -/
def ldB (P : Program) (T : Array Value) (F : List (Nat × Value)) (o : Oper) : Option (Nat × Value × Bool) := match o.dst, o.op with
  | some d, .load t x => match P.underlying t with
    | some dd => some (d, opd F T x, match dd with | .struct _ | .array _ _ => false | _ => true)
    | none => none
  | _, _ => none
theorem At.ld (n : Nat) (hs : List Nat) (d g o : Nat) (v : Value) (hc : ∀ W, Sx w L X W → W.cell? ⟨g, o, none⟩ = some v) (k : At P f r (i + n + 1) Q N ((d, v) :: F) w L X)
    (hk : ∀ T T', opL P f r i n L F hs T (ldB P T') = opR P f r i n L F hs T (d, po g o, true) := by intro T T'; kernel_rfl) : At P f r i Q N F w L X := by
  intro hN T W hF hS
  refine op_run hN hF hS hk (fun T' F1 op hF' hF1 hb hw hdN => ?_)
  refine wpSeq_step fun K hK => ?_
  rw [if_pos hw]
  unfold ldB at hb
  split at hb
  · rename_i d' t x' e1 e2
    split at hb
    · rename_i dd hu
      simp only [Option.some.injEq, Prod.mk.injEq] at hb
      obtain ⟨rfl, hx, hdd⟩ := hb
      refine wp_ld e2 ((congrFun (opd_eq hF1) x').trans hx) hu (by cases dd <;> exact hdd) (hc W hS) ?_
      rw [e1]
      exact hK _ _ (k hN _ W (hF'.put _ v (hdN _ e1)) hS)
    · cases hb
  · cases hb
theorem run_shr {P : Program} {k k' : IntKind} {m : Int} {n : Nat} (t : TypeId) (W : World) : (binOp .shr t (.int k m) (.int k' (n : Int))).run P W = .ok (.int k (m.fdiv (2 ^ min n k.bits))) W := by
  simp [binOp, Op.shift]; omega
/-- Ways that meet again: what is behind them is walked once. -/
def joined {ι : Type} (F0 : ι → List (Nat × Value)) (w : World) (L0 : ι → List (Nat × Obj)) (X0 : ι → List Xt) (N : Nat) (a : Act) (W : World) : Prop := ∃ i, ∃ T, a = ⟨T, []⟩ ∧ Fq N T (F0 i) ∧ Sx w (L0 i) (X0 i) W
theorem Cd.seqj {a b : Code} {ι : Type} (F0 : ι → List (Nat × Value)) (L0 : ι → List (Nat × Obj)) (X0 : ι → List Xt) (rest : ∀ i, Cd P b Q N (F0 i) w (L0 i) (X0 i)) (arm : Cd P a (Exit.then (joined F0 w L0 X0 N) Q) N F w L X) : Cd P (.seq a b) Q N F w L X := by
  intro T W hF hS
  refine wp_seq (wp_mono (arm T W hF hS) ?_)
  intro e a' W' h
  cases e with
  | normal =>
    obtain ⟨i, T', rfl, h1, h2⟩ := h
    exact rest i T' W' h1 h2
  | _ => exact h
theorem join_of {ι : Type} {F0 : ι → List (Nat × Value)} {L0 : ι → List (Nat × Obj)} {X0 : ι → List Xt} (i : ι) (hS : ∀ W, Sx w L X W → Sx w (L0 i) (X0 i) W) (hk : (F0 i).map (fun p => look F p.1) = (F0 i).map (fun p => some p.2) := by kernel_rfl) : ∀ T W, Fq N T F → Sx w L X W → Exit.then (joined F0 w L0 X0 N) Q .normal ⟨T, []⟩ W :=
  fun T W hF h => ⟨i, T, rfl, hF.sub hk, hS W h⟩
/-- One result: its value, and the blocks that are read, each with what it is to be. -/
def resOne (P : Program) (F : List (Nat × Value)) (L : List (Nat × Obj)) (j : Nat) : ResultVar → Option (Value × List Nat × List Nat)
  | .tmp t => (look F t).map fun v => (v, [], [])
  | .cell a t => match look F a, L[j]? with
    | some v, some (g, .cells cs ty _) => match symR P cs ty (do loadVar t (← asAddr v)) with
      | some (x, l) => some (x, l, l.map fun _ => g)
      | none => none
    | _, _ => none
def resAll (P : Program) (F : List (Nat × Value)) (L : List (Nat × Obj)) : List Nat → List ResultVar → Option (List Value × List Nat × List Nat)
  | _, [] => some ([], [], [])
  | hs, x :: xs => match resOne P F L (hs.headD 0) x, resAll P F L hs.tail xs with
    | some (v, l, g), some (vs, l2, g2) => some (v :: vs, l ++ l2, g ++ g2)
    | _, _ => none
def resSem (T : Array Value) : ResultVar → Sem Value
  | .tmp t => pure (T.getD t undef)
  | .cell a t => do loadVar t (← asAddr (T.getD a undef))
theorem resOne_run {T : Array Value} {W : World} {j : Nat} {x : ResultVar} {v : Value} {l g : List Nat} (hF : Fq N T F) (hS : Sx w L X W) (h : resOne P F L j x = some (v, l, g)) (hl : l = g) :
    Sem.run P (resSem T x) W = .ok v W := by
  cases x with
  | tmp t =>
    simp only [resOne] at h
    cases e : look F t with
    | none => rw [e] at h; cases h
    | some u => rw [e] at h; cases h; simp only [resSem]; rw [hF.known _ _ e]; rfl
  | cell a t =>
    simp only [resOne] at h
    split at h
    · rename_i u gg cs ty fr e1 e2
      split at h
      · rename_i x' l' e3
        cases h
        simp only [resSem]
        rw [hF.known _ _ e1]
        exact symR_run (fr := fr) e3 (fun b hb => by
          rw [hl] at hb
          obtain ⟨_, _, h⟩ := List.mem_map.1 hb
          exact h.symm) (Or.inr (hS.rows _ (List.mem_of_getElem? e2)))
      · cases h
    · cases h
theorem resAll_len {xs : List ResultVar} : ∀ {hs : List Nat} {vs : List Value} {l g : List Nat}, resAll P F L hs xs = some (vs, l, g) → l.length = g.length := by
  induction xs with
  | nil => intro hs vs l g h; cases h; rfl
  | cons x xs ih =>
    intro hs vs l g h
    simp only [resAll] at h
    split at h
    · rename_i v l1 g1 vs2 l2 g2 e1 e2
      cases h
      have h2 := ih e2
      have h1 : l1.length = g1.length := by
        cases x with
        | tmp t => simp only [resOne] at e1; cases e : look F t <;> rw [e] at e1 <;> cases e1; rfl
        | cell a t =>
          simp only [resOne] at e1
          split at e1
          · split at e1
            · cases e1; simp
            · cases e1
          · cases e1
      simp [h1, h2]
    · cases h
theorem resAll_run {T : Array Value} {W : World} (hF : Fq N T F) (hS : Sx w L X W) : ∀ {xs : List ResultVar} {hs : List Nat} {vs : List Value} {l g : List Nat}, resAll P F L hs xs = some (vs, l, g) → l = g →
    Sem.run P (xs.mapM (resSem T)) W = .ok vs W
  | [], hs, vs, l, g, h, _ => by cases h; rfl
  | x :: xs, hs, vs, l, g, h, hl => by
    simp only [resAll] at h
    split at h
    · rename_i v l1 g1 vs2 l2 g2 e1 e2
      cases h
      have hlen := resAll_len e2
      obtain ⟨h1, h2⟩ := List.append_inj' hl hlen
      rw [List.mapM_cons]
      simp only [Sem.run_bind, resOne_run hF hS e1 h1, Result.andThen_ok, resAll_run hF hS e2 h2]
      rfl
    · cases h
def oneOf : List Value → Value
  | [v] => v
  | vs => .tuple vs.toArray
theorem results_run {fn : Func} {T : Array Value} {W : World} {hs : List Nat} {vs : List Value} {l g : List Nat} (hF : Fq N T F) (hS : Sx w L X W) (h : resAll P F L hs fn.results.toList = some (vs, l, g)) (hl : l = g) : (results fn T).run P W = .ok (oneOf vs) W := by
  have e : results fn T = (do let vs ← fn.results.mapM (resSem T); pure (if h : vs.size = 1 then vs[0] else .tuple vs)) := by
    unfold results
    congr 1
  rw [e, Sem.run_bind, Array.mapM_eq_mapM_toList, map_eq_pure_bind, Sem.run_bind, resAll_run hF hS h hl]
  simp only [Result.andThen_ok, Sem.run_pure]
  congr 1
  match vs with
  | [] => rfl
  | [v] => rfl
  | v :: u :: vs => simp [oneOf]
theorem r0 {fn : Func} {R : Ending → World → Prop} : ∀ a w, bodyPost P fn R .ret a w → bodyPost P fn R .ret a w := fun _ _ h => h
theorem rt {B : Act → World → Prop} {K : Act → World → Prop} (h : ∀ a w, B a w → Q .ret a w) : ∀ a w, B a w → Exit.then K Q .ret a w := h
theorem rb {B : Act → World → Prop} {id : Nat} (h : ∀ a w, B a w → Q .ret a w) : ∀ a w, B a w → Exit.inBlock id Q .ret a w := h
/-- The end of a function: what it answers. -/
theorem Cd.rv {fn : Func} {R : Ending → World → Prop} (hQ : ∀ a w, bodyPost P fn R .ret a w → Q .ret a w) (hs : List Nat) (v : Value) (h : ∀ W, Sx w L X W → R (.returned v) W)
    (hk : (resAll P F L hs fn.results.toList).map (fun q => (oneOf q.1, q.2.1)) = (resAll P F L hs fn.results.toList).map (fun q => (v, q.2.2)) := by kernel_rfl) (hs1 : (resAll P F L hs fn.results.toList).isSome = true := by kernel_rfl) : Cd P .ret Q N F w L X := by
  intro T W hF hS
  refine wp_ret (hQ _ _ ?_)
  cases e : resAll P F L hs fn.results.toList with
  | none => rw [e] at hs1; cases hs1
  | some q =>
    obtain ⟨vs, l, g⟩ := q
    rw [e] at hk
    simp only [Option.map_some, Option.some.injEq, Prod.mk.injEq] at hk
    obtain ⟨h1, h2⟩ := hk
    exact ⟨rfl, _, results_run hF hS e h2, h1 ▸ h W hS⟩
/-- A function's walk. -/
theorem enterQ {fid : FuncId} {fn : Func} {args : Array Value} {R : Ending → World → Prop} (N : Nat) (K : (Nat → Code) → Code) (hS : Sx w L X w) (hf : P.funcs[fid]? = some fn) (k : Cd P (K (rgn fn)) (bodyPost P fn R) N (args.toList.zipIdx.map fun p => (p.2, p.1)) w L X)
    (hb : fn.body = some (K (rgn fn)) := by kernel_rfl) (hN : args.size + (fn.ntmps - args.size) = N := by kernel_rfl) : Calls P fid args w R :=
  calls_of_wp hf hb (k _ w ⟨by rw [← hN]; simp, fun j v hj => by
    have hm := look_mem _ _ _ hj
    obtain ⟨p, hp, he⟩ := List.mem_map.1 hm
    cases he
    obtain ⟨h1, h2, h3⟩ := List.mem_zipIdx hp
    simp only [Nat.sub_zero] at h3
    have h2 : p.2 < args.size := by simpa using h2
    rw [Array.getD_eq_getD_getElem?, Array.getElem?_append_left h2, h3]
    simp [h2]⟩ hS)
end walk
end Go.Proofs.Ytiodcmgpajdmoaa
