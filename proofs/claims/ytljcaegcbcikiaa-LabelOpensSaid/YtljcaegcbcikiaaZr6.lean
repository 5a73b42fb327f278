/-
  Texts Sr, Yl, Yk, Ym, Nx, Yn, Yo, Yp, Yq, Ny, Ys, Yu, Lx, Ly, Lz, Lw, Cl, Io, Ob, Oe of the claim, merged. (Printed by shake.py.)
-/
import Derived.Test.YtljcaegcbcikiaaZr5
namespace Go.Proofs.Ytljcaegcbcikiaa
open Go.RowKit
/-- The n1-th operation is a store that waits for all ahead of it but those of M; behind it each waits for all. -/
def lateOkM (l : List Oper) (n1 : Nat) (M : List Nat) : Bool := decide (n1 < l.length) && ((match l[n1]? with
  | some o => o.guard.isNone && (o.dst.isNone && (match o.op with
    | .store _ x y => M.all fun q => decide (q < n1) && (match l[q]? with
      | some oq => oq.guard.isNone && (match oq.dst with
        | some d => slotNot d x && slotNot d y
        | none => false)
      | none => false)
    | _ => false))
  | none => false) && ((List.range l.length).all fun m => decide (m < n1) || (List.range m).all fun j => (Nat.beq m n1 && M.contains j) || leans l m j))
/-- Operations of M hang on the frame alone. -/
def pureM (P : Program) (E F : List (Nat × Value)) (l : List Oper) (M : List Nat) (T : Array Value) : Bool := M.all fun i => match l[i]? with
  | some o => match symR P #[] 0 (execOp (opdD E F l i o T) o) with
    | some (.value _, []) => true
    | _ => false
  | none => false
section
variable {P : Program} {l : List Oper} {N n1 : Nat} {M : List Nat} {F : List (Nat × Value)} {w : World} {L : List (Nat × Obj)} {X : List Xt} {D : Dw} {E : (Nat → Lt) → List (Nat × Value)} {T0 : Array Value} {Q : Exit → Act → World → Prop}
theorem lateM_parts (h : lateOkM l n1 M = true) : ∃ o t x y, l[n1]? = some o ∧ o.guard = none ∧ o.dst = none ∧ o.op = .store t x y ∧ (∀ q, q ∈ M → q < n1 ∧ ∃ oq d, l[q]? = some oq ∧ oq.guard = none ∧ oq.dst = some d ∧ slotNot d x = true ∧ slotNot d y = true) ∧ (∀ m j, n1 ≤ m → m < l.length → j < m → (m = n1 ∧ j ∈ M) ∨ leans l m j = true) := by
  unfold lateOkM at h
  simp only [Bool.and_eq_true, decide_eq_true_eq] at h
  obtain ⟨h0, h1, h2⟩ := h
  split at h1
  · rename_i o e1
    simp only [Bool.and_eq_true, Option.isNone_iff_eq_none] at h1
    obtain ⟨g1, g2, h1⟩ := h1
    split at h1
    · rename_i t x y e3
      refine ⟨o, t, x, y, e1, g1, g2, e3, fun q hq => ?_, fun m j hm hml hj => ?_⟩
      · have h3 := List.all_eq_true.1 h1 q hq
        rw [Bool.and_eq_true, decide_eq_true_eq] at h3
        obtain ⟨h4, h3⟩ := h3
        split at h3
        · rename_i oq e4
          rw [Bool.and_eq_true, Option.isNone_iff_eq_none] at h3
          obtain ⟨g3, h3⟩ := h3
          split at h3
          · rename_i d e5
            rw [Bool.and_eq_true] at h3
            exact ⟨h4, oq, d, e4, g3, e5, h3.1, h3.2⟩
          · cases h3
        · cases h3
      · have h3 := List.all_eq_true.1 h2 m (List.mem_range.2 hml)
        rw [Bool.or_eq_true, decide_eq_true_eq] at h3
        rcases h3 with h3 | h3
        · omega
        · have h4 := List.all_eq_true.1 h3 j (List.mem_range.2 hj)
          simp only [Bool.or_eq_true, Bool.and_eq_true] at h4
          rcases h4 with h4 | h4
          · exact Or.inl ⟨Nat.eq_of_beq_eq_true h4.1, List.contains_iff_mem.1 h4.2⟩
          · exact Or.inr h4
    · cases h1
  · cases h1
theorem pureM_run {E' F' : List (Nat × Value)} {T : Array Value} (h : pureM P E' F' l M T = true) {i : Nat} {o : Oper} (hi : i ∈ M) (ho : l[i]? = some o) : ∃ v, ∀ W, (execOp (opdD E' F' l i o T) o).run P W = .ok (.value v) W := by
  have h1 := List.all_eq_true.1 h i hi
  simp only [ho] at h1
  split at h1
  · rename_i v e
    exact ⟨v, fun W => sym0_run e⟩
  · cases h1
theorem wp_region_lateM {id : Nat} {a : Act} {W : World} (hm : P.follows .mixedOrders = true) (hp : Plain l N) (hlate : lateOkM l n1 M = true) (hpure : ∀ u T, pureM P (E u) F l M T = true) (hQ : ∀ c a W, ¬ Q (.panic c) a W) (hst : D.Stays) (hF : Fq N T0 F) (ha : a = ⟨T0, []⟩) {hs : List Nat} (hok : D.Ok P L F l n1 hs E) (hpf : Pf w L X (D.Hs l) (D.obs P E F l 0 (l.take n1))) (hS : Sx w L X W)
    (fin : ∀ u Ld T W', (∀ i, i < n1 → Ld i = true) → (∀ m, n1 ≤ m → m < l.length → Ld m = false) → GInv l N n1 w W L X D E T0 u Ld T W' → wpSeq P l Q (l.drop n1) ⟨T, []⟩ W') : (Code.region id l.toArray true).wp P Q a W := by
  obtain ⟨o1, st, sx, sy, hl1, g1, d1, op1, hMp, tail⟩ := lateM_parts hlate
  have hn1 : n1 < l.length := (List.getElem?_eq_some_iff.1 hl1).1
  have unf : ∀ {k : Nat} {o : Oper} {a : Act} {W : World}, l[k]? = some o → wpSeq P l Q (l.drop k) a W → (∀ K : Act → World → Prop, (∀ a W, wpSeq P l Q (l.drop (k + 1)) a W → K a W) → if Region.wanted o (yielded l.toArray a.tmps) = true then o.wp P a W K Q else K (a.put o.dst undef) W) := by
    intro k o a W ho h K hK
    obtain ⟨h1, h2⟩ := List.getElem?_eq_some_iff.1 ho
    rw [List.drop_eq_getElem_cons h1, h2] at h
    unfold wpSeq at h
    split
    · rename_i hw; rw [if_pos hw] at h; exact Oper.wp_mono hK h
    · rename_i hw; rw [if_neg hw] at h; exact hK _ _ h
  have wantN : ∀ {o : Oper} {T : Array Value}, o.guard = none → Region.wanted o (yielded l.toArray T) = true := fun h => by unfold Region.wanted; rw [h]
  have shutN : ∀ {Ld : Nat → Bool} {i : Nat} {o : Oper}, Shut l Ld → l[i]? = some o → (∀ j, waits o j = true → Ld j = true) → Shut l (also Ld i) := by
    intro Ld i o hsh ho hd j oj hj hLj m hm
    by_cases e : j = i
    · subst e; rw [ho] at hj; cases hj
      simp [also, hd m hm]
    · rw [also_ne e] at hLj
      simp [also, hsh j oj hj hLj m hm]
  -- one operation of M: what it yields, in any world
  have one : ∀ {u : Nat → Lt} {Ld : Nat → Bool} {T : Array Value} {W' : World} {i : Nat} {o : Oper}, GInv l N n1 w W L X D E T0 u Ld T W' → Shut l Ld → i ∈ M → l[i]? = some o → Ld i = false → (∀ j, waits o j = true → Ld j = true) → ∃ d v, o.dst = some d ∧ slotNot d sx = true ∧ slotNot d sy = true ∧ o.guard = none ∧ (∀ W, (execOp (⟨T, []⟩ : Act).eval o).run P W = .ok (.value v) W) ∧ ∃ u', GInv l N n1 w W L X D E T0 u' (also Ld i) (T.setIfInBounds d v) W' := by
    intro u Ld T W' i o hG hsh hi ho hf hd
    obtain ⟨hin, oq, d, ho2, g2, dd, nx, ny⟩ := hMp i hi
    rw [ho] at ho2; cases ho2
    obtain ⟨v, hv⟩ := pureM_run (hpure u T) hi ho
    rw [← hG.eval hp hF hsh ho hin hf hd] at hv
    have hstep := Dw.step hp hst hF hok hpf hG hsh ho hin hf hd (Q := Q) (fun a W => a.defers = [] ∧ ∃ u', GInv l N n1 w _ L X D E T0 u' (also Ld i) a.tmps W) (fun u' T' W2 hG' => ⟨rfl, u', hG'⟩)
    rw [if_pos (wantN g2)] at hstep
    unfold Oper.wp at hstep
    rw [hv W'] at hstep
    obtain ⟨-, u', hG'⟩ := hstep
    have hput : (⟨T, []⟩ : Act).put o.dst v = ⟨T.setIfInBounds d v, []⟩ := by rw [dd]; rfl
    rw [hput] at hG'
    exact ⟨d, v, dd, nx, ny, g2, hv, u', hG'⟩
  -- all of M, one behind the other
  have virt : ∀ (i : Nat), i ≤ n1 → ∀ (u : Nat → Lt) (Ld : Nat → Bool) (T : Array Value) (W' : World), GInv l N n1 w W L X D E T0 u Ld T W' → Shut l Ld → (∀ j, j < n1 → j ∉ M → Ld j = true) → (∀ m, n1 ≤ m → m < l.length → Ld m = false) → ∃ u' Ld' T', GInv l N n1 w W L X D E T0 u' Ld' T' W' ∧ Shut l Ld' ∧ (∀ j, j < n1 → j ∉ M → Ld' j = true) ∧ (∀ j, j < i → Ld' j = true) ∧ (∀ m, n1 ≤ m → m < l.length → Ld' m = false) ∧ (⟨T', []⟩ : Act).eval sx = (⟨T, []⟩ : Act).eval sx ∧ (⟨T', []⟩ : Act).eval sy = (⟨T, []⟩ : Act).eval sy := by
    intro i
    induction i with
    | zero => intro _ u Ld T W' hG hsh h1 h2; exact ⟨u, Ld, T, hG, hsh, h1, fun j hj => absurd hj (Nat.not_lt_zero j), h2, rfl, rfl⟩
    | succ i ih =>
      intro hi u Ld T W' hG hsh h1 h2
      obtain ⟨u', Ld', T', hG', hsh', h1', h3, h2', ex, ey⟩ := ih (by omega) u Ld T W' hG hsh h1 h2
      cases hLi : Ld' i with
      | true => exact ⟨u', Ld', T', hG', hsh', h1', fun j hj => by rcases Nat.lt_or_eq_of_le (Nat.le_of_lt_succ hj) with q | q; exact h3 j q; rw [q]; exact hLi, h2', ex, ey⟩
      | false =>
        have hiM : i ∈ M := Classical.byContradiction fun hn => by rw [h1' i (by omega) hn] at hLi; cases hLi
        obtain ⟨o, ho⟩ : ∃ o, l[i]? = some o := ⟨_, List.getElem?_eq_getElem (by omega)⟩
        have hd : ∀ j, waits o j = true → Ld' j = true := fun j hj => h3 j (hp.back i o j ho hj)
        obtain ⟨d, v, dd, nx, ny, g2, hv, u2, hG2⟩ := one hG' hsh' hiM ho hLi hd
        refine ⟨u2, _, _, hG2, shutN hsh' ho hd, fun j hj hn => ?_, fun j hj => ?_, fun m hm1 hm2 => ?_, ?_, ?_⟩
        · by_cases e : j = i
          · subst e; simp [also]
          · rw [also_ne e]; exact h1' j hj hn
        · by_cases e : j = i
          · subst e; simp [also]
          · rw [also_ne e]; exact h3 j (by omega)
        · rw [also_ne (by omega)]; exact h2' m hm1 hm2
        · exact (slot_eval nx).symm.trans ex
        · exact (slot_eval ny).symm.trans ey
  -- the invariant: nothing of the tail; the store, not yet all of M; all
  let C : (Nat → Bool) → Act → World → Prop := fun Ld a W' => (∀ i, i < n1 → Ld i = true) ∧ ∃ k, n1 < k ∧ (∀ m, n1 ≤ m → m < l.length → (Ld m = true ↔ m < k)) ∧ wpSeq P l Q (l.drop k) a W'
  let B : (Nat → Bool) → Act → World → Prop := fun Ld a W' => a.defers = [] ∧ (∀ i, i < n1 → i ∉ M → Ld i = true) ∧ (∀ m, n1 ≤ m → m < l.length → (Ld m = true ↔ m < n1 + 1)) ∧ ∃ u W0, GInv l N n1 w W L X D E T0 u (fun m => Ld m && decide (m < n1)) a.tmps W0 ∧ (Instr.storeAt st (a.eval sx) (a.eval sy)).run P W0 = .ok () W'
  have storeK : ∀ {a : Act} {W0 W' : World} {K : Act → World → Prop}, (Instr.storeAt st (a.eval sx) (a.eval sy)).run P W0 = .ok () W' → o1.wp P a W0 K Q → K a W' := by
    intro a W0 W' K hr h
    unfold Oper.wp execOp at h
    simp only [op1, Sem.run_bind, Sem.run_pure, hr, Result.andThen_ok] at h
    have h : K (a.put o1.dst undef) W' := h
    rw [d1] at h; exact h
  have BtoC : ∀ {Ld : Nat → Bool} {a : Act} {W' : World}, B Ld a W' → (∀ i, i < n1 → Ld i = true) → C Ld a W' := by
    intro Ld a W' hB hall
    obtain ⟨hdef, -, hkm, u, W0, hG, hr⟩ := hB
    obtain ⟨T, ds⟩ := a
    obtain rfl : ds = [] := hdef
    have h1 := unf hl1 (fin u _ T W0 (fun i hi => by simp [hall i hi, hi]) (fun m h1 h2 => by simp; intro _; omega) hG) (fun a2 W2 => wpSeq P l Q (l.drop (n1 + 1)) a2 W2) (fun _ _ h => h)
    rw [if_pos (wantN g1)] at h1
    exact ⟨hall, n1 + 1, by omega, hkm, storeK hr h1⟩
  refine wp_region_inv l.length (by simp) hm (fun i o ho e he hb => hp.back i o e.on (by simpa using ho) (of_waits he hb rfl))
    (fun Ld a W' => Shut l Ld ∧ ((a.defers = [] ∧ (∀ m, n1 ≤ m → m < l.length → Ld m = false) ∧ ∃ u, GInv l N n1 w W L X D E T0 u Ld a.tmps W') ∨ B Ld a W' ∨ C Ld a W')) ?_ ?_ ?_
  · subst ha
    have h0 : Shut l (fun _ => false) := fun k ok _ h => Bool.noConfusion h
    have h1 : GInv l N n1 w W L X D E T0 (fun _ => lt0 none 0 0) (fun _ => false) T0 W.drew := ⟨hF.size, hS.drew, Nat.le_refl _, fun i o d v _ _ h => Bool.noConfusion h, fun _ _ => rfl, fun _ _ _ h => Bool.noConfusion h, fun _ _ _ _ _ _ h => Bool.noConfusion h, fun _ _ _ h => Bool.noConfusion h⟩
    exact ⟨h0, Or.inl ⟨rfl, fun _ _ _ => rfl, _, h1⟩⟩
  · intro i o ho Ld a W' hI hf hd
    have ho' : l[i]? = some o := by simpa using ho
    have hil : i < l.length := (List.getElem?_eq_some_iff.1 ho').1
    have hd' : ∀ j, waits o j = true → Ld j = true := fun j hj => by
      obtain ⟨e, he, hb, rfl⟩ := waits_of hj
      exact hd e he hb
    obtain ⟨hsh, hI⟩ := hI
    have hsh' : Shut l (also Ld i) := shutN hsh ho' hd'
    have hall' : ∀ j, n1 ≤ i → j < i → (i = n1 ∧ j ∈ M) ∨ Ld j = true := fun j h1 h2 => (tail i j h1 hil h2).imp (fun h => h) fun h => leans_in hsh (fun o' k hk hw => by rw [ho'] at hk; cases hk; exact hd' k hw) h
    have stepC : C Ld a W' → if Region.wanted o (yielded l.toArray a.tmps) = true then o.wp P a W' (fun a2 W2 => Shut l (also Ld i) ∧ ((a2.defers = [] ∧ (∀ m, n1 ≤ m → m < l.length → also Ld i m = false) ∧ ∃ u, GInv l N n1 w W L X D E T0 u (also Ld i) a2.tmps W2) ∨ B (also Ld i) a2 W2 ∨ C (also Ld i) a2 W2)) Q else (fun a2 W2 => Shut l (also Ld i) ∧ ((a2.defers = [] ∧ (∀ m, n1 ≤ m → m < l.length → also Ld i m = false) ∧ ∃ u, GInv l N n1 w W L X D E T0 u (also Ld i) a2.tmps W2) ∨ B (also Ld i) a2 W2 ∨ C (also Ld i) a2 W2)) (a.put o.dst undef) W' := by
      rintro ⟨hall, k, hk, hkm, hw⟩
      have hni : n1 ≤ i := by
        rcases Nat.lt_or_ge i n1 with h1 | h1
        · rw [hall i h1] at hf; cases hf
        · exact h1
      have hki : i = k := by
        have h1 : ¬ i < k := fun h => by rw [(hkm i hni hil).2 h] at hf; cases hf
        rcases Nat.lt_or_ge k i with h2 | h2
        · have h4 : Ld k = true := by
            rcases hall' k hni h2 with h4 | h4
            · omega
            · exact h4
          have h3 := (hkm k (by omega) (by omega)).1 h4
          omega
        · omega
      subst hki
      refine unf ho' hw _ (fun a2 W2 h2 => ⟨hsh', Or.inr (Or.inr ⟨fun j hj => by rw [also_ne (by omega)]; exact hall j hj, i + 1, by omega, fun m h1 h3 => ?_, h2⟩)⟩)
      by_cases e : m = i
      · subst e; simp [also]
      · rw [also_ne e, hkm m h1 h3]; omega
    rcases hI with ⟨hdef, hno, u, hG⟩ | hB | hC
    · obtain ⟨T, ds⟩ := a
      obtain rfl : ds = [] := hdef
      by_cases hi : i < n1
      · refine Dw.step hp hst hF hok hpf hG hsh ho' hi hf hd' _ (fun u' T' W2 hG' => ⟨hsh', Or.inl ⟨rfl, fun m h1 h2 => ?_, u', hG'⟩⟩)
        rw [also_ne (by omega)]; exact hno m h1 h2
      · have hin : i = n1 := by
          rcases Nat.lt_or_ge n1 i with h1 | h1
          · have h3 : Ld n1 = true := (hall' n1 (by omega) h1).resolve_left (fun h => by omega)
            rw [hno n1 (Nat.le_refl _) (by omega)] at h3; cases h3
          · omega
        subst hin
        rw [hl1] at ho'; cases ho'
        rw [if_pos (wantN g1)]
        have halln : ∀ j, j < i → j ∉ M → Ld j = true := fun j hj hne => (hall' j (Nat.le_refl _) hj).resolve_left (fun h => hne h.2)
        obtain ⟨u', Ld', T', hG', -, -, hall2, hno2, ex, ey⟩ := virt i (Nat.le_refl _) u Ld T W' hG hsh halln hno
        have h1 := unf hl1 (fin u' Ld' T' W' hall2 hno2 hG') (fun a2 W2 => wpSeq P l Q (l.drop (i + 1)) a2 W2) (fun _ _ h => h)
        rw [if_pos (wantN g1)] at h1
        have hGv : GInv l N i w W L X D E T0 u (fun m => also Ld i m && decide (m < i)) T W' := by
          refine ⟨hG.size, hG.sx, hG.big, fun j o d v hj ho h => ?_, fun s hs => ?_, fun m A hA h => ?_, fun m m' A A' hA hA' h h' => ?_, fun m R hR h => ?_⟩
          · simp only [Bool.and_eq_true, decide_eq_true_eq] at h
            rw [also_ne (by omega)] at h
            exact hG.val j o d v hj ho h.1
          · refine hG.rest s (fun j o ho hd => ?_)
            have h := hs j o ho hd
            rcases Nat.lt_or_ge j i with q | q
            · rw [also_ne (by omega)] at h
              simpa [q] using h
            · exact hno j q (List.getElem?_eq_some_iff.1 ho).1
          · simp only [Bool.and_eq_true, decide_eq_true_eq] at h
            rw [also_ne (by omega)] at h
            exact hG.al m A hA h.1
          · simp only [Bool.and_eq_true, decide_eq_true_eq] at h h'
            rw [also_ne (by omega)] at h h'
            exact hG.dis m m' A A' hA hA' h.1 h'.1
          · simp only [Bool.and_eq_true, decide_eq_true_eq] at h
            rw [also_ne (by omega)] at h
            exact hG.rs m R hR h.1
        have hrun : ∃ W2, (Instr.storeAt st ((⟨T, []⟩ : Act).eval sx) ((⟨T, []⟩ : Act).eval sy)).run P W' = .ok () W2 := by
          unfold Oper.wp execOp at h1
          simp only [op1, Sem.run_bind, Sem.run_pure] at h1
          rw [ex, ey] at h1
          cases hr : (Instr.storeAt st ((⟨T, []⟩ : Act).eval sx) ((⟨T, []⟩ : Act).eval sy)).run P W' with
          | ok x W2 => exact ⟨W2, rfl⟩
          | halt f W2 => rw [hr] at h1; exact absurd h1 (upon_halt hQ)
        obtain ⟨W2, hr⟩ := hrun
        have hB : B (also Ld i) ⟨T, []⟩ W2 := ⟨rfl, fun j hj hn => by rw [also_ne (by omega)]; exact halln j hj hn, fun m h3 h4 => by
          by_cases e : m = i
          · subst e; simp [also]
          · rw [also_ne e, hno m h3 h4]
            constructor
            · intro h; cases h
            · intro h; omega, u, W', hGv, hr⟩
        unfold Oper.wp execOp
        simp only [op1, Sem.run_bind, Sem.run_pure, hr, Result.andThen_ok]
        show (fun a2 W2 => Shut l (also Ld i) ∧ _) ((⟨T, []⟩ : Act).put o1.dst undef) W2
        rw [d1]
        exact ⟨hsh', Or.inr (Or.inl hB)⟩
    · by_cases hall : ∀ j, j < n1 → Ld j = true
      · exact stepC (BtoC hB hall)
      · obtain ⟨hdef, hnM, hkm, u, W0, hG, hr⟩ := hB
        obtain ⟨T, ds⟩ := a
        obtain rfl : ds = [] := hdef
        have hin : i < n1 := by
          rcases Nat.lt_or_ge i n1 with h1 | h1
          · exact h1
          · exfalso
            apply hall
            intro j hj
            rcases hall' j h1 (by omega) with h2 | h2
            · have := (hkm n1 (Nat.le_refl _) hn1).2 (by omega)
              rw [← h2.1, hf] at this; cases this
            · exact h2
        have hiM : i ∈ M := Classical.byContradiction fun hn => by rw [hnM i hin hn] at hf; cases hf
        have hshv : Shut l (fun m => Ld m && decide (m < n1)) := fun j oj hj hLj m hm => by
          simp only [Bool.and_eq_true, decide_eq_true_eq] at hLj ⊢
          have := hp.back j oj m hj hm
          exact ⟨hsh j oj hj hLj.1 m hm, by omega⟩
        obtain ⟨d, v, dd, nx, ny, g2, hv, u', hG'⟩ := one hG hshv hiM ho' (by simp [hf]) (fun j hj => by
          have := hp.back i o j ho' hj
          simp [hd' j hj]; omega)
        rw [if_pos (wantN g2)]
        unfold Oper.wp
        rw [hv W']
        show (fun a2 W2 => Shut l (also Ld i) ∧ _) ((⟨T, []⟩ : Act).put o.dst v) W'
        rw [dd]
        refine ⟨hsh', Or.inr (Or.inl ⟨rfl, fun j hj hn => ?_, fun m h3 h4 => ?_, u', W0, ?_, ?_⟩)⟩
        · by_cases e : j = i
          · subst e; simp [also]
          · rw [also_ne e]; exact hnM j hj hn
        · rw [also_ne (by omega)]; exact hkm m h3 h4
        · have e : (fun m => also Ld i m && decide (m < n1)) = also (fun m => Ld m && decide (m < n1)) i := by
            funext m
            by_cases e : m = i
            · subst e; simp [also, hin]
            · rw [also_ne e, also_ne e]
          show GInv l N n1 w W L X D E T0 u' (fun m => also Ld i m && decide (m < n1)) _ W0
          rw [e]; exact hG'
        · show (Instr.storeAt st ((⟨T.setIfInBounds d v, []⟩ : Act).eval sx) ((⟨T.setIfInBounds d v, []⟩ : Act).eval sy)).run P W0 = _
          rw [← slot_eval nx, ← slot_eval ny]; exact hr
    · exact stepC hC
  · intro Ld a W' hall hI
    rcases hI.2 with ⟨hdef, hno, u, hG⟩ | hB | hC
    · have := hno n1 (Nat.le_refl _) hn1
      rw [hall n1 hn1] at this; cases this
    · obtain ⟨-, k, hk, hkm, hw⟩ := BtoC hB (fun i hi => hall i (by omega))
      have : l.length ≤ k := by
        rcases Nat.lt_or_ge k l.length with h1 | h1
        · have := (hkm k (by omega) h1).1 (hall k h1); omega
        · exact h1
      rw [List.drop_eq_nil_of_le this] at hw
      exact hw
    · obtain ⟨-, k, hk, hkm, hw⟩ := hC
      have : l.length ≤ k := by
        rcases Nat.lt_or_ge k l.length with h1 | h1
        · have := (hkm k (by omega) h1).1 (hall k h1); omega
        · exact h1
      rw [List.drop_eq_nil_of_le this] at hw
      exact hw
variable {f : Func} {r : Nat}
/-- A region that draws its order, with a store that some operations on the frame need not wait for. -/
theorem Cd.drMA (n1 : Nat) (M : List Nat) (hs : List Nat) (D : Dw) (new : (Nat → Lt) → List (Nat × Value)) {L' : (Nat → Lt) → List (Nat × Obj)} {X' : (Nat → Lt) → List Xt} {Cs : List (Nat × ((Nat → Lt) → World → Prop))}
    (hst : D.Stays) (hes : D.Eqs) (hpf : Pf w L X (D.Hs (rops f r)) Cs) (hX : ∀ u W, Sx w (D.rows u ++ L) X W → (∀ m R, lookL D.Rs m = some R → R.2 (u m) W) → Sx w (L' u) (X' u) W)
    (F2 : (Nat → Lt) → List (Nat × Value)) (L2 : (Nat → Lt) → List (Nat × Obj)) (X2 : (Nat → Lt) → List Xt)
    (k : ∀ u, (∀ m A, lookL D.As m = some A → w.heap.size ≤ (u m).n) → At P f r n1 (endsU N w (fun u => ∀ m A, lookL D.As m = some A → w.heap.size ≤ (u m).n) F2 L2 X2) N (new u ++ F) w (L' u) (X' u))
    (k2 : ∀ u, (∀ m A, lookL D.As m = some A → w.heap.size ≤ (u m).n) → ∀ T W, Fq N T (F2 u) → Sx w (L2 u) (X2 u) W → Q .normal ⟨T, []⟩ W)
    (hm : P.follows .mixedOrders = true) (h1 : ((rdrawn f r).getD false && relOps N (rops f r) && lateOkM (rops f r) n1 M && dstsOk N (rops f r) && keysOk D.As && D.letters.all (fun m => decide (m < n1))) = true)
    (hpure : ∀ u T, pureM P (D.E P L F (rops f r) n1 hs u) F (rops f r) M T = true)
    (h2 : ∀ u g T, mapI (D.stL P L F (rops f r) hs (D.E P L F (rops f r) n1 hs u) g T) 0 ((rops f r).take n1) = mapI (D.stR P L F (rops f r) hs (D.E P L F (rops f r) n1 hs u) u g T) 0 ((rops f r).take n1))
    (h3 : ∀ u y, D.letters.map (fun m => indF (rops f r) n1 m (D.E P L F (rops f r) n1 hs (upd u m y))) = D.letters.map (fun m => indF (rops f r) n1 m (D.E P L F (rops f r) n1 hs u)))
    (h4 : ∀ u, (newF (rops f r) n1 (D.E P L F (rops f r) n1 hs u) (new u), loneD (rops f r) n1 F (new u)) = ((new u).map (fun p => some p.2), true))
    (h5 : Cs = D.obs P (D.E P L F (rops f r) n1 hs) F (rops f r) 0 ((rops f r).take n1)) : Cd P (rgn f r) Q N F w L X := by
  intro T W hF hS
  simp only [Bool.and_eq_true] at h1
  obtain ⟨⟨⟨⟨⟨hd, hrel⟩, htail⟩, hN⟩, hk⟩, hlt⟩ := h1
  have hd' : rdrawn f r = some true := by
    cases e : rdrawn f r with
    | none => rw [e] at hd; cases hd
    | some b => rw [e] at hd; cases b <;> first | rfl | cases hd
  obtain ⟨id, he⟩ := rgn_drawn hd'
  rw [he]
  have hp := plain_of hrel
  have hpu := hpure
  have hok : D.Ok P L F (rops f r) n1 hs (D.E P L F (rops f r) n1 hs) := ⟨h2, fun u m y hl j hj hne hle => by
    have hm : m ∈ D.letters := by
      unfold Dw.letters
      rcases hl with hl | hl
      · exact List.mem_append_left _ (look_isSome hl)
      · exact List.mem_append_right _ (look_isSome hl)
    have h := List.map_inj_left.1 (h3 u y) m hm
    have h' := List.map_inj_left.1 h j (List.mem_range.2 hj)
    rw [hle, Bool.or_false] at h'
    have : Nat.beq j m = false := by
      cases e : Nat.beq j m with
      | true => exact absurd (Nat.eq_of_beq_eq_true e) hne
      | false => rfl
    rw [this] at h'
    exact h', hes⟩
  have hQ : ∀ c a W, ¬ endsU N w (fun u => ∀ m A, lookL D.As m = some A → w.heap.size ≤ (u m).n) F2 L2 X2 (.panic c) a W := fun c a W h => by cases h.1
  refine Code.wp_mono (fun e a W h => ?_) (wp_region_lateM (Q := endsU N w (fun u => ∀ m A, lookL D.As m = some A → w.heap.size ≤ (u m).n) F2 L2 X2) hm hp htail hpu hQ hst hF rfl hok (h5 ▸ hpf) hS (fun u Ld T' W' hall hno hG => ?_))
  · obtain ⟨rfl, u, hu, T2, rfl, h6, h7⟩ := h
    exact k2 u hu T2 W h6 h7
  have hlet : ∀ m, m ∈ D.letters → m < n1 := fun m hm => of_decide_eq_true (List.all_eq_true.1 hlt m hm)
  refine k u (fun m A hA => ?_) hN T' W' ⟨hG.size, fun s v hs => ?_⟩ (hX u W' (hG.rows hS hk (fun p hp => hall p.1 (hlet _ (List.mem_append_left _ (List.mem_map_of_mem hp))))) (fun m R hR => hG.rs m R hR (hall m (hlet m (List.mem_append_right _ (look_isSome (by rw [hR]; rfl)))))))
  · exact Nat.le_trans hS.below.size (hG.al m A hA (hall m (hlet m (List.mem_append_left _ (look_isSome (by rw [hA]; rfl)))))).1
  · have h4' := h4 u
    simp only [Prod.mk.injEq] at h4'
    obtain ⟨hn, hl⟩ := h4'
    rw [look_app] at hs
    cases e : look (new u) s with
    | some v' =>
      rw [e] at hs
      simp only [Option.some.injEq] at hs
      subst hs
      have h := List.map_inj_left.1 hn _ (look_mem _ _ _ e)
      simp only at h
      split at h
      · rename_i j ej
        split at h
        · rename_i hj
          have hj := of_decide_eq_true hj
          obtain ⟨oj, hoj, hdj⟩ := writer_some ej
          exact hG.val j oj s v' hj hoj (hall j hj) hdj h
        · cases h
      · cases h
    | none =>
      rw [e] at hs
      simp only at hs
      by_cases hw : ∃ (i : Nat) (o : Oper), (rops f r)[i]? = some o ∧ o.dst = some s ∧ i < n1
      · obtain ⟨i, o, ho, hdo, hi⟩ := hw
        have := List.all_eq_true.1 hl o (List.mem_of_getElem? (by rw [List.getElem?_take_of_lt hi]; exact ho))
        rw [hdo] at this
        simp only [hs, e] at this
        cases this
      · rw [hG.rest s (fun i o ho hdo => ?_)]
        · exact hF.known s v hs
        · refine hno i ?_ (List.getElem?_eq_some_iff.1 ho).1
          rcases Nat.lt_or_ge i n1 with h5 | h5
          · exact absurd ⟨i, o, ho, hdo, h5⟩ hw
          · exact h5
theorem Cd.drM (n1 : Nat) (M : List Nat) (hs : List Nat) (ks : List (Nat × Value)) (As : List (Nat × Mk)) (Rs : List (Nat × (Lt → Value) × (Lt → World → Prop))) (es : List (Nat × Value × Value)) (new : (Nat → Lt) → List (Nat × Value)) (L' : (Nat → Lt) → List (Nat × Obj)) (X' : (Nat → Lt) → List Xt) {Cs : List (Nat × ((Nat → Lt) → World → Prop))}
    (hst : Dw.Stays ⟨ks, As, Rs, es⟩) (hes : Dw.Eqs ⟨ks, As, Rs, es⟩) (hpf : Pf w L X (Dw.Hs ⟨ks, As, Rs, es⟩ (rops f r)) Cs) (hX : ∀ u W, Sx w (Dw.rows ⟨ks, As, Rs, es⟩ u ++ L) X W → (∀ m R, lookL Rs m = some R → R.2 (u m) W) → Sx w (L' u) (X' u) W)
    (F2 : (Nat → Lt) → List (Nat × Value)) (L2 : (Nat → Lt) → List (Nat × Obj)) (X2 : (Nat → Lt) → List Xt)
    (k : ∀ u, (∀ m A, lookL As m = some A → w.heap.size ≤ (u m).n) → At P f r n1 (endsU N w (fun u => ∀ m A, lookL As m = some A → w.heap.size ≤ (u m).n) F2 L2 X2) N (new u ++ F) w (L' u) (X' u))
    (k2 : ∀ u, (∀ m A, lookL As m = some A → w.heap.size ≤ (u m).n) → ∀ T W, Fq N T (F2 u) → Sx w (L2 u) (X2 u) W → Q .normal ⟨T, []⟩ W)
    (hm : P.follows .mixedOrders = true := by kernel_rfl) (h1 : ((rdrawn f r).getD false && relOps N (rops f r) && lateOkM (rops f r) n1 M && dstsOk N (rops f r) && keysOk As && (Dw.letters ⟨ks, As, Rs, es⟩).all (fun m => decide (m < n1))) = true := by kernel_rfl)
    (hpure : ∀ u T, pureM P (Dw.E ⟨ks, As, Rs, es⟩ P L F (rops f r) n1 hs u) F (rops f r) M T = true := by intro u T; kernel_rfl)
    (h2 : ∀ u g T, mapI (Dw.stL ⟨ks, As, Rs, es⟩ P L F (rops f r) hs (Dw.E ⟨ks, As, Rs, es⟩ P L F (rops f r) n1 hs u) g T) 0 ((rops f r).take n1) = mapI (Dw.stR ⟨ks, As, Rs, es⟩ P L F (rops f r) hs (Dw.E ⟨ks, As, Rs, es⟩ P L F (rops f r) n1 hs u) u g T) 0 ((rops f r).take n1) := by intro u g T; kernel_rfl)
    (h3 : ∀ u y, (Dw.letters ⟨ks, As, Rs, es⟩).map (fun m => indF (rops f r) n1 m (Dw.E ⟨ks, As, Rs, es⟩ P L F (rops f r) n1 hs (upd u m y))) = (Dw.letters ⟨ks, As, Rs, es⟩).map (fun m => indF (rops f r) n1 m (Dw.E ⟨ks, As, Rs, es⟩ P L F (rops f r) n1 hs u)) := by intro u y; kernel_rfl)
    (h4 : ∀ u, (newF (rops f r) n1 (Dw.E ⟨ks, As, Rs, es⟩ P L F (rops f r) n1 hs u) (new u), loneD (rops f r) n1 F (new u)) = ((new u).map (fun p => some p.2), true) := by intro u; kernel_rfl)
    (h5 : Cs = Dw.obs ⟨ks, As, Rs, es⟩ P (Dw.E ⟨ks, As, Rs, es⟩ P L F (rops f r) n1 hs) F (rops f r) 0 ((rops f r).take n1) := by kernel_rfl) : Cd P (rgn f r) Q N F w L X :=
  Cd.drMA n1 M hs ⟨ks, As, Rs, es⟩ new hst hes hpf hX F2 L2 X2 k k2 hm h1 hpure h2 h3 h4 h5
end
end Go.Proofs.Ytljcaegcbcikiaa
namespace Go.Proofs.Ytljcaegcbcikiaa
open Go.RowKit
theorem set_two {α : Type} {cs : List α} {a b : α} {k : Nat} (hk : cs.length = k) : ((cs ++ [a] ++ [b]).set (k + 1) a).set k b = cs ++ [b] ++ [a] := by
  subst hk
  rw [List.append_assoc, List.set_append_right _ _ (by omega), List.set_append_right _ _ (by omega), List.append_assoc]
  simp
theorem Sx.swappl {w W : World} {L : List (Nat × Obj)} {X : List Xt} {S : Nat → Prop} {vs : List Value} {pss : List (List Nat)} {u v : Value} {x y : List Nat} (h : Sx w L X W) (i : Nat) (hi : X[i]? = some (xpl S (vs ++ [v] ++ [u]) (pss ++ [y] ++ [x]))) (hl : vs.length = pss.length) : Sx w L (X.set i (xpl S (vs ++ [u] ++ [v]) (pss ++ [x] ++ [y]))) W := by
  refine h.mapX i _ hi rfl (fun _ hb => hb) (fun ⟨h1, h2⟩ => ⟨h1, fun j c ps hc hp => ?_⟩)
  rcases Nat.lt_trichotomy j vs.length with h3 | h3 | h3
  · refine h2 j c ps ?_ ?_
    · rw [List.append_assoc, List.getElem?_append_left h3] at hc ⊢; exact hc
    · rw [List.append_assoc, List.getElem?_append_left (by omega)] at hp ⊢; exact hp
  · subst h3
    have e1 : c = u := by simpa [List.getElem?_append] using hc.symm
    have e2 : ps = x := by rw [hl] at hp; simpa [List.getElem?_append] using hp.symm
    subst e1 e2
    exact h2 (vs.length + 1) _ _ (by simp [List.getElem?_append]) (by rw [hl]; simp [List.getElem?_append])
  · have hj : j = vs.length + 1 := by
      have := (List.getElem?_eq_some_iff.1 hc).1
      simp at this; omega
    subst hj
    have e1 : c = v := by simpa [List.getElem?_append] using hc.symm
    have e2 : ps = y := by rw [hl] at hp; simpa [List.getElem?_append] using hp.symm
    subst e1 e2
    exact h2 vs.length _ _ (by simp [List.getElem?_append]) (by rw [hl]; simp [List.getElem?_append])
set_option maxRecDepth 100000 in
theorem op124_c {w W : World} {L : List (Nat × Obj)} {X : List Xt} {g : Nat} {v : Value} {n : Int} {h : List Value} {sg : List Nat → List Nat → Bool} {x y : List Nat} {r : List (List Nat)} (hb : r.length < 100000) (hg : w.heap.size ≤ g) (H : StkR w L X g v n h (x :: y :: r) W) : Calls Try.prog 30 #[pt g, .int .u8 124] W (OpR w L X g v n h (Sc.op sg 124 (x :: y :: r))) := by
 have hres : Sc.op sg 124 (x :: y :: r) = .ok (y :: x :: r) := by simp [Sc.op, Sc.needs, Sc.act]
 rw [hres]
 obtain ⟨b, o, c, va, ya, vn, vc, yn, yc, cs, Sp, k, hk0, hk, hv, hy, hcs, S⟩ := H.open2
 rw [← hk0] at hb
 refine enterW 174 (fun q => .seq (q 0) (.seq (q 1) (.seq (.block 0 (.seq (q 2) (.cond (.tmp 15) (.seq (q 3) .ret) (.seq (q 4) (.cond (.tmp 18) (.seq (q 5) .ret) .skip))))) (.seq (q 6) (.seq (.seq (q 7) (.block 1 (.seq (q 8) (.cond (.tmp 30) (.seq (q 9) .ret) (.seq (q 10) (.cond (.tmp 34) (.seq (q 11) .ret) (.seq (q 12) (.cond (.tmp 36) (q 13) (.seq (q 14) (.cond (.tmp 40) (q 15) (.seq (q 16) (.cond (.tmp 52) (q 17) (.seq (q 18) (.cond (.tmp 64) (q 19) (.seq (q 20) (.cond (.tmp 77) (q 21) (.seq (q 22) (.cond (.tmp 107) (q 23) (.seq (q 24) (.cond (.tmp 121) (.seq (q 25) (q 26)) (.seq (q 27) (.cond (.tmp 131) (.seq (q 28) (q 29)) (.seq (.seq (q 30) (.cond (.tmp 141) .skip (q 31))) (.cond (.tmp 141) (q 32) (.seq (.seq (q 33) (.cond (.tmp 153) .skip (q 34))) (.cond (.tmp 153) (q 35) .skip)))))))))))))))))))))))))) (.seq (.seq (q 36) (.cond (.tmp 171) (.seq (q 37) .ret) .skip)) (.seq (q 38) .ret))))))) S Try.func30 ?_
 refine Cd.sr ?_
 refine At.run 1 [] [] ?_
 refine At.nx ?_
 refine Cd.sr ?_
 refine At.call 1 [] 12 (fun W S => pieces_c 124 W) ?_
 refine At.run 5 [] [(5, .int .i64 2), (6, .bool true)] ?_
 refine At.nx ?_
 refine Cd.seq ?_
 refine Cd.blk ?_
 refine Cd.sr ?_
 refine At.run 3 [] [(15, .bool false)] ?_
 refine At.nx ?_
 refine Cd.cf ?_
 refine Cd.sr ?_
 refine At.call 2 [] 21 (fun W S => need_t (m := 2) (by omega) W (S.at 0 rfl)) ?_
 refine At.run 2 [] [(18, .bool false)] ?_
 refine At.nx ?_
 refine Cd.cf ?_
 refine Cd.sk ?_
 show Cd _ _ _ _ _ _ _ _
 refine Cd.sr ?_
 refine At.ar 6 [] 28 (.int .i64 (IntKind.i64.wrap (((k + 1 + 1 : Nat) : Int) - 1))) (.int .i64 ((k + 1 : Nat) : Int)) (congrArg _ ((wri64 (by omega) (by omega)).trans (by omega))) ?_
 refine At.run 1 [] [(7, .int .i64 ((k + 1 : Nat) : Int))] ?_
 refine At.nx ?_
 refine Cd.seq ?_
 refine Cd.sr ?_
 refine At.run 1 [] [(29, .int .u8 124)] ?_
 refine At.nx ?_
 refine Cd.blk ?_
 refine Cd.sr ?_
 refine At.run 2 [] [(30, .bool false)] ?_
 refine At.nx ?_
 refine Cd.cf ?_
 refine Cd.sr ?_
 refine At.run 2 [] [(34, .bool false)] ?_
 refine At.nx ?_
 refine Cd.cf ?_
 refine Cd.sr ?_
 refine At.run 2 [] [(36, .bool false)] ?_
 refine At.nx ?_
 refine Cd.cf ?_
 refine Cd.sr ?_
 refine At.run 2 [] [(40, .bool false)] ?_
 refine At.nx ?_
 refine Cd.cf ?_
 refine Cd.sr ?_
 refine At.run 2 [] [(52, .bool false)] ?_
 refine At.nx ?_
 refine Cd.cf ?_
 refine Cd.sr ?_
 refine At.run 2 [] [(64, .bool false)] ?_
 refine At.nx ?_
 refine Cd.cf ?_
 refine Cd.sr ?_
 refine At.run 2 [] [(77, .bool true)] ?_
 refine At.nx ?_
 refine Cd.ct ?_
 refine Cd.drM 27 [9, 10] [] [(10, .int .i64 ((k : Nat) : Int)), (16, .int .i64 ((k : Nat) : Int)), (17, po b (o + (k))), (18, .slice ya yn yc), (24, po b (o + (k + 1))), (25, .slice va vn vc), (26, po b (o + (k + 1)))] [] [] [] (fun u21 => [(87, .slice (some ⟨b, o, none⟩) (k + 1 + 1) c), (89, .int .i64 ((k : Nat) : Int)), (97, .slice ya yn yc), (104, .slice va vn vc), (105, po b (o + (k + 1)))]) (fun u21 => ((g, .cells (rcl (.slice (some ⟨b, o, none⟩) (k + 1 + 1) c) v n h) 45 (0, 0)) :: L)) (fun u21 => (xog 26 w (.slice (some ⟨b, o, none⟩) (k + 1 + 1) c) (cs ++ [Value.slice ya yn yc] ++ [Value.slice va vn vc]) :: xpl Sp (cs ++ [Value.slice ya yn yc] ++ [Value.slice va vn vc]) (r.reverse ++ [y] ++ [x]) :: X)) stays_nil eqs_nil (.cons 10 (fun _ W S _ => sem_ob (subk_run 3 (.tmp 88) (.const (.int .i64 1)) (m := k + 1) (n := k) (d := 1) rfl (by omega) W)) <| .cons 16 (fun _ W S _ => sem_ob (subk_run 3 (.tmp 94) (.const (.int .i64 1)) (m := k + 1) (n := k) (d := 1) rfl (by omega) W)) <| .cons 17 (fun _ W S _ => sem_ob (ixg_run Try.underlying42 sizes_b (b := b) (o := o) (c := c) (n := k + 1 + 1) (i := k) (by omega) W)) <| .cons 18 (fun _ W S _ => sem_ob (run_load1 (P := Try.prog) (b := b) (o := o + (k)) (t := 26) (v := .slice ya yn yc) Try.underlying26 rfl ((S.og 0 rfl).at (k) (o + (k)) (.slice ya yn yc) (by simp only [List.getElem?_append, List.length_append, List.length_singleton, hk]; simp) rfl))) <| .cons 24 (fun _ W S _ => sem_ob (ixg_run Try.underlying42 sizes_b (b := b) (o := o) (c := c) (n := k + 1 + 1) (i := k + 1) (by omega) W)) <| .cons 25 (fun _ W S _ => sem_ob (run_load1 (P := Try.prog) (b := b) (o := o + (k + 1)) (t := 26) (v := .slice va vn vc) Try.underlying26 rfl ((S.og 0 rfl).at (k + 1) (o + (k + 1)) (.slice va vn vc) (by simp only [List.getElem?_append, List.length_append, List.length_singleton, hk]; simp) rfl))) <| .cons 26 (fun _ W S _ => sem_ob (ixg_run Try.underlying42 sizes_b (b := b) (o := o) (c := c) (n := k + 1 + 1) (i := k + 1) (by omega) W)) <| .nil) (fun u21 W S h => S) (fun u21 => [(0, pt g), (1, .int .u8 124)]) (fun u21 => ((g, .cells (rcl (.slice (some ⟨b, o, none⟩) (k + 1 + 1) c) v n h) 45 (0, 0)) :: L)) (fun u21 => (xog 26 w (.slice (some ⟨b, o, none⟩) (k + 1 + 1) c) (cs ++ [Value.slice va vn vc] ++ [Value.slice ya yn yc]) :: xpl Sp (cs ++ [Value.slice va vn vc] ++ [Value.slice ya yn yc]) (r.reverse ++ [x] ++ [y]) :: X)) (fun u21 hu21 => ?_) (fun u21 hu21 => ?_)
 next =>
  refine At.semU 0 [] (Instr.storeAt 26 (po b (o + (k + 1))) (.slice ya yn yc)) (fun W S => S.putog 0 rfl (by first | omega | (simp <;> omega)) rfl rfl (by kernel_rfl)) ?_
  refine At.ixs 0 [] 106 1 b o (k + 1 + 1) c .i64 (k) (by omega) ?_
  refine At.semU 0 [] (Instr.storeAt 26 (po b (o + k * 1)) (.slice va vn vc)) (fun W S => by rw [Nat.mul_one]; exact S.putog 0 rfl (by simp only [List.length_set, List.length_append, List.length_singleton, hk]; omega) rfl rfl (by kernel_rfl)) ?_
  refine At.as (fun _ S => S.mapX 0 (xog 26 w (.slice (some ⟨b, o, none⟩) (k + 1 + 1) c) (cs ++ [.slice va vn vc] ++ [.slice ya yn yc])) rfl rfl (fun _ h => h) (fun h => by rw [set_two hk] at h; exact h)) ?_
  refine At.as (fun _ S => S.swappl 1 rfl (by rw [List.length_reverse, hk, hk0])) ?_
  exact At.fin (endsU_of u21 hu21)
 show Cd _ _ _ _ _ _ _ _
 refine Cd.seq ?_
 refine Cd.sr ?_
 refine At.run 6 [] [(171, .bool false)] ?_
 refine At.nx ?_
 refine Cd.cf ?_
 refine Cd.sk ?_
 show Cd _ _ _ _ _ _ _ _
 refine Cd.sr ?_
 refine At.run 1 [] [(4, .int .i64 0)] ?_
 refine At.nx ?_
 exact Cd.rv r0 [] (.int .i64 0) fun W S => ⟨rfl, stk_of (S := (lt0 (some ⟨b, o, none⟩) (k + 1 + 1) c)) (cs := cs ++ [Value.slice va vn vc] ++ [Value.slice ya yn yc]) (pss := r.reverse ++ [x] ++ [y]) S (by simp) (S.og 0 rfl).caple.2 (slc_snoc (slc_snoc hcs hv) hy) (by first | omega | (simp <;> omega))⟩
theorem needs_is {c m : Nat} (h : Sc.needs c = some m) : (m = 0 ∧ (c = 97 ∨ c = 106)) ∨ (m = 1 ∧ (c = 105 ∨ c = 117 ∨ c = 118 ∨ c = 130 ∨ c = 168 ∨ c = 169)) ∨ (m = 2 ∧ (c = 109 ∨ c = 120 ∨ c = 124 ∨ c = 135 ∨ c = 136 ∨ c = 172 ∨ c = 173)) := by
  unfold Sc.needs at h
  split at h
  · next q => cases h; exact Or.inl ⟨rfl, q⟩
  · split at h
    · next q => cases h; exact Or.inr (Or.inl ⟨rfl, q⟩)
    · split at h
      · next q => cases h; exact Or.inr (Or.inr ⟨rfl, q⟩)
      · cases h
theorem act_err {sg : List Nat → List Nat → Bool} {c q : Nat} {st : List (List Nat)} (h : Sc.act sg c st = .error q) : q = 74 := by
  unfold Sc.act at h
  by_cases h105 : c = 105
  · rw [if_pos h105] at h
    split at h
    · cases h
    · cases h; rfl
  rw [if_neg h105] at h
  by_cases h106 : c = 106
  · rw [if_pos h106] at h
    cases h; rfl
  rw [if_neg h106] at h
  by_cases h117 : c = 117
  · rw [if_pos h117] at h
    cases h
  rw [if_neg h117] at h
  by_cases h109 : c = 109
  · rw [if_pos h109] at h
    cases h
  rw [if_neg h109] at h
  by_cases h118 : c = 118
  · rw [if_pos h118] at h
    cases h
  rw [if_neg h118] at h
  by_cases h120 : c = 120
  · rw [if_pos h120] at h
    cases h
  rw [if_neg h120] at h
  by_cases h124 : c = 124
  · rw [if_pos h124] at h
    cases h
  rw [if_neg h124] at h
  by_cases h130 : c = 130
  · rw [if_pos h130] at h
    cases h
  rw [if_neg h130] at h
  by_cases h168 : c = 168
  · rw [if_pos h168] at h
    cases h
  rw [if_neg h168] at h
  by_cases h169 : c = 169
  · rw [if_pos h169] at h
    cases h
  rw [if_neg h169] at h
  by_cases h135 : c = 135
  · rw [if_pos h135] at h
    cases h
  rw [if_neg h135] at h
  by_cases h136 : c = 136
  · rw [if_pos h136] at h
    split at h
    · cases h
    · cases h; rfl
  rw [if_neg h136] at h
  by_cases h172 : c = 172
  · rw [if_pos h172] at h
    cases h
  rw [if_neg h172] at h
  by_cases h173 : c = 173
  · rw [if_pos h173] at h
    split at h
    · cases h
    · cases h; rfl
  rw [if_neg h173] at h
  cases h
theorem op_err {sg : List Nat → List Nat → Bool} {c q : Nat} {st : List (List Nat)} (h : Sc.op sg c st = .error q) : q = 71 ∨ q = 72 ∨ q = 74 := by
  unfold Sc.op at h
  split at h
  · cases h; exact Or.inl rfl
  · split at h
    · cases h; exact Or.inr (Or.inl rfl)
    · exact Or.inr (Or.inr (act_err h))
/-- Any word. -/
theorem op_c {w W : World} {L : List (Nat × Obj)} {X : List Xt} {g c : Nat} {v : Value} {n : Int} {hc : Nat → Int} (hc8 : Bytes8 hc) {st : List (List Nat)} (hb : st.length ≤ 100) (hfit : Sc.Fit st) (hg : w.heap.size ≤ g) (H : StkR w L X g v n (row32 hc).toList st W) : Calls Try.prog 30 #[pt g, .int .u8 ((c : Nat) : Int)] W (OpR w L X g v n (row32 hc).toList (Sc.op (sgv hc) c st)) := by
  cases hm : Sc.needs c with
  | none => exact op_bad hg hm H
  | some m =>
    by_cases hlt : st.length < m
    · exact op_few hg hm hlt H
    · rcases needs_is hm with ⟨rfl, hc1⟩ | ⟨rfl, hc1⟩ | ⟨rfl, hc1⟩
      · rcases hc1 with rfl | rfl
        · exact op97_c hg H
        · exact op106_c hg H
      · match st, hb, hfit, H, hlt with
        | [], _, _, _, hlt => exact absurd (by decide) hlt
        | x :: r, hb, hfit, H, _ =>
          have hx := hfit x (List.mem_cons_self ..)
          have hx : x.length ≤ 1000000000 ∧ x.length ≤ 520 ∧ ∀ y, y ∈ x → y < 256 := ⟨by omega, hx⟩
          have hb : r.length < 100000 := by simp only [List.length_cons] at hb; omega
          rcases hc1 with rfl | rfl | rfl | rfl | rfl | rfl
          · exact op105_c hb hg hx H
          · exact op117_c hb hg H
          · exact op118_c hb hg H
          · exact op130_c hb hg hx H
          · exact op168_c hb hg hx H
          · exact op169_c hb hg hx H
      · match st, hb, hfit, H, hlt with
        | [], _, _, _, hlt => exact absurd (by decide) hlt
        | [x], _, _, _, hlt => exact absurd (by show 1 < 2; decide) hlt
        | x :: y :: r, hb, hfit, H, _ =>
          have hx := hfit x (List.mem_cons_self ..)
          have hy := hfit y (List.mem_cons_of_mem _ (List.mem_cons_self ..))
          have hx : x.length ≤ 1000000000 ∧ x.length ≤ 520 ∧ ∀ y, y ∈ x → y < 256 := ⟨by omega, hx⟩
          have hb : r.length < 100000 := by simp only [List.length_cons] at hb; omega
          rcases hc1 with rfl | rfl | rfl | rfl | rfl | rfl | rfl
          · exact op109_c hb hg H
          · exact op120_c hb hg H
          · exact op124_c hb hg H
          · exact op135_c hb hg hx hy H
          · exact op136_c hb hg hx hy H
          · exact op172_c hc8 hb hg hx hy H
          · exact op173_c hc8 hb hg hx hy H
end Go.Proofs.Ytljcaegcbcikiaa
namespace Go.Proofs.Ytljcaegcbcikiaa
open Go.RowKit
/-- A run in this state. -/
def RunS (w : World) (L : List (Nat × Obj)) (X : List Xt) (g : Nat) (n : Int) (h : List Value) (s : Sc.St) (W : World) : Prop := ∃ Y : Lt, Y.n = s.ways.length ∧ StkR w L (xog 4 w Y.sl (s.ways.reverse.map fun b => Value.bool b) :: X) g Y.sl n h s.stack W
theorem RunS.drop {w W : World} {L : List (Nat × Obj)} {X : List Xt} {g : Nat} {n : Int} {h : List Value} {s : Sc.St} (H : RunS w L X g n h s W) : Sx w L X W := by
  obtain ⟨Y, -, H⟩ := H
  exact H.drop.tlX
theorem run_of {w W : World} {L : List (Nat × Obj)} {X : List Xt} {g : Nat} {n : Int} {h : List Value} {s : Sc.St} {S Y : Lt} {cs : List Value} {Sp : Nat → Prop} {pss : List (List Nat)} {l : List Value} (hS : Sx w ((g, .cells (rcl S.sl Y.sl n h) 45 (0, 0)) :: L) (xog 26 w S.sl cs :: xpl Sp cs pss :: xog 4 w Y.sl l :: X) W) (hp : pss = s.stack.reverse) (hl : l = s.ways.reverse.map fun b => Value.bool b) (hs : ∀ u, u ∈ cs → Slc u) (hc : cs.length = pss.length) : RunS w L X g n h s W := by
  subst hl
  have q := (hS.og 2 rfl).caple.2
  rw [List.length_map, List.length_reverse] at q
  exact ⟨Y, q, stk_of hS hp (hS.og 0 rfl).caple.2 hs hc⟩
/-- What branch answers. -/
def BrR (w : World) (L : List (Nat × Obj)) (X : List Xt) (g : Nat) (n : Int) (h : List Value) (res : Except Nat Sc.St) (e : Ending) (w' : World) : Prop := match res with
  | .error q => e = .returned (.tuple #[.bool true, .int .i64 ((q : Nat) : Int)]) ∧ Below w.heap.size w w'
  | .ok s => e = .returned (.tuple #[.bool true, .int .i64 0]) ∧ RunS w L X g n h s w'
theorem ways_snoc (l : List Bool) (b : Bool) : (l.map fun b => Value.bool b) ++ [.bool b] = (l ++ [b]).map fun b => Value.bool b := by simp
theorem Sx.cells {w W : World} {L : List (Nat × Obj)} {X : List Xt} (S : Sx w L X W) (i : Nat) {E : TypeId} {v : Value} {cs : List Value} (hi : X[i]? = some (xog E w v cs)) : CellsV W W.heap.size v cs := (S.og i hi).cells
theorem size_bool : (sizeOf 4).run Try.prog = fun W => .ok 1 W := size_of1 (by kernel_rfl)
set_option maxRecDepth 100000 in
theorem branch_n {v : Value} {c : Nat} (hc : c ≠ 99 ∧ c ≠ 100 ∧ c ≠ 103 ∧ c ≠ 104) (w : World) : Calls Try.prog 27 #[v, .int .u8 ((c : Nat) : Int)] w fun e w' => e = .returned (.tuple #[.bool false, .int .i64 0]) ∧ Below w.heap.size w w' := by
 refine enterQ 72 (fun q => .seq (q 0) (.seq (.seq (q 1) (.block 0 (.seq (.seq (q 3) (.cond (.tmp 9) .skip (q 4))) (.cond (.tmp 9) (.seq (q 5) (.seq (.seq (q 6) (.cond (.tmp 14) (.seq (.seq (q 7) (.cond (.tmp 17) (.seq (q 8) .ret) .skip)) (q 9)) .skip)) (q 10))) (.seq (.seq (q 11) (.cond (.tmp 34) .skip (q 12))) (.cond (.tmp 34) (.seq (q 13) (.seq (.seq (q 14) (.cond (.tmp 43) (.seq (q 15) .ret) .skip)) (.seq (q 16) (.cond (.tmp 45) (q 17) (q 18))))) (.seq (q 2) .ret))))))) (.seq (q 19) .ret))) (Sx.nil w) Try.func27 ?_
 refine Cd.sr ?_
 refine At.run 2 [] [] ?_
 refine At.nx ?_
 refine Cd.seq ?_
 refine Cd.sr ?_
 refine At.run 1 [] [(8, .int .u8 ((c : Nat) : Int))] ?_
 refine At.nx ?_
 refine Cd.blk ?_
 refine Cd.seq ?_
 refine Cd.sr ?_
 refine At.ar 1 [] 10 (.bool (((c : Nat) : Int) == (99 : Int))) (.bool false) (congrArg _ (by simpa using fun e : ((c : Nat) : Int) = 99 => absurd (by omega : c = 99) (by omega))) ?_
 refine At.run 1 [] [(9, .bool false)] ?_
 refine At.nx ?_
 refine Cd.cf ?_
 refine Cd.rg ?_
 refine At.ar 1 [] 11 (.bool (((c : Nat) : Int) == (100 : Int))) (.bool false) (congrArg _ (by simpa using fun e : ((c : Nat) : Int) = 100 => absurd (by omega : c = 100) (by omega))) ?_
 refine At.run 1 [] [(9, .bool false)] ?_
 refine At.fin ?_
 show Cd _ _ _ _ _ _ _ _
 refine Cd.cf ?_
 refine Cd.seq ?_
 refine Cd.sr ?_
 refine At.ar 1 [] 35 (.bool (((c : Nat) : Int) == (103 : Int))) (.bool false) (congrArg _ (by simpa using fun e : ((c : Nat) : Int) = 103 => absurd (by omega : c = 103) (by omega))) ?_
 refine At.run 1 [] [(34, .bool false)] ?_
 refine At.nx ?_
 refine Cd.cf ?_
 refine Cd.rg ?_
 refine At.ar 1 [] 36 (.bool (((c : Nat) : Int) == (104 : Int))) (.bool false) (congrArg _ (by simpa using fun e : ((c : Nat) : Int) = 104 => absurd (by omega : c = 104) (by omega))) ?_
 refine At.run 1 [] [(34, .bool false)] ?_
 refine At.fin ?_
 show Cd _ _ _ _ _ _ _ _
 refine Cd.cf ?_
 refine Cd.sr ?_
 refine At.run 2 [] [(4, .bool false), (5, .int .i64 0)] ?_
 refine At.nx ?_
 exact Cd.rv (rb (rt r0)) [] (.tuple #[.bool false, .int .i64 0]) fun W S => ⟨rfl, S.below⟩
theorem skipped_k {g : Nat} {s v : Value} {n : Int} {h : List Value} {l : List Bool} {b : Bool} (hgo : Sc.goes l = b) (hlen : l.length ≤ 1000000000) (w : World) (hr : w.heap[g]? = some (.cells (rcl s v n h) 45 (0, 0))) (hp : CellsV w w.heap.size v (l.map fun b => Value.bool b)) : Calls Try.prog 28 #[pt g] w fun e w' => e = .returned (.bool (!b)) ∧ Below w.heap.size w w' := hgo ▸ skipped_c hlen w hr hp
theorem set_last {ws : List Bool} {q : Bool} {j : Nat} (hj : j = ws.length) : (((ws.reverse ++ [q]).map fun b => Value.bool b).set j (.bool (!q))) = (ws.reverse ++ [!q]).map fun b => Value.bool b := by
  subst hj
  rw [List.map_append, List.set_append_right _ _ (by simp)]
  simp
set_option maxRecDepth 100000 in
theorem br99_skip {w W : World} {L : List (Nat × Obj)} {X : List Xt} {g : Nat} {n : Int} {h : List Value} {s : Sc.St} (hw : s.ways.length < 1000000) (hgo : Sc.goes s.ways = false) (hg : w.heap.size ≤ g) (H : RunS w L X g n h s W) : Calls Try.prog 27 #[pt g, .int .u8 99] W (BrR w L X g n h (Sc.branch 99 s)) := by
 have hres : Sc.branch 99 s = .ok ⟨s.stack, false :: s.ways⟩ := by unfold Sc.branch; rw [if_pos (by decide), if_neg (by simp [hgo])]
 rw [hres]
 obtain ⟨Y, hY, S0, cs, Sp, h1, h2, h3, S⟩ := H
 refine enterW 72 (fun q => .seq (q 0) (.seq (.seq (q 1) (.block 0 (.seq (.seq (q 3) (.cond (.tmp 9) .skip (q 4))) (.cond (.tmp 9) (.seq (q 5) (.seq (.seq (q 6) (.cond (.tmp 14) (.seq (.seq (q 7) (.cond (.tmp 17) (.seq (q 8) .ret) .skip)) (q 9)) .skip)) (q 10))) (.seq (.seq (q 11) (.cond (.tmp 34) .skip (q 12))) (.cond (.tmp 34) (.seq (q 13) (.seq (.seq (q 14) (.cond (.tmp 43) (.seq (q 15) .ret) .skip)) (.seq (q 16) (.cond (.tmp 45) (q 17) (q 18))))) (.seq (q 2) .ret))))))) (.seq (q 19) .ret))) S Try.func27 ?_
 refine Cd.sr ?_
 refine At.run 2 [] [] ?_
 refine At.nx ?_
 refine Cd.seq ?_
 refine Cd.sr ?_
 refine At.run 1 [] [(8, .int .u8 99)] ?_
 refine At.nx ?_
 refine Cd.blk ?_
 refine Cd.seq ?_
 refine Cd.sr ?_
 refine At.run 2 [] [(9, .bool true)] ?_
 refine At.nx ?_
 refine Cd.ct ?_
 refine Cd.sk ?_
 show Cd _ _ _ _ _ _ _ _
 refine Cd.ct ?_
 refine Cd.sr ?_
 refine At.run 1 [] [(6, .bool false)] ?_
 refine At.nx ?_
 refine Cd.seq ?_
 refine Cd.sr ?_
 refine At.call 1 [] 13 (fun W S => skipped_k (l := s.ways.reverse) (b := false) (by rw [goes_rev]; exact hgo) (by rw [List.length_reverse]; omega) W (S.at 0 rfl) (S.cells 2 rfl)) ?_
 refine At.run 1 [] [(14, .bool false)] ?_
 refine At.nx ?_
 refine Cd.cf ?_
 refine Cd.sk ?_
 show Cd _ _ _ _ _ _ _ _
 refine Cd.rg ?_
 refine At.run 6 [] [(24, pt g), (28, Y.sl), (29, .bool false)] ?_
 refine At.sli 0 [] 30 1 (#[.bool false]) 4 fun g30 h30 => ?_
 refine At.app 0 [] 31 (TT := 43) (xv := .slice (some ⟨g30, 0, none⟩) 1 1) (z := .bool false) (sb' := 1) (ys := [.bool false]) 2 rfl (fun W S => S.srcg 0 rfl rfl) (by simp only [List.length_map, List.length_reverse, List.length_singleton]; omega) (by simp only [List.length_map, List.length_reverse, List.length_singleton]; omega) fun yw hyw zyw => ?_
 refine At.st 2 [] 1 (rcl S0.sl yw.sl n h) hg ?_
 refine At.fin ?_
 show Cd _ _ _ _ _ _ _ _
 refine Cd.sr ?_
 refine At.run 2 [] [(4, .bool true), (5, .int .i64 0)] ?_
 refine At.nx ?_
 exact Cd.rv r0 [] (.tuple #[.bool true, .int .i64 0]) fun W S => ⟨rfl, run_of (S := S0) (Y := yw) (cs := cs) (pss := s.stack.reverse) (l := ((s.ways.reverse.map fun b => Value.bool b) ++ [Value.bool false])) ((((S.dL 0 rfl).fX 2 rfl).fX 2 rfl).fX 2 rfl) rfl (by simp) h3 (by rw [List.length_reverse]; exact h2)⟩
set_option maxRecDepth 100000 in
theorem br99_none {w W : World} {L : List (Nat × Obj)} {X : List Xt} {g : Nat} {n : Int} {h : List Value} {s : Sc.St} (hw : s.ways.length < 1000000) (hgo : Sc.goes s.ways = true) (hst : s.stack = []) (hg : w.heap.size ≤ g) (H : RunS w L X g n h s W) : Calls Try.prog 27 #[pt g, .int .u8 99] W (BrR w L X g n h (Sc.branch 99 s)) := by
 have hres : Sc.branch 99 s = .error 72 := by unfold Sc.branch; rw [if_pos (by decide), if_pos hgo, hst]
 rw [hres]
 obtain ⟨Y, hY, S0, cs, Sp, h1, h2, h3, S⟩ := H
 refine enterW 72 (fun q => .seq (q 0) (.seq (.seq (q 1) (.block 0 (.seq (.seq (q 3) (.cond (.tmp 9) .skip (q 4))) (.cond (.tmp 9) (.seq (q 5) (.seq (.seq (q 6) (.cond (.tmp 14) (.seq (.seq (q 7) (.cond (.tmp 17) (.seq (q 8) .ret) .skip)) (q 9)) .skip)) (q 10))) (.seq (.seq (q 11) (.cond (.tmp 34) .skip (q 12))) (.cond (.tmp 34) (.seq (q 13) (.seq (.seq (q 14) (.cond (.tmp 43) (.seq (q 15) .ret) .skip)) (.seq (q 16) (.cond (.tmp 45) (q 17) (q 18))))) (.seq (q 2) .ret))))))) (.seq (q 19) .ret))) S Try.func27 ?_
 refine Cd.sr ?_
 refine At.run 2 [] [] ?_
 refine At.nx ?_
 refine Cd.seq ?_
 refine Cd.sr ?_
 refine At.run 1 [] [(8, .int .u8 99)] ?_
 refine At.nx ?_
 refine Cd.blk ?_
 refine Cd.seq ?_
 refine Cd.sr ?_
 refine At.run 2 [] [(9, .bool true)] ?_
 refine At.nx ?_
 refine Cd.ct ?_
 refine Cd.sk ?_
 show Cd _ _ _ _ _ _ _ _
 refine Cd.ct ?_
 refine Cd.sr ?_
 refine At.run 1 [] [(6, .bool false)] ?_
 refine At.nx ?_
 refine Cd.seq ?_
 refine Cd.sr ?_
 refine At.call 1 [] 13 (fun W S => skipped_k (l := s.ways.reverse) (b := true) (by rw [goes_rev]; exact hgo) (by rw [List.length_reverse]; omega) W (S.at 0 rfl) (S.cells 2 rfl)) ?_
 refine At.run 1 [] [(14, .bool true)] ?_
 refine At.nx ?_
 refine Cd.ct ?_
 refine Cd.seq ?_
 refine Cd.sr ?_
 refine At.call 1 [] 16 (fun W S => need_f (m := 1) (by rw [h1, hst]; decide) W (S.at 0 rfl)) ?_
 refine At.run 1 [] [(17, .bool true)] ?_
 refine At.nx ?_
 refine Cd.ct ?_
 refine Cd.sr ?_
 refine At.run 2 [] [(4, .bool true), (5, .int .i64 72)] ?_
 refine At.nx ?_
 exact Cd.rv (rt (rt (rb (rt r0)))) [] (.tuple #[.bool true, .int .i64 72]) fun W S => ⟨rfl, S.below⟩
set_option maxRecDepth 100000 in
theorem br99_pop {w W : World} {L : List (Nat × Obj)} {X : List Xt} {g : Nat} {n : Int} {h : List Value} {s : Sc.St} (hw : s.ways.length < 1000000) (hgo : Sc.goes s.ways = true) {x : List Nat} {r : List (List Nat)} (hst : s.stack = x :: r) (hb : r.length < 100000) (hx : x.length ≤ 520) (hg : w.heap.size ≤ g) (H : RunS w L X g n h s W) : Calls Try.prog 27 #[pt g, .int .u8 99] W (BrR w L X g n h (Sc.branch 99 s)) := by
 have hres : Sc.branch 99 s = .ok ⟨r, (Sc.tr x == true) :: s.ways⟩ := by unfold Sc.branch; rw [if_pos (by decide), if_pos hgo, hst]; rfl
 rw [hres]
 obtain ⟨Y, hY, H⟩ := H
 rw [hst] at H
 obtain ⟨b, o, c, va, vn, vc, cs, Sp, k, hk0, hk, hv, hcs, S⟩ := H.open1
 rw [← hk0] at hb
 refine enterW 72 (fun q => .seq (q 0) (.seq (.seq (q 1) (.block 0 (.seq (.seq (q 3) (.cond (.tmp 9) .skip (q 4))) (.cond (.tmp 9) (.seq (q 5) (.seq (.seq (q 6) (.cond (.tmp 14) (.seq (.seq (q 7) (.cond (.tmp 17) (.seq (q 8) .ret) .skip)) (q 9)) .skip)) (q 10))) (.seq (.seq (q 11) (.cond (.tmp 34) .skip (q 12))) (.cond (.tmp 34) (.seq (q 13) (.seq (.seq (q 14) (.cond (.tmp 43) (.seq (q 15) .ret) .skip)) (.seq (q 16) (.cond (.tmp 45) (q 17) (q 18))))) (.seq (q 2) .ret))))))) (.seq (q 19) .ret))) S Try.func27 ?_
 refine Cd.sr ?_
 refine At.run 2 [] [] ?_
 refine At.nx ?_
 refine Cd.seq ?_
 refine Cd.sr ?_
 refine At.run 1 [] [(8, .int .u8 99)] ?_
 refine At.nx ?_
 refine Cd.blk ?_
 refine Cd.seq ?_
 refine Cd.sr ?_
 refine At.run 2 [] [(9, .bool true)] ?_
 refine At.nx ?_
 refine Cd.ct ?_
 refine Cd.sk ?_
 show Cd _ _ _ _ _ _ _ _
 refine Cd.ct ?_
 refine Cd.sr ?_
 refine At.run 1 [] [(6, .bool false)] ?_
 refine At.nx ?_
 refine Cd.seq ?_
 refine Cd.sr ?_
 refine At.call 1 [] 13 (fun W S => skipped_k (l := s.ways.reverse) (b := true) (by rw [goes_rev]; exact hgo) (by rw [List.length_reverse]; omega) W (S.at 0 rfl) (S.cells 2 rfl)) ?_
 refine At.run 1 [] [(14, .bool true)] ?_
 refine At.nx ?_
 refine Cd.ct ?_
 refine Cd.seq ?_
 refine Cd.sr ?_
 refine At.call 1 [] 16 (fun W S => need_t (m := 1) (by omega) W (S.at 0 rfl)) ?_
 refine At.run 1 [] [(17, .bool false)] ?_
 refine At.nx ?_
 refine Cd.cf ?_
 refine Cd.sk ?_
 show Cd _ _ _ _ _ _ _ _
 refine Cd.rg ?_
 refine At.as (fun _ S => S.plat 1 rfl k (v := .slice va vn vc) (x := x) (by simp only [List.getElem?_append, List.length_append, List.length_singleton, hk]; simp) (by simp only [List.getElem?_append, List.length_append, List.length_reverse, List.length_singleton, ← hk0]; simp)) ?_
 refine At.callX 1 [] 19 (fun W S => calls_u (pop_c (k := k) (cs := cs) (by first | omega | (simp <;> omega)) (by omega) hg ((S.fL 0 rfl).fX 1 rfl))) fun _ => ?_
 refine At.call 0 [] 20 (fun W S => true_c (by omega) W (S.psv 1 rfl)) ?_
 refine At.ar 3 [] 23 (.bool (Sc.tr x == true)) (.bool (Sc.tr x == true)) (rfl) ?_
 refine At.run 1 [] [(6, .bool (Sc.tr x == true))] ?_
 refine At.fin ?_
 show Cd _ _ _ _ _ _ _ _
 refine Cd.rg ?_
 refine At.as (fun _ S => S.cutpl (vs := cs) (pss := r.reverse) 2 rfl (by first | omega | (simp <;> omega))) ?_
 refine At.run 6 [] [(24, pt g), (28, Y.sl), (29, .bool (Sc.tr x == true))] ?_
 refine At.sli 0 [] 30 1 (#[.bool (Sc.tr x == true)]) 4 fun g30 h30 => ?_
 refine At.app 0 [] 31 (TT := 43) (xv := .slice (some ⟨g30, 0, none⟩) 1 1) (z := .bool false) (sb' := 1) (ys := [.bool (Sc.tr x == true)]) 3 rfl (fun W S => S.srcg 0 rfl rfl) (by simp only [List.length_map, List.length_reverse, List.length_singleton]; omega) (by simp only [List.length_map, List.length_reverse, List.length_singleton]; omega) fun yw hyw zyw => ?_
 refine At.st 2 [] 1 (rcl (.slice (some ⟨b, o, none⟩) k c) yw.sl n h) hg ?_
 refine At.fin ?_
 show Cd _ _ _ _ _ _ _ _
 refine Cd.sr ?_
 refine At.run 2 [] [(4, .bool true), (5, .int .i64 0)] ?_
 refine At.nx ?_
 exact Cd.rv r0 [] (.tuple #[.bool true, .int .i64 0]) fun W S => ⟨rfl, run_of (S := (lt0 (some ⟨b, o, none⟩) k c)) (Y := yw) (cs := cs) (pss := r.reverse) (l := ((s.ways.reverse.map fun b => Value.bool b) ++ [Value.bool (Sc.tr x == true)])) (((((S.dL 0 rfl).dX 1 rfl).fX 2 rfl).fX 2 rfl).fX 2 rfl) rfl (by simp) hcs (by rw [List.length_reverse, hk, hk0])⟩
set_option maxRecDepth 100000 in
theorem br100_skip {w W : World} {L : List (Nat × Obj)} {X : List Xt} {g : Nat} {n : Int} {h : List Value} {s : Sc.St} (hw : s.ways.length < 1000000) (hgo : Sc.goes s.ways = false) (hg : w.heap.size ≤ g) (H : RunS w L X g n h s W) : Calls Try.prog 27 #[pt g, .int .u8 100] W (BrR w L X g n h (Sc.branch 100 s)) := by
 have hres : Sc.branch 100 s = .ok ⟨s.stack, false :: s.ways⟩ := by unfold Sc.branch; rw [if_pos (by decide), if_neg (by simp [hgo])]
 rw [hres]
 obtain ⟨Y, hY, S0, cs, Sp, h1, h2, h3, S⟩ := H
 refine enterW 72 (fun q => .seq (q 0) (.seq (.seq (q 1) (.block 0 (.seq (.seq (q 3) (.cond (.tmp 9) .skip (q 4))) (.cond (.tmp 9) (.seq (q 5) (.seq (.seq (q 6) (.cond (.tmp 14) (.seq (.seq (q 7) (.cond (.tmp 17) (.seq (q 8) .ret) .skip)) (q 9)) .skip)) (q 10))) (.seq (.seq (q 11) (.cond (.tmp 34) .skip (q 12))) (.cond (.tmp 34) (.seq (q 13) (.seq (.seq (q 14) (.cond (.tmp 43) (.seq (q 15) .ret) .skip)) (.seq (q 16) (.cond (.tmp 45) (q 17) (q 18))))) (.seq (q 2) .ret))))))) (.seq (q 19) .ret))) S Try.func27 ?_
 refine Cd.sr ?_
 refine At.run 2 [] [] ?_
 refine At.nx ?_
 refine Cd.seq ?_
 refine Cd.sr ?_
 refine At.run 1 [] [(8, .int .u8 100)] ?_
 refine At.nx ?_
 refine Cd.blk ?_
 refine Cd.seq ?_
 refine Cd.sr ?_
 refine At.run 2 [] [(9, .bool false)] ?_
 refine At.nx ?_
 refine Cd.cf ?_
 refine Cd.rg ?_
 refine At.run 2 [] [(9, .bool true)] ?_
 refine At.fin ?_
 show Cd _ _ _ _ _ _ _ _
 refine Cd.ct ?_
 refine Cd.sr ?_
 refine At.run 1 [] [(6, .bool false)] ?_
 refine At.nx ?_
 refine Cd.seq ?_
 refine Cd.sr ?_
 refine At.call 1 [] 13 (fun W S => skipped_k (l := s.ways.reverse) (b := false) (by rw [goes_rev]; exact hgo) (by rw [List.length_reverse]; omega) W (S.at 0 rfl) (S.cells 2 rfl)) ?_
 refine At.run 1 [] [(14, .bool false)] ?_
 refine At.nx ?_
 refine Cd.cf ?_
 refine Cd.sk ?_
 show Cd _ _ _ _ _ _ _ _
 refine Cd.rg ?_
 refine At.run 6 [] [(24, pt g), (28, Y.sl), (29, .bool false)] ?_
 refine At.sli 0 [] 30 1 (#[.bool false]) 4 fun g30 h30 => ?_
 refine At.app 0 [] 31 (TT := 43) (xv := .slice (some ⟨g30, 0, none⟩) 1 1) (z := .bool false) (sb' := 1) (ys := [.bool false]) 2 rfl (fun W S => S.srcg 0 rfl rfl) (by simp only [List.length_map, List.length_reverse, List.length_singleton]; omega) (by simp only [List.length_map, List.length_reverse, List.length_singleton]; omega) fun yw hyw zyw => ?_
 refine At.st 2 [] 1 (rcl S0.sl yw.sl n h) hg ?_
 refine At.fin ?_
 show Cd _ _ _ _ _ _ _ _
 refine Cd.sr ?_
 refine At.run 2 [] [(4, .bool true), (5, .int .i64 0)] ?_
 refine At.nx ?_
 exact Cd.rv r0 [] (.tuple #[.bool true, .int .i64 0]) fun W S => ⟨rfl, run_of (S := S0) (Y := yw) (cs := cs) (pss := s.stack.reverse) (l := ((s.ways.reverse.map fun b => Value.bool b) ++ [Value.bool false])) ((((S.dL 0 rfl).fX 2 rfl).fX 2 rfl).fX 2 rfl) rfl (by simp) h3 (by rw [List.length_reverse]; exact h2)⟩
set_option maxRecDepth 100000 in
theorem br100_none {w W : World} {L : List (Nat × Obj)} {X : List Xt} {g : Nat} {n : Int} {h : List Value} {s : Sc.St} (hw : s.ways.length < 1000000) (hgo : Sc.goes s.ways = true) (hst : s.stack = []) (hg : w.heap.size ≤ g) (H : RunS w L X g n h s W) : Calls Try.prog 27 #[pt g, .int .u8 100] W (BrR w L X g n h (Sc.branch 100 s)) := by
 have hres : Sc.branch 100 s = .error 72 := by unfold Sc.branch; rw [if_pos (by decide), if_pos hgo, hst]
 rw [hres]
 obtain ⟨Y, hY, S0, cs, Sp, h1, h2, h3, S⟩ := H
 refine enterW 72 (fun q => .seq (q 0) (.seq (.seq (q 1) (.block 0 (.seq (.seq (q 3) (.cond (.tmp 9) .skip (q 4))) (.cond (.tmp 9) (.seq (q 5) (.seq (.seq (q 6) (.cond (.tmp 14) (.seq (.seq (q 7) (.cond (.tmp 17) (.seq (q 8) .ret) .skip)) (q 9)) .skip)) (q 10))) (.seq (.seq (q 11) (.cond (.tmp 34) .skip (q 12))) (.cond (.tmp 34) (.seq (q 13) (.seq (.seq (q 14) (.cond (.tmp 43) (.seq (q 15) .ret) .skip)) (.seq (q 16) (.cond (.tmp 45) (q 17) (q 18))))) (.seq (q 2) .ret))))))) (.seq (q 19) .ret))) S Try.func27 ?_
 refine Cd.sr ?_
 refine At.run 2 [] [] ?_
 refine At.nx ?_
 refine Cd.seq ?_
 refine Cd.sr ?_
 refine At.run 1 [] [(8, .int .u8 100)] ?_
 refine At.nx ?_
 refine Cd.blk ?_
 refine Cd.seq ?_
 refine Cd.sr ?_
 refine At.run 2 [] [(9, .bool false)] ?_
 refine At.nx ?_
 refine Cd.cf ?_
 refine Cd.rg ?_
 refine At.run 2 [] [(9, .bool true)] ?_
 refine At.fin ?_
 show Cd _ _ _ _ _ _ _ _
 refine Cd.ct ?_
 refine Cd.sr ?_
 refine At.run 1 [] [(6, .bool false)] ?_
 refine At.nx ?_
 refine Cd.seq ?_
 refine Cd.sr ?_
 refine At.call 1 [] 13 (fun W S => skipped_k (l := s.ways.reverse) (b := true) (by rw [goes_rev]; exact hgo) (by rw [List.length_reverse]; omega) W (S.at 0 rfl) (S.cells 2 rfl)) ?_
 refine At.run 1 [] [(14, .bool true)] ?_
 refine At.nx ?_
 refine Cd.ct ?_
 refine Cd.seq ?_
 refine Cd.sr ?_
 refine At.call 1 [] 16 (fun W S => need_f (m := 1) (by rw [h1, hst]; decide) W (S.at 0 rfl)) ?_
 refine At.run 1 [] [(17, .bool true)] ?_
 refine At.nx ?_
 refine Cd.ct ?_
 refine Cd.sr ?_
 refine At.run 2 [] [(4, .bool true), (5, .int .i64 72)] ?_
 refine At.nx ?_
 exact Cd.rv (rt (rt (rb (rt r0)))) [] (.tuple #[.bool true, .int .i64 72]) fun W S => ⟨rfl, S.below⟩
set_option maxRecDepth 100000 in
theorem br100_pop {w W : World} {L : List (Nat × Obj)} {X : List Xt} {g : Nat} {n : Int} {h : List Value} {s : Sc.St} (hw : s.ways.length < 1000000) (hgo : Sc.goes s.ways = true) {x : List Nat} {r : List (List Nat)} (hst : s.stack = x :: r) (hb : r.length < 100000) (hx : x.length ≤ 520) (hg : w.heap.size ≤ g) (H : RunS w L X g n h s W) : Calls Try.prog 27 #[pt g, .int .u8 100] W (BrR w L X g n h (Sc.branch 100 s)) := by
 have hres : Sc.branch 100 s = .ok ⟨r, (Sc.tr x == false) :: s.ways⟩ := by unfold Sc.branch; rw [if_pos (by decide), if_pos hgo, hst]; rfl
 rw [hres]
 obtain ⟨Y, hY, H⟩ := H
 rw [hst] at H
 obtain ⟨b, o, c, va, vn, vc, cs, Sp, k, hk0, hk, hv, hcs, S⟩ := H.open1
 rw [← hk0] at hb
 refine enterW 72 (fun q => .seq (q 0) (.seq (.seq (q 1) (.block 0 (.seq (.seq (q 3) (.cond (.tmp 9) .skip (q 4))) (.cond (.tmp 9) (.seq (q 5) (.seq (.seq (q 6) (.cond (.tmp 14) (.seq (.seq (q 7) (.cond (.tmp 17) (.seq (q 8) .ret) .skip)) (q 9)) .skip)) (q 10))) (.seq (.seq (q 11) (.cond (.tmp 34) .skip (q 12))) (.cond (.tmp 34) (.seq (q 13) (.seq (.seq (q 14) (.cond (.tmp 43) (.seq (q 15) .ret) .skip)) (.seq (q 16) (.cond (.tmp 45) (q 17) (q 18))))) (.seq (q 2) .ret))))))) (.seq (q 19) .ret))) S Try.func27 ?_
 refine Cd.sr ?_
 refine At.run 2 [] [] ?_
 refine At.nx ?_
 refine Cd.seq ?_
 refine Cd.sr ?_
 refine At.run 1 [] [(8, .int .u8 100)] ?_
 refine At.nx ?_
 refine Cd.blk ?_
 refine Cd.seq ?_
 refine Cd.sr ?_
 refine At.run 2 [] [(9, .bool false)] ?_
 refine At.nx ?_
 refine Cd.cf ?_
 refine Cd.rg ?_
 refine At.run 2 [] [(9, .bool true)] ?_
 refine At.fin ?_
 show Cd _ _ _ _ _ _ _ _
 refine Cd.ct ?_
 refine Cd.sr ?_
 refine At.run 1 [] [(6, .bool false)] ?_
 refine At.nx ?_
 refine Cd.seq ?_
 refine Cd.sr ?_
 refine At.call 1 [] 13 (fun W S => skipped_k (l := s.ways.reverse) (b := true) (by rw [goes_rev]; exact hgo) (by rw [List.length_reverse]; omega) W (S.at 0 rfl) (S.cells 2 rfl)) ?_
 refine At.run 1 [] [(14, .bool true)] ?_
 refine At.nx ?_
 refine Cd.ct ?_
 refine Cd.seq ?_
 refine Cd.sr ?_
 refine At.call 1 [] 16 (fun W S => need_t (m := 1) (by omega) W (S.at 0 rfl)) ?_
 refine At.run 1 [] [(17, .bool false)] ?_
 refine At.nx ?_
 refine Cd.cf ?_
 refine Cd.sk ?_
 show Cd _ _ _ _ _ _ _ _
 refine Cd.rg ?_
 refine At.as (fun _ S => S.plat 1 rfl k (v := .slice va vn vc) (x := x) (by simp only [List.getElem?_append, List.length_append, List.length_singleton, hk]; simp) (by simp only [List.getElem?_append, List.length_append, List.length_reverse, List.length_singleton, ← hk0]; simp)) ?_
 refine At.callX 1 [] 19 (fun W S => calls_u (pop_c (k := k) (cs := cs) (by first | omega | (simp <;> omega)) (by omega) hg ((S.fL 0 rfl).fX 1 rfl))) fun _ => ?_
 refine At.call 0 [] 20 (fun W S => true_c (by omega) W (S.psv 1 rfl)) ?_
 refine At.ar 3 [] 23 (.bool (Sc.tr x == false)) (.bool (Sc.tr x == false)) (rfl) ?_
 refine At.run 1 [] [(6, .bool (Sc.tr x == false))] ?_
 refine At.fin ?_
 show Cd _ _ _ _ _ _ _ _
 refine Cd.rg ?_
 refine At.as (fun _ S => S.cutpl (vs := cs) (pss := r.reverse) 2 rfl (by first | omega | (simp <;> omega))) ?_
 refine At.run 6 [] [(24, pt g), (28, Y.sl), (29, .bool (Sc.tr x == false))] ?_
 refine At.sli 0 [] 30 1 (#[.bool (Sc.tr x == false)]) 4 fun g30 h30 => ?_
 refine At.app 0 [] 31 (TT := 43) (xv := .slice (some ⟨g30, 0, none⟩) 1 1) (z := .bool false) (sb' := 1) (ys := [.bool (Sc.tr x == false)]) 3 rfl (fun W S => S.srcg 0 rfl rfl) (by simp only [List.length_map, List.length_reverse, List.length_singleton]; omega) (by simp only [List.length_map, List.length_reverse, List.length_singleton]; omega) fun yw hyw zyw => ?_
 refine At.st 2 [] 1 (rcl (.slice (some ⟨b, o, none⟩) k c) yw.sl n h) hg ?_
 refine At.fin ?_
 show Cd _ _ _ _ _ _ _ _
 refine Cd.sr ?_
 refine At.run 2 [] [(4, .bool true), (5, .int .i64 0)] ?_
 refine At.nx ?_
 exact Cd.rv r0 [] (.tuple #[.bool true, .int .i64 0]) fun W S => ⟨rfl, run_of (S := (lt0 (some ⟨b, o, none⟩) k c)) (Y := yw) (cs := cs) (pss := r.reverse) (l := ((s.ways.reverse.map fun b => Value.bool b) ++ [Value.bool (Sc.tr x == false)])) (((((S.dL 0 rfl).dX 1 rfl).fX 2 rfl).fX 2 rfl).fX 2 rfl) rfl (by simp) hcs (by rw [List.length_reverse, hk, hk0])⟩
set_option maxRecDepth 100000 in
theorem br103_empty {w W : World} {L : List (Nat × Obj)} {X : List Xt} {g : Nat} {n : Int} {h : List Value} {s : Sc.St} (hw : s.ways.length < 1000000) (hwy : s.ways = []) (hg : w.heap.size ≤ g) (H : RunS w L X g n h s W) : Calls Try.prog 27 #[pt g, .int .u8 103] W (BrR w L X g n h (Sc.branch 103 s)) := by
 have hres : Sc.branch 103 s = .error 71 := by unfold Sc.branch; rw [if_neg (by decide), hwy]
 rw [hres]
 obtain ⟨Y, hY, S0, cs, Sp, h1, h2, h3, S⟩ := H
 refine enterW 72 (fun q => .seq (q 0) (.seq (.seq (q 1) (.block 0 (.seq (.seq (q 3) (.cond (.tmp 9) .skip (q 4))) (.cond (.tmp 9) (.seq (q 5) (.seq (.seq (q 6) (.cond (.tmp 14) (.seq (.seq (q 7) (.cond (.tmp 17) (.seq (q 8) .ret) .skip)) (q 9)) .skip)) (q 10))) (.seq (.seq (q 11) (.cond (.tmp 34) .skip (q 12))) (.cond (.tmp 34) (.seq (q 13) (.seq (.seq (q 14) (.cond (.tmp 43) (.seq (q 15) .ret) .skip)) (.seq (q 16) (.cond (.tmp 45) (q 17) (q 18))))) (.seq (q 2) .ret))))))) (.seq (q 19) .ret))) S Try.func27 ?_
 refine Cd.sr ?_
 refine At.run 2 [] [] ?_
 refine At.nx ?_
 refine Cd.seq ?_
 refine Cd.sr ?_
 refine At.run 1 [] [(8, .int .u8 103)] ?_
 refine At.nx ?_
 refine Cd.blk ?_
 refine Cd.seq ?_
 refine Cd.sr ?_
 refine At.run 2 [] [(9, .bool false)] ?_
 refine At.nx ?_
 refine Cd.cf ?_
 refine Cd.rg ?_
 refine At.run 2 [] [(9, .bool false)] ?_
 refine At.fin ?_
 show Cd _ _ _ _ _ _ _ _
 refine Cd.cf ?_
 refine Cd.seq ?_
 refine Cd.sr ?_
 refine At.run 2 [] [(34, .bool true)] ?_
 refine At.nx ?_
 refine Cd.ct ?_
 refine Cd.sk ?_
 show Cd _ _ _ _ _ _ _ _
 refine Cd.ct ?_
 refine Cd.sr ?_
 refine At.run 6 [] [(7, .int .i64 ((Y.n : Nat) : Int))] ?_
 refine At.nx ?_
 refine Cd.seq ?_
 refine Cd.sr ?_
 refine At.ar 2 [] 43 (.bool (((Y.n : Nat) : Int) == 0)) (.bool true) (congrArg _ (by rw [hY, hwy]; rfl)) ?_
 refine At.nx ?_
 refine Cd.ct ?_
 refine Cd.sr ?_
 refine At.run 2 [] [(4, .bool true), (5, .int .i64 71)] ?_
 refine At.nx ?_
 exact Cd.rv (rt (rb (rt r0))) [] (.tuple #[.bool true, .int .i64 71]) fun W S => ⟨rfl, S.below⟩
set_option maxRecDepth 100000 in
theorem br104_empty {w W : World} {L : List (Nat × Obj)} {X : List Xt} {g : Nat} {n : Int} {h : List Value} {s : Sc.St} (hw : s.ways.length < 1000000) (hwy : s.ways = []) (hg : w.heap.size ≤ g) (H : RunS w L X g n h s W) : Calls Try.prog 27 #[pt g, .int .u8 104] W (BrR w L X g n h (Sc.branch 104 s)) := by
 have hres : Sc.branch 104 s = .error 71 := by unfold Sc.branch; rw [if_neg (by decide), hwy]
 rw [hres]
 obtain ⟨Y, hY, S0, cs, Sp, h1, h2, h3, S⟩ := H
 refine enterW 72 (fun q => .seq (q 0) (.seq (.seq (q 1) (.block 0 (.seq (.seq (q 3) (.cond (.tmp 9) .skip (q 4))) (.cond (.tmp 9) (.seq (q 5) (.seq (.seq (q 6) (.cond (.tmp 14) (.seq (.seq (q 7) (.cond (.tmp 17) (.seq (q 8) .ret) .skip)) (q 9)) .skip)) (q 10))) (.seq (.seq (q 11) (.cond (.tmp 34) .skip (q 12))) (.cond (.tmp 34) (.seq (q 13) (.seq (.seq (q 14) (.cond (.tmp 43) (.seq (q 15) .ret) .skip)) (.seq (q 16) (.cond (.tmp 45) (q 17) (q 18))))) (.seq (q 2) .ret))))))) (.seq (q 19) .ret))) S Try.func27 ?_
 refine Cd.sr ?_
 refine At.run 2 [] [] ?_
 refine At.nx ?_
 refine Cd.seq ?_
 refine Cd.sr ?_
 refine At.run 1 [] [(8, .int .u8 104)] ?_
 refine At.nx ?_
 refine Cd.blk ?_
 refine Cd.seq ?_
 refine Cd.sr ?_
 refine At.run 2 [] [(9, .bool false)] ?_
 refine At.nx ?_
 refine Cd.cf ?_
 refine Cd.rg ?_
 refine At.run 2 [] [(9, .bool false)] ?_
 refine At.fin ?_
 show Cd _ _ _ _ _ _ _ _
 refine Cd.cf ?_
 refine Cd.seq ?_
 refine Cd.sr ?_
 refine At.run 2 [] [(34, .bool false)] ?_
 refine At.nx ?_
 refine Cd.cf ?_
 refine Cd.rg ?_
 refine At.run 2 [] [(34, .bool true)] ?_
 refine At.fin ?_
 show Cd _ _ _ _ _ _ _ _
 refine Cd.ct ?_
 refine Cd.sr ?_
 refine At.run 6 [] [(7, .int .i64 ((Y.n : Nat) : Int))] ?_
 refine At.nx ?_
 refine Cd.seq ?_
 refine Cd.sr ?_
 refine At.ar 2 [] 43 (.bool (((Y.n : Nat) : Int) == 0)) (.bool true) (congrArg _ (by rw [hY, hwy]; rfl)) ?_
 refine At.nx ?_
 refine Cd.ct ?_
 refine Cd.sr ?_
 refine At.run 2 [] [(4, .bool true), (5, .int .i64 71)] ?_
 refine At.nx ?_
 exact Cd.rv (rt (rb (rt r0))) [] (.tuple #[.bool true, .int .i64 71]) fun W S => ⟨rfl, S.below⟩
set_option maxRecDepth 100000 in
theorem br103_turn {w W : World} {L : List (Nat × Obj)} {X : List Xt} {g : Nat} {n : Int} {h : List Value} {s : Sc.St} (hw : s.ways.length < 1000000) {q : Bool} {ws : List Bool} (hwy : s.ways = q :: ws) (hg : w.heap.size ≤ g) (H : RunS w L X g n h s W) : Calls Try.prog 27 #[pt g, .int .u8 103] W (BrR w L X g n h (Sc.branch 103 s)) := by
 have hres : Sc.branch 103 s = .ok ⟨s.stack, (!q) :: ws⟩ := by unfold Sc.branch; rw [if_neg (by decide), hwy]; rfl
 rw [hres]
 obtain ⟨Y, hY, S0, cs, Sp, h1, h2, h3, S⟩ := H
 rw [hwy, List.length_cons] at hY
 rw [hwy, List.reverse_cons] at S
 rw [hwy, List.length_cons] at hw
 obtain ⟨wb, wo, eYa⟩ := (S.og 2 rfl).based (by simp)
 obtain ⟨wc, ewc⟩ : ∃ wc, wc = Y.c := ⟨_, rfl⟩
 obtain ⟨j, ej⟩ : ∃ j, j = ws.length := ⟨_, rfl⟩
 rw [← ej] at hY hw
 have eY : Y.sl = .slice (some ⟨wb, wo, none⟩) (j + 1) wc := by unfold Lt.sl; rw [eYa, hY, ewc]
 rw [eY] at S
 have hcw := (S.og 2 rfl).caple
 simp only [List.length_map, List.length_append, List.length_reverse, List.length_singleton, ← ej] at hcw
 refine enterW 72 (fun q => .seq (q 0) (.seq (.seq (q 1) (.block 0 (.seq (.seq (q 3) (.cond (.tmp 9) .skip (q 4))) (.cond (.tmp 9) (.seq (q 5) (.seq (.seq (q 6) (.cond (.tmp 14) (.seq (.seq (q 7) (.cond (.tmp 17) (.seq (q 8) .ret) .skip)) (q 9)) .skip)) (q 10))) (.seq (.seq (q 11) (.cond (.tmp 34) .skip (q 12))) (.cond (.tmp 34) (.seq (q 13) (.seq (.seq (q 14) (.cond (.tmp 43) (.seq (q 15) .ret) .skip)) (.seq (q 16) (.cond (.tmp 45) (q 17) (q 18))))) (.seq (q 2) .ret))))))) (.seq (q 19) .ret))) S Try.func27 ?_
 refine Cd.sr ?_
 refine At.run 2 [] [] ?_
 refine At.nx ?_
 refine Cd.seq ?_
 refine Cd.sr ?_
 refine At.run 1 [] [(8, .int .u8 103)] ?_
 refine At.nx ?_
 refine Cd.blk ?_
 refine Cd.seq ?_
 refine Cd.sr ?_
 refine At.run 2 [] [(9, .bool false)] ?_
 refine At.nx ?_
 refine Cd.cf ?_
 refine Cd.rg ?_
 refine At.run 2 [] [(9, .bool false)] ?_
 refine At.fin ?_
 show Cd _ _ _ _ _ _ _ _
 refine Cd.cf ?_
 refine Cd.seq ?_
 refine Cd.sr ?_
 refine At.run 2 [] [(34, .bool true)] ?_
 refine At.nx ?_
 refine Cd.ct ?_
 refine Cd.sk ?_
 show Cd _ _ _ _ _ _ _ _
 refine Cd.ct ?_
 refine Cd.sr ?_
 refine At.run 6 [] [(7, .int .i64 (((j + 1) : Nat) : Int))] ?_
 refine At.nx ?_
 refine Cd.seq ?_
 refine Cd.sr ?_
 refine At.ar 2 [] 43 (.bool (((j + 1 : Nat) : Int) == 0)) (.bool false) (congrArg _ (by simpa using fun e : ((j + 1 : Nat) : Int) = 0 => absurd e (by omega))) ?_
 refine At.nx ?_
 refine Cd.cf ?_
 refine Cd.sk ?_
 show Cd _ _ _ _ _ _ _ _
 refine Cd.sr ?_
 refine At.run 2 [] [(45, .bool true)] ?_
 refine At.nx ?_
 refine Cd.ct ?_
 refine Cd.dk 15 [] [(5, .int .i64 ((j : Nat) : Int)), (11, .int .i64 ((j : Nat) : Int)), (12, po wb (wo + j)), (13, .bool q)] [(49, .slice (some ⟨wb, wo, none⟩) (j + 1) wc), (51, .int .i64 ((j : Nat) : Int)), (60, .bool (!q))] (.cons 5 (fun _ W S _ => sem_ob (subk_run 3 (.tmp 50) (.const (.int .i64 1)) (m := j + 1) (n := j) (d := 1) rfl (by omega) W)) <| .cons 11 (fun _ W S _ => sem_ob (subk_run 3 (.tmp 56) (.const (.int .i64 1)) (m := j + 1) (n := j) (d := 1) rfl (by omega) W)) <| .cons 12 (fun _ W S _ => sem_ob (ixg_run Try.underlying43 size_bool (b := wb) (o := wo) (c := wc) (n := j + 1) (i := j) (by omega) W)) <| .cons 13 (fun _ W S _ => sem_ob (run_load1 (P := Try.prog) (b := wb) (o := wo + j) (t := 4) (v := .bool q) Try.underlying4 rfl ((S.og 2 rfl).at j (wo + j) (.bool q) (by rw [← ways_snoc, List.getElem?_append_right (by rw [List.length_map, List.length_reverse, ej]; exact Nat.le_refl _), List.length_map, List.length_reverse, ej, Nat.sub_self]; rfl) rfl))) <| .nil) ?_
 refine At.ixs 0 [] 61 1 wb wo (j + 1) wc .i64 j (by omega) ?_
 refine At.semU 0 [] (Instr.storeAt 4 (po wb (wo + j * 1)) (.bool (!q))) (fun W S => by rw [Nat.mul_one]; exact S.putog 2 rfl (by simp only [List.length_map, List.length_append, List.length_reverse, List.length_singleton, ← ej]; omega) rfl rfl (by kernel_rfl)) ?_
 refine At.as (fun _ S => S.mapX 2 (xog 4 w (.slice (some ⟨wb, wo, none⟩) (j + 1) wc) ((ws.reverse ++ [!q]).map fun b => Value.bool b)) rfl rfl (fun _ h => h) (fun h => by rw [set_last ej] at h; exact h)) ?_
 refine At.fin ?_
 show Cd _ _ _ _ _ _ _ _
 refine Cd.sr ?_
 refine At.run 2 [] [(4, .bool true), (5, .int .i64 0)] ?_
 refine At.nx ?_
 exact Cd.rv r0 [] (.tuple #[.bool true, .int .i64 0]) fun W S => ⟨rfl, run_of (S := S0) (Y := (lt0 (some ⟨wb, wo, none⟩) (j + 1) wc)) (cs := cs) (pss := s.stack.reverse) (l := ((ws.reverse ++ [!q]).map fun b => Value.bool b)) (((S.fX 2 rfl).fX 2 rfl).fX 2 rfl) rfl (by simp) h3 (by rw [List.length_reverse]; exact h2)⟩
set_option maxRecDepth 100000 in
theorem br104_end {w W : World} {L : List (Nat × Obj)} {X : List Xt} {g : Nat} {n : Int} {h : List Value} {s : Sc.St} (hw : s.ways.length < 1000000) {q : Bool} {ws : List Bool} (hwy : s.ways = q :: ws) (hg : w.heap.size ≤ g) (H : RunS w L X g n h s W) : Calls Try.prog 27 #[pt g, .int .u8 104] W (BrR w L X g n h (Sc.branch 104 s)) := by
 have hres : Sc.branch 104 s = .ok ⟨s.stack, ws⟩ := by unfold Sc.branch; rw [if_neg (by decide), hwy]; rfl
 rw [hres]
 obtain ⟨Y, hY, S0, cs, Sp, h1, h2, h3, S⟩ := H
 rw [hwy, List.length_cons] at hY
 rw [hwy, List.reverse_cons] at S
 rw [hwy, List.length_cons] at hw
 obtain ⟨wb, wo, eYa⟩ := (S.og 2 rfl).based (by simp)
 obtain ⟨wc, ewc⟩ : ∃ wc, wc = Y.c := ⟨_, rfl⟩
 obtain ⟨j, ej⟩ : ∃ j, j = ws.length := ⟨_, rfl⟩
 rw [← ej] at hY hw
 have eY : Y.sl = .slice (some ⟨wb, wo, none⟩) (j + 1) wc := by unfold Lt.sl; rw [eYa, hY, ewc]
 rw [eY] at S
 have hcw := (S.og 2 rfl).caple
 simp only [List.length_map, List.length_append, List.length_reverse, List.length_singleton, ← ej] at hcw
 refine enterW 72 (fun q => .seq (q 0) (.seq (.seq (q 1) (.block 0 (.seq (.seq (q 3) (.cond (.tmp 9) .skip (q 4))) (.cond (.tmp 9) (.seq (q 5) (.seq (.seq (q 6) (.cond (.tmp 14) (.seq (.seq (q 7) (.cond (.tmp 17) (.seq (q 8) .ret) .skip)) (q 9)) .skip)) (q 10))) (.seq (.seq (q 11) (.cond (.tmp 34) .skip (q 12))) (.cond (.tmp 34) (.seq (q 13) (.seq (.seq (q 14) (.cond (.tmp 43) (.seq (q 15) .ret) .skip)) (.seq (q 16) (.cond (.tmp 45) (q 17) (q 18))))) (.seq (q 2) .ret))))))) (.seq (q 19) .ret))) S Try.func27 ?_
 refine Cd.sr ?_
 refine At.run 2 [] [] ?_
 refine At.nx ?_
 refine Cd.seq ?_
 refine Cd.sr ?_
 refine At.run 1 [] [(8, .int .u8 104)] ?_
 refine At.nx ?_
 refine Cd.blk ?_
 refine Cd.seq ?_
 refine Cd.sr ?_
 refine At.run 2 [] [(9, .bool false)] ?_
 refine At.nx ?_
 refine Cd.cf ?_
 refine Cd.rg ?_
 refine At.run 2 [] [(9, .bool false)] ?_
 refine At.fin ?_
 show Cd _ _ _ _ _ _ _ _
 refine Cd.cf ?_
 refine Cd.seq ?_
 refine Cd.sr ?_
 refine At.run 2 [] [(34, .bool false)] ?_
 refine At.nx ?_
 refine Cd.cf ?_
 refine Cd.rg ?_
 refine At.run 2 [] [(34, .bool true)] ?_
 refine At.fin ?_
 show Cd _ _ _ _ _ _ _ _
 refine Cd.ct ?_
 refine Cd.sr ?_
 refine At.run 6 [] [(7, .int .i64 (((j + 1) : Nat) : Int))] ?_
 refine At.nx ?_
 refine Cd.seq ?_
 refine Cd.sr ?_
 refine At.ar 2 [] 43 (.bool (((j + 1 : Nat) : Int) == 0)) (.bool false) (congrArg _ (by simpa using fun e : ((j + 1 : Nat) : Int) = 0 => absurd e (by omega))) ?_
 refine At.nx ?_
 refine Cd.cf ?_
 refine Cd.sk ?_
 show Cd _ _ _ _ _ _ _ _
 refine Cd.sr ?_
 refine At.run 2 [] [(45, .bool false)] ?_
 refine At.nx ?_
 refine Cd.cf ?_
 refine Cd.rg ?_
 refine At.run 6 [] [(62, pt g), (66, .slice (some ⟨wb, wo, none⟩) (j + 1) wc), (67, .int .i64 (((j + 1) : Nat) : Int))] ?_
 refine At.ar 1 [] 68 (.int .i64 (IntKind.i64.wrap (((j + 1 : Nat) : Int) - 1))) (.int .i64 ((j : Nat) : Int)) (congrArg _ ((wri64 (by omega) (by omega)).trans (by omega))) ?_
 refine At.sem 0 [] 69 (Instr.sliceAt 43 (.slice (some ⟨wb, wo, none⟩) (j + 1) wc) none (some (.int .i64 ((j : Nat) : Int))) none) (.slice (some ⟨wb, wo, none⟩) j wc) (fun W S => cut_hg_run Try.underlying43 size_bool (by omega) (by omega) W) ?_
 refine At.st 2 [] 0 (rcl S0.sl (.slice (some ⟨wb, wo, none⟩) j wc) n h) hg ?_
 refine At.fin ?_
 show Cd _ _ _ _ _ _ _ _
 refine Cd.sr ?_
 refine At.as (fun _ S => S.cutog (E := 4) (cs := ws.reverse.map fun b => Value.bool b) (v := .bool q) (k := j) 2 (by rw [ways_snoc]; rfl) (by rw [List.length_map, List.length_reverse, ej])) ?_
 refine At.run 2 [] [(4, .bool true), (5, .int .i64 0)] ?_
 refine At.nx ?_
 exact Cd.rv r0 [] (.tuple #[.bool true, .int .i64 0]) fun W S => ⟨rfl, run_of (S := S0) (Y := (lt0 (some ⟨wb, wo, none⟩) j wc)) (cs := cs) (pss := s.stack.reverse) (l := (ws.reverse.map fun b => Value.bool b)) (((S.fX 2 rfl).fX 2 rfl).fX 2 rfl) rfl rfl h3 (by rw [List.length_reverse]; exact h2)⟩
end Go.Proofs.Ytljcaegcbcikiaa
namespace Go.Proofs.Ytljcaegcbcikiaa
open Go.RowKit
structure RL where
  S : Lt
  Y : Lt
  cs : List Value
  Sp : Nat → Prop
def RL.Good (q : RL) (s : Sc.St) : Prop := q.S.n = s.stack.length ∧ q.cs.length = s.stack.length ∧ (∀ u, u ∈ q.cs → Slc u) ∧ q.Y.n = s.ways.length
structure SL where
  S : Lt
  cs : List Value
  Sp : Nat → Prop
def SL.Good (q : SL) (st : List (List Nat)) : Prop := q.S.n = st.length ∧ q.cs.length = st.length ∧ ∀ u, u ∈ q.cs → Slc u
section
variable {w W : World} {L : List (Nat × Obj)} {X : List Xt} {g : Nat} {n : Int} {h : List Value} {fid : FuncId} {vs : Array Value} {v : Value}
theorem calls_b (h1 : Calls Try.prog fid vs W fun e w' => e = .returned v ∧ Below w.heap.size w w') : Calls Try.prog fid vs W fun e w' => ∃ _ : Unit, e = .returned v ∧ Sx w [] [] w' :=
  h1.mono fun e w' ⟨he, hb⟩ => ⟨(), he, ⟨hb, fun _ h => (by cases h), List.Pairwise.nil, fun _ h => (by cases h), fun _ h => (by cases h), fun _ h => (by cases h), List.Pairwise.nil⟩⟩
theorem calls_run {s : Sc.St} (h1 : Calls Try.prog fid vs W fun e w' => e = .returned v ∧ RunS w L X g n h s w') : Calls Try.prog fid vs W fun e w' => ∃ q : {q : RL // q.Good s}, e = .returned v ∧ Sx w ((g, .cells (rcl q.1.S.sl q.1.Y.sl n h) 45 (0, 0)) :: L) (xog 26 w q.1.S.sl q.1.cs :: xpl q.1.Sp q.1.cs s.stack.reverse :: xog 4 w q.1.Y.sl (s.ways.reverse.map fun b => Value.bool b) :: X) w' :=
  h1.mono fun e w' ⟨he, Y, hY, S, cs, Sp, h2, h3, h4, hS⟩ => ⟨⟨⟨S, Y, cs, Sp⟩, h2, h3, h4, hY⟩, he, hS⟩
theorem calls_stk {st : List (List Nat)} {u : Value} (h1 : Calls Try.prog fid vs W fun e w' => e = .returned v ∧ StkR w L X g u n h st w') : Calls Try.prog fid vs W fun e w' => ∃ q : {q : SL // q.Good st}, e = .returned v ∧ Sx w ((g, .cells (rcl q.1.S.sl u n h) 45 (0, 0)) :: L) (xog 26 w q.1.S.sl q.1.cs :: xpl q.1.Sp q.1.cs st.reverse :: X) w' :=
  h1.mono fun e w' ⟨he, S, cs, Sp, h2, h3, h4, hS⟩ => ⟨⟨⟨S, cs, Sp⟩, h2, h3, h4⟩, he, hS⟩
end
/-- A word of branches. -/
theorem branch_c {w W : World} {L : List (Nat × Obj)} {X : List Xt} {g c : Nat} {n : Int} {h : List Value} {s : Sc.St} (hB : Sc.isBr c = true) (hw : s.ways.length < 1000) (hst : s.stack.length ≤ 100) (hfit : Sc.Fit s.stack) (hg : w.heap.size ≤ g) (H : RunS w L X g n h s W) : Calls Try.prog 27 #[pt g, .int .u8 ((c : Nat) : Int)] W (BrR w L X g n h (Sc.branch c s)) := by
  have hw' : s.ways.length < 1000000 := by omega
  have h2 : c = 99 ∨ c = 100 → Calls Try.prog 27 #[pt g, .int .u8 ((c : Nat) : Int)] W (BrR w L X g n h (Sc.branch c s)) := by
    intro hc
    cases hgo : Sc.goes s.ways with
    | false => rcases hc with rfl | rfl; exact br99_skip hw' hgo hg H; exact br100_skip hw' hgo hg H
    | true =>
      cases hs : s.stack with
      | nil => rcases hc with rfl | rfl; exact br99_none hw' hgo hs hg H; exact br100_none hw' hgo hs hg H
      | cons x r =>
        have hx := (hfit x (by rw [hs]; exact List.mem_cons_self ..)).1
        have hb : r.length < 100000 := by rw [hs, List.length_cons] at hst; omega
        rcases hc with rfl | rfl; exact br99_pop hw' hgo hs hb hx hg H; exact br100_pop hw' hgo hs hb hx hg H
  rcases of_decide_eq_true hB with hc | hc | hc | hc
  · exact h2 (Or.inl hc)
  · exact h2 (Or.inr hc)
  · subst hc
    cases hwy : s.ways with
    | nil => exact br103_empty hw' hwy hg H
    | cons q ws => exact br103_turn hw' hwy hg H
  · subst hc
    cases hwy : s.ways with
    | nil => exact br104_empty hw' hwy hg H
    | cons q ws => exact br104_end hw' hwy hg H
theorem isbr_no {c : Nat} (h : ¬ Sc.isBr c = true) : c ≠ 99 ∧ c ≠ 100 ∧ c ≠ 103 ∧ c ≠ 104 := by
  have h2 : ¬ (c = 99 ∨ c = 100 ∨ c = 103 ∨ c = 104) := fun e => h (decide_eq_true e)
  omega
theorem branch_err {c q : Nat} {s : Sc.St} (h : Sc.branch c s = .error q) : q = 71 ∨ q = 72 := by
  unfold Sc.branch at h
  split at h
  · split at h
    · split at h
      · cases h; exact Or.inr rfl
      · cases h
    · cases h
  · split at h
    · cases h; exact Or.inl rfl
    · cases h
def WdR (w : World) (L : List (Nat × Obj)) (X : List Xt) (g : Nat) (h : List Value) (res : Except Nat (Nat × Sc.St)) (e : Ending) (w' : World) : Prop := match res with
  | .error q => e = .returned (.int .i64 ((q : Nat) : Int)) ∧ Below w.heap.size w w'
  | .ok (n', s') => e = .returned (.int .i64 0) ∧ RunS w L X g ((n' : Nat) : Int) h s' w'
section
variable {sg : List Nat → List Nat → Bool} {n c q : Nat} {s s' : Sc.St} {d : List Nat} {st : List (List Nat)}
theorem wdA (hA : 520 < d.length) : Sc.word sg n s c d = .error 73 := if_pos hA
theorem wdB1 (hA : ¬ 520 < d.length) (hP : Sc.pushes c = true) (hG : Sc.goes s.ways = true) (hS : 100 < s.stack.length + 1) : Sc.word sg n s c d = .error 73 := by unfold Sc.word; rw [if_neg hA, if_pos hP, if_pos hG, if_pos hS]
theorem wdB2 (hA : ¬ 520 < d.length) (hP : Sc.pushes c = true) (hG : Sc.goes s.ways = true) (hS : ¬ 100 < s.stack.length + 1) : Sc.word sg n s c d = .ok (n, ⟨d :: s.stack, s.ways⟩) := by unfold Sc.word; rw [if_neg hA, if_pos hP, if_pos hG, if_neg hS]
theorem wdB3 (hA : ¬ 520 < d.length) (hP : Sc.pushes c = true) (hG : ¬ Sc.goes s.ways = true) : Sc.word sg n s c d = .ok (n, s) := by unfold Sc.word; rw [if_neg hA, if_pos hP, if_neg hG]
theorem wdC0 (hA : ¬ 520 < d.length) (hP : Sc.pushes c = false) (hO : 100 < n + 1) : Sc.word sg n s c d = .error 73 := by unfold Sc.word; rw [if_neg hA, if_neg (by rw [hP]; decide), if_pos hO]
theorem wdC1 (hA : ¬ 520 < d.length) (hP : Sc.pushes c = false) (hO : ¬ 100 < n + 1) (hB : Sc.isBr c = true) (hb : Sc.branch c s = .error q) : Sc.word sg n s c d = .error q := by unfold Sc.word; rw [if_neg hA, if_neg (by rw [hP]; decide), if_neg hO, if_pos hB, hb]
theorem wdC2 (hA : ¬ 520 < d.length) (hP : Sc.pushes c = false) (hO : ¬ 100 < n + 1) (hB : Sc.isBr c = true) (hb : Sc.branch c s = .ok s') : Sc.word sg n s c d = .ok (n + 1, s') := by unfold Sc.word; rw [if_neg hA, if_neg (by rw [hP]; decide), if_neg hO, if_pos hB, hb]
theorem wdC3 (hA : ¬ 520 < d.length) (hP : Sc.pushes c = false) (hO : ¬ 100 < n + 1) (hB : ¬ Sc.isBr c = true) (hG : ¬ Sc.goes s.ways = true) : Sc.word sg n s c d = .ok (n + 1, s) := by unfold Sc.word; rw [if_neg hA, if_neg (by rw [hP]; decide), if_neg hO, if_neg hB, if_neg hG]
theorem wdC4 (hA : ¬ 520 < d.length) (hP : Sc.pushes c = false) (hO : ¬ 100 < n + 1) (hB : ¬ Sc.isBr c = true) (hG : Sc.goes s.ways = true) (ho : Sc.op sg c s.stack = .error q) : Sc.word sg n s c d = .error q := by unfold Sc.word; rw [if_neg hA, if_neg (by rw [hP]; decide), if_neg hO, if_neg hB, if_pos hG, ho]
theorem wdC5 (hA : ¬ 520 < d.length) (hP : Sc.pushes c = false) (hO : ¬ 100 < n + 1) (hB : ¬ Sc.isBr c = true) (hG : Sc.goes s.ways = true) (ho : Sc.op sg c s.stack = .ok st) (hS : 100 < st.length) : Sc.word sg n s c d = .error 73 := by unfold Sc.word; rw [if_neg hA, if_neg (by rw [hP]; decide), if_neg hO, if_neg hB, if_pos hG, ho]; exact if_pos hS
theorem wdC6 (hA : ¬ 520 < d.length) (hP : Sc.pushes c = false) (hO : ¬ 100 < n + 1) (hB : ¬ Sc.isBr c = true) (hG : Sc.goes s.ways = true) (ho : Sc.op sg c s.stack = .ok st) (hS : ¬ 100 < st.length) : Sc.word sg n s c d = .ok (n + 1, ⟨st, s.ways⟩) := by unfold Sc.word; rw [if_neg hA, if_neg (by rw [hP]; decide), if_neg hO, if_neg hB, if_pos hG, ho]; exact if_neg hS
end
set_option maxHeartbeats 4000000 in
set_option maxRecDepth 100000 in
theorem word_c {w W : World} {L : List (Nat × Obj)} {X : List Xt} {g n c dn dc : Nat} {da : Option Addr} {Sd : Nat → Prop} {hc : Nat → Int} {s : Sc.St} {d : List Nat} (hc8 : Bytes8 hc) (hw : s.ways.length < 1000) (hst : s.stack.length ≤ 100) (hfit : Sc.Fit s.stack) (hn : n < 100000) (hg : w.heap.size ≤ g) (hd : dn = d.length) (hcap : dn ≤ dc) (H : RunS w L (xps Sd (.slice da dn dc) d :: X) g ((n : Nat) : Int) (row32 hc).toList s W) : Calls Try.prog 24 #[pt g, .int .u8 ((c : Nat) : Int), .slice da dn dc] W (WdR w L X g (row32 hc).toList (Sc.word (sgv hc) n s c d)) := by
 obtain ⟨Y, hY, S0, cs, Sp, h1, h2, h3, S⟩ := H
 refine enterW 56 (fun q => .seq (q 0) (.seq (.seq (q 1) (.cond (.tmp 12) (.seq (q 2) .ret) .skip)) (.seq (.seq (q 3) (.cond (.tmp 15) (.seq (.seq (q 4) (.seq (q 5) (.cond (.tmp 27) (.seq (q 6) .ret) .skip))) (.seq (q 7) (.seq (q 8) (.cond (.tmp 34) (.seq (q 9) .ret) .skip)))) .skip)) (.seq (.seq (q 10) (.cond (.tmp 37) (.seq (q 11) .ret) .skip)) (.seq (.seq (q 12) (.cond (.tmp 39) (q 13) (.seq (q 14) (.seq (q 15) (.cond (.tmp 48) (.seq (q 16) .ret) .skip))))) (.seq (.seq (q 17) (.cond (.tmp 55) (.seq (q 18) .ret) .skip)) (.seq (q 19) .ret))))))) S Try.func24 ?_
 refine Cd.sr ?_
 refine At.run 1 [] [] ?_
 refine At.nx ?_
 refine Cd.seq ?_
 by_cases hA : 520 < d.length
 next =>
  refine Cd.sr ?_
  refine At.ar 3 [] 12 (.bool (decide (((dn : Nat) : Int) > (520 : Int)))) (.bool true) (congrArg _ (decide_eq_true (by omega))) ?_
  refine At.nx ?_
  refine Cd.ct ?_
  refine Cd.sr ?_
  refine At.run 1 [] [(6, .int .i64 73)] ?_
  refine At.nx ?_
  exact Cd.rv (rt r0) [] (.int .i64 73) fun W S => (by rw [wdA hA]; exact ⟨rfl, S.below⟩)
 next =>
  refine Cd.sr ?_
  refine At.ar 3 [] 12 (.bool (decide (((dn : Nat) : Int) > (520 : Int)))) (.bool false) (congrArg _ (decide_eq_false (by omega))) ?_
  refine At.nx ?_
  refine Cd.cf ?_
  refine Cd.sk ?_
  show Cd _ _ _ _ _ _ _ _
  refine Cd.seq ?_
  refine Cd.sr ?_
  refine At.call 1 [] 14 (fun W S => spush_c c W) ?_
  rcases Bool.eq_false_or_eq_true (Sc.pushes c) with hb | hb
  next =>
   refine At.eqv 14 (.bool (Sc.pushes c)) (.bool true) (congrArg _ hb) ?_
   refine At.run 1 [] [(15, .bool false)] ?_
   refine At.nx ?_
   refine Cd.cf ?_
   refine Cd.sk ?_
   show Cd _ _ _ _ _ _ _ _
   refine Cd.seq ?_
   refine Cd.sr ?_
   refine At.run 1 [] [(36, pt g)] ?_
   by_cases hG : Sc.goes s.ways = true
   next =>
    refine At.call 0 [] 37 (fun W S => skipped_k (l := s.ways.reverse) (b := true) (by rw [goes_rev]; exact hG) (by rw [List.length_reverse]; omega) W (S.at 0 rfl) (S.cells 2 rfl)) ?_
    refine At.nx ?_
    refine Cd.cf ?_
    refine Cd.sk ?_
    show Cd _ _ _ _ _ _ _ _
    refine Cd.seq ?_
    refine Cd.sr ?_
    refine At.call 1 [] 39 (fun W S => spush_c c W) ?_
    refine At.eqv 39 (.bool (Sc.pushes c)) (.bool true) (congrArg _ hb) ?_
    refine At.nx ?_
    refine Cd.ct ?_
    refine Cd.rg ?_
    refine At.run 2 [] [(40, pt g), (41, .slice da dn dc)] ?_
    refine At.sli 0 [] 42 1 (#[.slice da dn dc]) 26 fun g42 h42 => ?_
    refine At.as (fun _ S => ((S.fX 1 rfl).fX 3 rfl).addpl (by rw [List.length_reverse]; exact h2)) ?_
    refine At.callX 0 [] 43 (fun W S => put_c (s := S0) (cs := cs) (va := da) (vn := dn) (vc := dc) (by omega) hg (((S.fL 1 rfl).fL 1 rfl).fX 1 rfl)) fun y1 => ?_
    refine At.fin ?_
    show Cd _ _ _ _ _ _ _ _
    refine Cd.seq ?_
    refine Cd.sr ?_
    refine At.fact (p := y1.n = s.stack.length + 1) (fun W S => by have q := (S.og 0 rfl).caple.2; rw [List.length_append, h2] at q; exact q) (fun ey => ?_)
    by_cases hS : 100 < s.stack.length + 1
    next =>
     refine At.ar 6 [] 55 (.bool (decide (((y1.n : Nat) : Int) > (100 : Int)))) (.bool true) (congrArg _ (decide_eq_true (by omega))) ?_
     refine At.nx ?_
     refine Cd.ct ?_
     refine Cd.sr ?_
     refine At.run 1 [] [(6, .int .i64 73)] ?_
     refine At.nx ?_
     exact Cd.rv (rt r0) [] (.int .i64 73) fun W S => (by rw [wdB1 hA hb hG hS]; exact ⟨rfl, S.below⟩)
    next =>
     refine At.ar 6 [] 55 (.bool (decide (((y1.n : Nat) : Int) > (100 : Int)))) (.bool false) (congrArg _ (decide_eq_false (by omega))) ?_
     refine At.nx ?_
     refine Cd.cf ?_
     refine Cd.sk ?_
     show Cd _ _ _ _ _ _ _ _
     refine Cd.sr ?_
     refine At.run 1 [] [(6, .int .i64 0)] ?_
     refine At.nx ?_
     exact Cd.rv r0 [] (.int .i64 0) fun W S => (by rw [wdB2 hA hb hG hS]; exact ⟨rfl, run_of (S := y1) (Y := Y) (cs := cs ++ [Value.slice da dn dc]) (pss := s.stack.reverse ++ [d]) (((S.fX 2 rfl).fX 2 rfl).fX 2 rfl) (by simp) rfl (slc_snoc h3 hcap) (by rw [List.length_append, List.length_append, List.length_reverse, h2]; rfl)⟩)
   next =>
    refine At.call 0 [] 37 (fun W S => skipped_k (l := s.ways.reverse) (b := false) (by rw [goes_rev]; exact Bool.eq_false_iff.2 hG) (by rw [List.length_reverse]; omega) W (S.at 0 rfl) (S.cells 2 rfl)) ?_
    refine At.nx ?_
    refine Cd.ct ?_
    refine Cd.sr ?_
    refine At.run 1 [] [(6, .int .i64 0)] ?_
    refine At.nx ?_
    exact Cd.rv (rt r0) [] (.int .i64 0) fun W S => (by rw [wdB3 hA hb hG]; exact ⟨rfl, run_of (S := S0) (Y := Y) (cs := cs) (pss := s.stack.reverse) ((((S.dX 3 rfl).fX 2 rfl).fX 2 rfl).fX 2 rfl) rfl rfl h3 (by rw [List.length_reverse]; exact h2)⟩)
  next =>
   refine At.eqv 14 (.bool (Sc.pushes c)) (.bool false) (congrArg _ hb) ?_
   refine At.run 1 [] [(15, .bool true)] ?_
   refine At.nx ?_
   refine Cd.ct ?_
   refine Cd.seq ?_
   refine Cd.sr ?_
   refine At.run 4 [] [(16, pt g), (19, .int .i64 ((n : Nat) : Int))] ?_
   refine At.ar 1 [] 20 (.int .i64 (IntKind.i64.wrap (((n : Nat) : Int) + 1))) (.int .i64 ((n + 1 : Nat) : Int)) (congrArg _ ((wri64 (by omega) (by omega)).trans (by omega))) ?_
   refine At.st 2 [] 0 (rcl S0.sl Y.sl ((n + 1 : Nat) : Int) (row32 hc).toList) hg ?_
   refine At.nx ?_
   by_cases hO : 100 < n + 1
   next =>
    refine Cd.sr ?_
    refine At.ar 5 [] 27 (.bool (decide (((n + 1 : Nat) : Int) > (100 : Int)))) (.bool true) (congrArg _ (decide_eq_true (by omega))) ?_
    refine At.nx ?_
    refine Cd.ct ?_
    refine Cd.sr ?_
    refine At.run 1 [] [(6, .int .i64 73)] ?_
    refine At.nx ?_
    exact Cd.rv (rt (rt r0)) [] (.int .i64 73) fun W S => (by rw [wdC0 hA hb hO]; exact ⟨rfl, S.below⟩)
   next =>
    refine Cd.sr ?_
    refine At.ar 5 [] 27 (.bool (decide (((n + 1 : Nat) : Int) > (100 : Int)))) (.bool false) (congrArg _ (decide_eq_false (by omega))) ?_
    refine At.nx ?_
    refine Cd.cf ?_
    refine Cd.sk ?_
    show Cd _ _ _ _ _ _ _ _
    refine Cd.sr ?_
    refine At.run 2 [] [(29, pt g), (30, .int .u8 ((c : Nat) : Int))] ?_
    by_cases hB : Sc.isBr c = true
    next =>
     cases hbr : Sc.branch c s with
     | error q =>
      refine At.callX 0 [] 31 (fun W S => calls_b ((branch_c hB hw hst hfit hg (run_of (S := S0) (Y := Y) (s := s) (cs := cs) (pss := s.stack.reverse) (((S.fX 2 rfl).fX 2 rfl).fX 2 rfl) rfl rfl h3 (by rw [List.length_reverse]; exact h2))).mono fun _ _ q => by rw [hbr] at q; exact q)) fun _ => ?_
      refine At.run 5 [] [(7, .bool true), (8, .int .i64 ((q : Nat) : Int))] ?_
      refine At.nx ?_
      refine Cd.sr ?_
      refine At.run 1 [] [(34, .bool true)] ?_
      refine At.nx ?_
      refine Cd.ct ?_
      refine Cd.sr ?_
      refine At.run 2 [] [(6, .int .i64 ((q : Nat) : Int))] ?_
      refine At.nx ?_
      exact Cd.rv (rt r0) [] (.int .i64 ((q : Nat) : Int)) fun W S => (by rw [wdC1 hA hb hO hB hbr]; exact ⟨rfl, S.below⟩)
     | ok s' =>
      refine At.callX 0 [] 31 (fun W S => calls_run ((branch_c hB hw hst hfit hg (run_of (S := S0) (Y := Y) (s := s) (cs := cs) (pss := s.stack.reverse) (((S.fX 2 rfl).fX 2 rfl).fX 2 rfl) rfl rfl h3 (by rw [List.length_reverse]; exact h2))).mono fun _ _ q => by rw [hbr] at q; exact q)) fun q1 => ?_
      refine At.run 5 [] [(7, .bool true), (8, .int .i64 0)] ?_
      refine At.nx ?_
      refine Cd.sr ?_
      refine At.run 1 [] [(34, .bool true)] ?_
      refine At.nx ?_
      refine Cd.ct ?_
      refine Cd.sr ?_
      refine At.run 2 [] [(6, .int .i64 0)] ?_
      refine At.nx ?_
      exact Cd.rv (rt r0) [] (.int .i64 0) fun W S => (by rw [wdC2 hA hb hO hB hbr]; exact ⟨rfl, run_of (S := q1.1.S) (Y := q1.1.Y) (cs := q1.1.cs) (pss := s'.stack.reverse) ((((S.dX 3 rfl).fX 2 rfl).fX 2 rfl).fX 2 rfl) rfl rfl q1.2.2.2.1 (by rw [List.length_reverse]; exact q1.2.2.1)⟩)
    next =>
     refine At.call 0 [] 31 (fun W S => branch_n (v := pt g) (isbr_no hB) W) ?_
     refine At.run 5 [] [(7, .bool false), (8, .int .i64 0)] ?_
     refine At.nx ?_
     refine Cd.sr ?_
     refine At.run 1 [] [(34, .bool false)] ?_
     refine At.nx ?_
     refine Cd.cf ?_
     refine Cd.sk ?_
     show Cd _ _ _ _ _ _ _ _
     refine Cd.seq ?_
     refine Cd.sr ?_
     refine At.run 1 [] [(36, pt g)] ?_
     by_cases hG : Sc.goes s.ways = true
     next =>
      refine At.call 0 [] 37 (fun W S => skipped_k (l := s.ways.reverse) (b := true) (by rw [goes_rev]; exact hG) (by rw [List.length_reverse]; omega) W (S.at 0 rfl) (S.cells 2 rfl)) ?_
      refine At.nx ?_
      refine Cd.cf ?_
      refine Cd.sk ?_
      show Cd _ _ _ _ _ _ _ _
      refine Cd.seq ?_
      refine Cd.sr ?_
      refine At.call 1 [] 39 (fun W S => spush_c c W) ?_
      refine At.eqv 39 (.bool (Sc.pushes c)) (.bool false) (congrArg _ hb) ?_
      refine At.nx ?_
      refine Cd.cf ?_
      refine Cd.sr ?_
      refine At.run 2 [] [(44, pt g), (45, .int .u8 ((c : Nat) : Int))] ?_
      cases hop : Sc.op (sgv hc) c s.stack with
      | error q =>
       refine At.callX 0 [] 46 (fun W S => calls_b ((op_c hc8 hst hfit hg (stk_of (S := S0) (cs := cs) (pss := s.stack.reverse) ((S.fX 1 rfl).fX 1 rfl) rfl (h1.trans h2.symm) h3 (by rw [List.length_reverse]; exact h2))).mono fun _ _ q => by rw [hop] at q; exact q)) fun _ => ?_
       refine At.run 1 [] [(9, .int .i64 ((q : Nat) : Int))] ?_
       refine At.nx ?_
       refine Cd.sr ?_
       refine At.ar 2 [] 48 (.bool (((q : Nat) : Int) != 0)) (.bool true) (congrArg _ (by rcases op_err hop with e | e | e <;> rw [e] <;> rfl)) ?_
       refine At.nx ?_
       refine Cd.ct ?_
       refine Cd.sr ?_
       refine At.run 2 [] [(6, .int .i64 ((q : Nat) : Int))] ?_
       refine At.nx ?_
       exact Cd.rv (rt r0) [] (.int .i64 ((q : Nat) : Int)) fun W S => (by rw [wdC4 hA hb hO hB hG hop]; exact ⟨rfl, S.below⟩)
      | ok st =>
       refine At.callX 0 [] 46 (fun W S => calls_stk ((op_c hc8 hst hfit hg (stk_of (S := S0) (cs := cs) (pss := s.stack.reverse) ((S.fX 1 rfl).fX 1 rfl) rfl (h1.trans h2.symm) h3 (by rw [List.length_reverse]; exact h2))).mono fun _ _ q => by rw [hop] at q; exact q)) fun q1 => ?_
       refine At.run 1 [] [(9, .int .i64 0)] ?_
       refine At.nx ?_
       refine Cd.sr ?_
       refine At.run 2 [] [(48, .bool false)] ?_
       refine At.nx ?_
       refine Cd.cf ?_
       refine Cd.sk ?_
       show Cd _ _ _ _ _ _ _ _
       refine Cd.seq ?_
       refine Cd.sr ?_
       have ey : q1.1.S.n = st.length := q1.2.1
       by_cases hS : 100 < st.length
       next =>
        refine At.ar 6 [] 55 (.bool (decide (((q1.1.S.n : Nat) : Int) > (100 : Int)))) (.bool true) (congrArg _ (decide_eq_true (by omega))) ?_
        refine At.nx ?_
        refine Cd.ct ?_
        refine Cd.sr ?_
        refine At.run 1 [] [(6, .int .i64 73)] ?_
        refine At.nx ?_
        exact Cd.rv (rt r0) [] (.int .i64 73) fun W S => (by rw [wdC5 hA hb hO hB hG hop hS]; exact ⟨rfl, S.below⟩)
       next =>
        refine At.ar 6 [] 55 (.bool (decide (((q1.1.S.n : Nat) : Int) > (100 : Int)))) (.bool false) (congrArg _ (decide_eq_false (by omega))) ?_
        refine At.nx ?_
        refine Cd.cf ?_
        refine Cd.sk ?_
        show Cd _ _ _ _ _ _ _ _
        refine Cd.sr ?_
        refine At.run 1 [] [(6, .int .i64 0)] ?_
        refine At.nx ?_
        exact Cd.rv r0 [] (.int .i64 0) fun W S => (by rw [wdC6 hA hb hO hB hG hop hS]; exact ⟨rfl, run_of (S := q1.1.S) (Y := Y) (s := ⟨st, s.ways⟩) (cs := q1.1.cs) (pss := st.reverse) ((((S.dX 3 rfl).fX 2 rfl).fX 2 rfl).fX 2 rfl) rfl rfl q1.2.2.2 (by rw [List.length_reverse]; exact q1.2.2.1)⟩)
     next =>
      refine At.call 0 [] 37 (fun W S => skipped_k (l := s.ways.reverse) (b := false) (by rw [goes_rev]; exact Bool.eq_false_iff.2 hG) (by rw [List.length_reverse]; omega) W (S.at 0 rfl) (S.cells 2 rfl)) ?_
      refine At.nx ?_
      refine Cd.ct ?_
      refine Cd.sr ?_
      refine At.run 1 [] [(6, .int .i64 0)] ?_
      refine At.nx ?_
      exact Cd.rv (rt r0) [] (.int .i64 0) fun W S => (by rw [wdC3 hA hb hO hB hG]; exact ⟨rfl, run_of (S := S0) (Y := Y) (cs := cs) (pss := s.stack.reverse) ((((S.dX 3 rfl).fX 2 rfl).fX 2 rfl).fX 2 rfl) rfl rfl h3 (by rw [List.length_reverse]; exact h2)⟩)
end Go.Proofs.Ytljcaegcbcikiaa
namespace Go.Proofs.Ytljcaegcbcikiaa
open Go.RowKit
theorem join_ofb {N : Nat} {Q : Exit → Act → World → Prop} {F : List (Nat × Value)} {w : World} {L : List (Nat × Obj)} {X : List Xt} {id : Nat} {ι : Type} {F0 : ι → List (Nat × Value)} {L0 : ι → List (Nat × Obj)} {X0 : ι → List Xt} (i : ι) (hS : ∀ W, Sx w L X W → Sx w (L0 i) (X0 i) W) (hk : (F0 i).map (fun p => look F p.1) = (F0 i).map (fun p => some p.2) := by kernel_rfl) : ∀ T W, Fq N T F → Sx w L X W → Exit.inBlock id (Exit.then (joined F0 w L0 X0 N) Q) .normal ⟨T, []⟩ W :=
  fun T W hF h => join_of (Q := Q) i hS hk T W hF h
theorem At.cutlh {f : Func} {r i N : Nat} {Q : Exit → Act → World → Prop} {F : List (Nat × Value)} {w : World} {L : List (Nat × Obj)} {X : List Xt} (n : Nat) (hs : List Nat) (d : Nat) (j : Nat) {B m c lo hi : Nat} {A : Option Addr} {bs : List Nat} (hj : X[j]? = some (xpc B (.slice A m c) bs)) (h1 : lo ≤ hi) (h2 : hi ≤ bs.length) (hc : bs.length ≤ c)
    (k : ∀ a' : Option Addr, At Try.prog f r (i + n + 1) Q N ((d, .slice a' (hi - lo) (c - lo)) :: F) w L (xpc B (.slice a' (hi - lo) (c - lo)) ((bs.drop lo).take (hi - lo)) :: X))
    (hk : ∀ T T', opL Try.prog f r i n L F hs T (semB T') = opR Try.prog f r i n L F hs T (d, (do pure (.value (← Instr.sliceAt 26 (.slice A m c) (some (.int .i64 (lo : Int))) (some (.int .i64 (hi : Int))) none)))) := by intro T T'; kernel_rfl) : At Try.prog f r i Q N F w L X := by
  refine At.semX (ι := Option Addr) (V := fun a' => .slice a' (hi - lo) (c - lo)) (L' := fun _ => L) (X' := fun a' => xpc B (.slice a' (hi - lo) (c - lo)) ((bs.drop lo).take (hi - lo)) :: X) n hs d _ (fun W hS => ?_) k hk
  obtain ⟨a', e, h⟩ := piece_cut (hS.pcS j hj) lo hi h1 h2 hc
  refine ⟨a', W, ?_, hS.cutpc j hj h⟩
  rw [run_sliceAt_slice _ _ _ _ _ _ bytes_slice, run_slice_lh W 26 A m c bytes_slice .i64 .i64 (lo : Int) (hi : Int) (Int.natCast_nonneg _) (by omega) (by omega), byte_size]
  simp only [Result.andThen_ok, Int.toNat_natCast, e]
theorem ixy_run {b o c n i : Nat} (h : i < n) (W : World) : (Instr.indexAt 26 (.slice (some ⟨b, o, none⟩) n c) (.int .i64 ((i : Nat) : Int))).run Try.prog W = .ok (po b (o + i * 1)) W := by
  have hadd : (⟨b, o, none⟩ : Addr).add (i * 1) = ⟨b, o + i * 1, none⟩ := by unfold Addr.add; split <;> simp_all
  rw [Nat.mul_one] at hadd
  have hs : (sizeOf 5).run Try.prog W = .ok 1 W := sym0_run (by kernel_rfl)
  simp [Instr.indexAt, asIntOf, run_underlying Try.underlying26, hs, h, hadd]
theorem Sx.gotbyte {w W : World} {L : List (Nat × Obj)} {X : List Xt} (h : Sx w L X W) (i : Nat) {g : Nat} {x : Nat} (hi : L[i]? = some (g, .cells #[.int .u8 ((x : Nat) : Int)] 5 (0, 0))) (hg : w.heap.size ≤ g) : PadR w (.slice (some ⟨g, 0, none⟩) 1 1) [x] W :=
  ⟨h.below, Or.inr ⟨g, 0, 1, _, rfl, h.at i hi, Nat.le_refl _, Nat.le_refl _, fun j hj => by
    obtain rfl : j = 0 := by simp at hj; omega
    rfl⟩, fun b hb => by simp [Value.ownBlock] at hb; omega⟩
section
variable {bs : List Nat} {c0 c1 c2 : Nat} (hc0 : nth bs 0 = c0)
include hc0
theorem hs_few (h : c0 ≤ 75) : hd bs = 1 ∧ sz bs = c0 := ⟨by unfold hd; rw [hc0, if_neg (by omega), if_neg (by omega)], by unfold sz; rw [hc0, if_pos h]⟩
theorem hs_76 (h : c0 = 76) (hc1 : nth bs 1 = c1) : hd bs = 2 ∧ sz bs = c1 := ⟨by unfold hd; rw [hc0, if_pos h], by unfold sz; rw [hc0, if_neg (by omega), if_pos h, hc1]⟩
theorem hs_77 (h : c0 = 77) (hc1 : nth bs 1 = c1) (hc2 : nth bs 2 = c2) : hd bs = 3 ∧ sz bs = c1 + 256 * c2 := ⟨by unfold hd; rw [hc0, if_neg (by omega), if_pos h], by unfold sz; rw [hc0, if_neg (by omega), if_neg (by omega), if_pos h, hc1, hc2]⟩
theorem hs_big (h : 77 < c0) : hd bs = 1 ∧ sz bs = 0 := ⟨by unfold hd; rw [hc0, if_neg (by omega), if_neg (by omega)], by unfold sz; rw [hc0, if_neg (by omega), if_neg (by omega), if_neg (by omega)]⟩
theorem nx_cut (h0 : 0 < bs.length) (h : (c0 = 76 ∧ bs.length < 2) ∨ (c0 = 77 ∧ bs.length < 3)) : nxt bs = none := by
  refine nxt_short bs (by omega) (by omega) ?_
  unfold hd
  rcases h with ⟨h, h2⟩ | ⟨h, h2⟩
  · rw [hc0, if_pos h]; omega
  · rw [hc0, if_neg (by omega), if_pos h]; omega
end
theorem calls_v {P : Program} {w W : World} {L : List (Nat × Obj)} {X : List Xt} {fid : FuncId} {vs : Array Value} {bs : List Nat} (hc : Calls P fid vs W fun e w' => ∃ u, e = .returned u ∧ PadR W u bs w') (S : Sx w L X W) : Calls P fid vs W fun e w' => ∃ y : Value, e = .returned y ∧ Sx w L (xown w y bs :: X) w' :=
  hc.mono fun e w' ⟨u, he, hp⟩ => ⟨u, he, S.gave hp⟩
theorem shl8_run (t : TypeId) (x y : Operand) (n : Nat) (h : n < 256) (W : World) : (do eqGuard .shl t x y (.int .i64 ((n : Nat) : Int)) (.int .u64 8); binOp .shl t (.int .i64 ((n : Nat) : Int)) (.int .u64 8) : Sem Value).run Try.prog W = .ok (.int .i64 ((256 * n : Nat) : Int)) W := by
  have e : IntKind.i64.wrap (((n : Nat) : Int) * 2 ^ 8) = ((256 * n : Nat) : Int) := by rw [IntKind.wrap_i64]; omega
  simp [eqGuard, binOp, Op.shift, IntKind.bits]
  first | exact e | (rw [← e]; rfl) | omega
set_option maxHeartbeats 4000000 in
set_option maxRecDepth 100000 in
theorem next_k (v : Value) (bs : List Nat) (w : World) (hp : PieceV w w.heap.size v bs) (hcap : ∀ a n c, v = .slice a n c → n ≤ c) (hby : ∀ y, y ∈ bs → y < 256) (hlen : bs.length ≤ 1000000000) : Calls Try.prog 22 #[v] w (RetN w bs) := by
 obtain ⟨A, c, rfl⟩ := hp.shape
 have hcc : bs.length ≤ c := hcap _ _ _ rfl
 have S0 := Sx.ofpc hp
 clear hp
 obtain ⟨c0, hc0⟩ : ∃ c0, nth bs 0 = c0 := ⟨_, rfl⟩
 obtain ⟨c1, hc1⟩ : ∃ c0, nth bs 1 = c0 := ⟨_, rfl⟩
 obtain ⟨c2, hc2⟩ : ∃ c0, nth bs 2 = c0 := ⟨_, rfl⟩
 have h8 : c0 < 256 ∧ c1 < 256 ∧ c2 < 256 := by subst hc0 hc1 hc2; exact ⟨nth_lt bs hby 0, nth_lt bs hby 1, nth_lt bs hby 2⟩
 refine enterQ 82 (fun q => .seq (q 0) (.seq (.seq (q 1) (.cond (.tmp 11) (.seq (q 2) .ret) .skip)) (.seq (q 3) (.seq (.block 0 (.seq (q 4) (.cond (.tmp 15) (q 5) (.seq (q 6) (.cond (.tmp 20) (q 7) (.seq (q 8) (.cond (.tmp 32) (q 9) (.seq (q 10) (.cond (.tmp 50) (.seq (q 11) .ret) (.seq (q 12) (.cond (.tmp 53) (.seq (q 13) .ret) .skip))))))))))) (.seq (.seq (q 14) (.cond (.tmp 70) (.seq (q 15) .ret) .skip)) (.seq (q 16) .ret)))))) S0 Try.func22 ?_
 refine Cd.sr ?_
 refine At.run 4 [] [] ?_
 refine At.nx ?_
 refine Cd.seq ?_
 refine Cd.sr ?_
 refine At.run 3 [] [(11, .bool (((bs.length : Nat) : Int) == 0))] ?_
 refine At.nx ?_
 rcases Bool.eq_false_or_eq_true (((bs.length : Nat) : Int) == 0) with hb | hb
 next =>
  refine Cd.eqv 11 (.bool (((bs.length : Nat) : Int) == 0)) (.bool true) (congrArg _ hb) ?_
  refine Cd.ct ?_
  refine Cd.sr ?_
  refine At.run 4 [] [(2, .int .u8 0), (3, .slice none 0 0), (4, .int .i64 0), (5, .int .i64 71)] ?_
  refine At.nx ?_
  exact Cd.rv (rt r0) [] (.tuple #[.int .u8 0, .slice none 0 0, .int .i64 0, .int .i64 71]) fun W S => RetN.no (nxt_nil bs (by have qhb := beq_iff_eq.1 hb; omega)) S.below
 next =>
  refine Cd.eqv 11 (.bool (((bs.length : Nat) : Int) == 0)) (.bool false) (congrArg _ hb) ?_
  refine Cd.cf ?_
  refine Cd.sk ?_
  show Cd _ _ _ _ _ _ _ _
  have hl0 : 0 < bs.length := by have qhb := beq_eq_false_iff_ne.1 hb; omega
  refine Cd.fact (p := ∃ b o, A = some ⟨b, o, none⟩) (fun W S => S.lies 0 rfl rfl hl0) (fun ⟨b, o, eA⟩ => ?_)
  subst eA
  refine Cd.sr ?_
  refine At.ixs 1 [] 13 1 b o bs.length c .i64 0 (by omega) ?_
  refine At.ld 0 [] 14 b (o + 0 * 1) (.int .u8 ((c0 : Nat) : Int)) (fun W S => by have q := (S.pcS 0 rfl).at 0 _ (by omega) (by omega : o + 0 * 1 = o + 0 * 1); rw [hc0] at q; exact q) ?_
  refine At.run 3 [] [(6, .int .u8 ((c0 : Nat) : Int)), (7, .int .i64 1), (8, .int .i64 0)] ?_
  refine At.nx ?_
  refine Cd.seqj (ι := {q : Nat × Nat // hd bs = q.1 ∧ sz bs = q.2 ∧ ¬ (81 ≤ c0 ∧ c0 ≤ 96) ∧ q.1 ≤ 3 ∧ q.2 < 70000}) (fun q => [(0, .slice (some ⟨b, o, none⟩) bs.length c), (6, .int .u8 ((c0 : Nat) : Int)), (7, .int .i64 ((q.1.1 : Nat) : Int)), (8, .int .i64 ((q.1.2 : Nat) : Int))]) (fun q => []) (fun q => [xpc w.heap.size (.slice (some ⟨b, o, none⟩) bs.length c) bs]) (fun q => ?_) ?_
  next =>
   obtain ⟨⟨H, N⟩, hH, hN, h81, hH3, hN7⟩ := q
   dsimp only at hH hN hH3 hN7
   refine Cd.seq ?_
   refine Cd.sr ?_
   refine At.run 4 [] [(66, .int .i64 ((bs.length : Nat) : Int)), (67, .int .i64 ((H : Nat) : Int)), (68, .int .i64 ((N : Nat) : Int))] ?_
   refine At.ar 1 [] 69 (.int .i64 (IntKind.i64.wrap (((H : Nat) : Int) + ((N : Nat) : Int)))) (.int .i64 ((H + N : Nat) : Int)) (congrArg _ ((wri64 (by omega) (by omega)).trans (by omega))) ?_
   refine At.run 1 [] [(70, .bool (decide (((bs.length : Nat) : Int) < ((H + N : Nat) : Int))))] ?_
   refine At.nx ?_
   rcases Bool.eq_false_or_eq_true (decide (((bs.length : Nat) : Int) < ((H + N : Nat) : Int))) with hb1 | hb1
   next =>
    refine Cd.eqv 70 (.bool (decide (((bs.length : Nat) : Int) < ((H + N : Nat) : Int)))) (.bool true) (congrArg _ hb1) ?_
    refine Cd.ct ?_
    refine Cd.sr ?_
    refine At.run 4 [] [(2, .int .u8 0), (3, .slice none 0 0), (4, .int .i64 0), (5, .int .i64 71)] ?_
    refine At.nx ?_
    exact Cd.rv (rt r0) [] (.tuple #[.int .u8 0, .slice none 0 0, .int .i64 0, .int .i64 71]) fun W S => RetN.short (by omega) (by rw [hc0]; exact h81) H N hH hN (by have qhb1 := of_decide_eq_true hb1; omega) S.below
   next =>
    refine Cd.eqv 70 (.bool (decide (((bs.length : Nat) : Int) < ((H + N : Nat) : Int)))) (.bool false) (congrArg _ hb1) ?_
    refine Cd.cf ?_
    refine Cd.sk ?_
    show Cd _ _ _ _ _ _ _ _
    refine Cd.sr ?_
    refine At.run 5 [] [(71, .int .u8 ((c0 : Nat) : Int)), (72, .slice (some ⟨b, o, none⟩) bs.length c), (73, .int .i64 ((H : Nat) : Int)), (74, .int .i64 ((H : Nat) : Int)), (75, .int .i64 ((N : Nat) : Int))] ?_
    refine At.ar 1 [] 76 (.int .i64 (IntKind.i64.wrap (((H : Nat) : Int) + ((N : Nat) : Int)))) (.int .i64 ((H + N : Nat) : Int)) (congrArg _ ((wri64 (by omega) (by omega)).trans (by omega))) ?_
    refine At.cutlh 0 [] 77 (lo := H) (hi := H + N) 0 rfl (by omega) (by have qhb1 := of_decide_eq_false hb1; omega) hcc fun a' => ?_
    refine At.callX 0 [] 78 (fun W S => calls_v (clone_c _ ((bs.drop H).take (H + N - H)) W (S.pc 0 rfl) (by rw [List.length_take]; omega)) S) fun y7 => ?_
    refine At.ar 3 [] 81 (.int .i64 (IntKind.i64.wrap (((H : Nat) : Int) + ((N : Nat) : Int)))) (.int .i64 ((H + N : Nat) : Int)) (congrArg _ ((wri64 (by omega) (by omega)).trans (by omega))) ?_
    refine At.run 4 [] [(2, .int .u8 ((c0 : Nat) : Int)), (3, y7), (4, .int .i64 ((H + N : Nat) : Int)), (5, .int .i64 0)] ?_
    refine At.nx ?_
    exact Cd.rv r0 [] (.tuple #[.int .u8 ((c0 : Nat) : Int), y7, .int .i64 ((H + N : Nat) : Int), .int .i64 0]) fun W S => RetN.ok (by omega) (by rw [hc0]; exact h81) H N hH hN (by have qhb1 := of_decide_eq_false hb1; omega) c0 hc0 (by have h := S.padr 0 rfl; rwa [Nat.add_sub_cancel_left] at h)
  next =>
   refine Cd.blk ?_
   refine Cd.sr ?_
   rcases (by omega : c0 ≤ 75 ∨ c0 = 76 ∨ c0 = 77 ∨ (78 ≤ c0 ∧ c0 ≤ 80) ∨ (81 ≤ c0 ∧ c0 ≤ 96) ∨ 97 ≤ c0) with hk | hk | hk | hk | hk | hk
   next =>
    refine At.ar 2 [] 17 (.bool (decide (((c0 : Nat) : Int) ≤ 75))) (.bool true) (congrArg _ (decide_eq_true (by omega))) ?_
    refine At.run 1 [] [(15, .bool true)] ?_
    refine At.nx ?_
    refine Cd.ct ?_
    refine Cd.rg ?_
    refine At.ar 2 [] 19 (.int .i64 (IntKind.i64.wrap ((c0 : Nat) : Int))) (.int .i64 ((c0 : Nat) : Int)) (congrArg _ (wri64 (by omega) (by omega))) ?_
    refine At.run 1 [] [(8, .int .i64 ((c0 : Nat) : Int))] ?_
    refine At.fin ?_
    exact join_ofb (⟨(1, c0), (hs_few hc0 hk).1, (hs_few hc0 hk).2, by omega, by show 1 ≤ 3; decide, by show c0 < 70000; omega⟩) (fun _ S => S)
   next =>
    refine At.ar 2 [] 17 (.bool (decide (((c0 : Nat) : Int) ≤ 75))) (.bool false) (congrArg _ (decide_eq_false (by omega))) ?_
    refine At.run 1 [] [(15, .bool false)] ?_
    refine At.nx ?_
    refine Cd.cf ?_
    refine Cd.sr ?_
    refine At.ar 2 [] 22 (.bool (((c0 : Nat) : Int) == 76)) (.bool true) (congrArg _ (beq_iff_eq.2 (by omega))) ?_
    refine At.run 6 [] [(20, .bool (decide (((bs.length : Nat) : Int) > 1)))] ?_
    refine At.nx ?_
    rcases Bool.eq_false_or_eq_true (decide (((bs.length : Nat) : Int) > 1)) with hb1 | hb1
    next =>
     refine Cd.eqv 20 (.bool (decide (((bs.length : Nat) : Int) > 1))) (.bool true) (congrArg _ hb1) ?_
     refine Cd.ct ?_
     refine Cd.dr 5 [] [(1, po b (o + 1 * 1)), (2, .int .u8 ((c1 : Nat) : Int))] [] [] [(3, .int .i64 (IntKind.i64.wrap ((c1 : Nat) : Int)), .int .i64 ((c1 : Nat) : Int))] (fun u7 => [(31, .int .i64 ((c1 : Nat) : Int)), (7, .int .i64 2)]) (fun u7 => []) (fun u7 => [xpc w.heap.size (.slice (some ⟨b, o, none⟩) bs.length c) bs]) stays_nil (eqs_cons (congrArg _ (wri64 (by omega) (by omega))) eqs_nil) (.cons 1 (fun u7 W S h => sem_ob (ixy_run (b := b) (o := o) (n := bs.length) (c := c) (i := 1) (by have qhb := beq_eq_false_iff_ne.1 hb; have qhb1 := of_decide_eq_true hb1; omega) W)) <| .cons 2 (fun u7 W S h => sem_ob (run_load1 Try.underlying5 rfl (by have qhb := beq_eq_false_iff_ne.1 hb; have qhb1 := of_decide_eq_true hb1; have q := (S.pcS 0 rfl).at 1 (o + 1 * 1) (by omega) (by omega); rwa [hc1] at q))) <| .nil) (fun u7 W S h => S) fun u7 hu7 => ?_
     refine At.run 1 [] [(8, .int .i64 ((c1 : Nat) : Int))] ?_
     refine At.fin ?_
     exact join_ofb (⟨(2, c1), (hs_76 hc0 hk hc1).1, (hs_76 hc0 hk hc1).2, by omega, by show 2 ≤ 3; decide, by show c1 < 70000; omega⟩) (fun _ S => S)
    next =>
     refine Cd.eqv 20 (.bool (decide (((bs.length : Nat) : Int) > 1))) (.bool false) (congrArg _ hb1) ?_
     refine Cd.cf ?_
     refine Cd.sr ?_
     refine At.ar 2 [] 34 (.bool (((c0 : Nat) : Int) == 77)) (.bool false) (congrArg _ (beq_eq_false_iff_ne.2 (by omega))) ?_
     refine At.run 6 [] [(32, .bool false)] ?_
     refine At.nx ?_
     refine Cd.cf ?_
     refine Cd.sr ?_
     refine At.ar 2 [] 52 (.bool (decide (((c0 : Nat) : Int) ≤ 77))) (.bool true) (congrArg _ (decide_eq_true (by omega))) ?_
     refine At.run 1 [] [(50, .bool true)] ?_
     refine At.nx ?_
     refine Cd.ct ?_
     refine Cd.sr ?_
     refine At.run 4 [] [(2, .int .u8 0), (3, .slice none 0 0), (4, .int .i64 0), (5, .int .i64 71)] ?_
     refine At.nx ?_
     exact Cd.rv (rb (rt r0)) [] (.tuple #[.int .u8 0, .slice none 0 0, .int .i64 0, .int .i64 71]) fun W S => RetN.no (nx_cut hc0 hl0 (by have qhb := beq_eq_false_iff_ne.1 hb; have qhb1 := of_decide_eq_false hb1; omega)) S.below
   next =>
    refine At.ar 2 [] 17 (.bool (decide (((c0 : Nat) : Int) ≤ 75))) (.bool false) (congrArg _ (decide_eq_false (by omega))) ?_
    refine At.run 1 [] [(15, .bool false)] ?_
    refine At.nx ?_
    refine Cd.cf ?_
    refine Cd.sr ?_
    refine At.ar 2 [] 22 (.bool (((c0 : Nat) : Int) == 76)) (.bool false) (congrArg _ (beq_eq_false_iff_ne.2 (by omega))) ?_
    refine At.run 6 [] [(20, .bool false)] ?_
    refine At.nx ?_
    refine Cd.cf ?_
    refine Cd.sr ?_
    refine At.ar 2 [] 34 (.bool (((c0 : Nat) : Int) == 77)) (.bool true) (congrArg _ (beq_iff_eq.2 (by omega))) ?_
    refine At.run 6 [] [(32, .bool (decide (((bs.length : Nat) : Int) > 2)))] ?_
    refine At.nx ?_
    rcases Bool.eq_false_or_eq_true (decide (((bs.length : Nat) : Int) > 2)) with hb1 | hb1
    next =>
     refine Cd.eqv 32 (.bool (decide (((bs.length : Nat) : Int) > 2))) (.bool true) (congrArg _ hb1) ?_
     refine Cd.ct ?_
     refine Cd.dr 11 [] [(1, po b (o + 1 * 1)), (2, .int .u8 ((c1 : Nat) : Int)), (5, po b (o + 2 * 1)), (6, .int .u8 ((c2 : Nat) : Int)), (8, .int .i64 ((256 * c2 : Nat) : Int))] [] [] [(3, .int .i64 (IntKind.i64.wrap ((c1 : Nat) : Int)), .int .i64 ((c1 : Nat) : Int)), (7, .int .i64 (IntKind.i64.wrap ((c2 : Nat) : Int)), .int .i64 ((c2 : Nat) : Int)), (9, .int .i64 (IntKind.i64.wrap (((c1 : Nat) : Int) + ((256 * c2 : Nat) : Int))), .int .i64 ((c1 + 256 * c2 : Nat) : Int))] (fun u9 => [(49, .int .i64 ((c1 + 256 * c2 : Nat) : Int)), (7, .int .i64 3)]) (fun u9 => []) (fun u9 => [xpc w.heap.size (.slice (some ⟨b, o, none⟩) bs.length c) bs]) stays_nil (eqs_cons (congrArg _ (wri64 (by omega) (by omega))) (eqs_cons (congrArg _ (wri64 (by omega) (by omega))) (eqs_cons (congrArg _ ((wri64 (by omega) (by omega)).trans (by omega))) eqs_nil))) (.cons 1 (fun u9 W S h => sem_ob (ixy_run (b := b) (o := o) (n := bs.length) (c := c) (i := 1) (by have qhb := beq_eq_false_iff_ne.1 hb; have qhb1 := of_decide_eq_true hb1; omega) W)) <| .cons 2 (fun u9 W S h => sem_ob (run_load1 Try.underlying5 rfl (by have qhb := beq_eq_false_iff_ne.1 hb; have qhb1 := of_decide_eq_true hb1; have q := (S.pcS 0 rfl).at 1 (o + 1 * 1) (by omega) (by omega); rwa [hc1] at q))) <| .cons 5 (fun u9 W S h => sem_ob (ixy_run (b := b) (o := o) (n := bs.length) (c := c) (i := 2) (by have qhb := beq_eq_false_iff_ne.1 hb; have qhb1 := of_decide_eq_true hb1; omega) W)) <| .cons 6 (fun u9 W S h => sem_ob (run_load1 Try.underlying5 rfl (by have qhb := beq_eq_false_iff_ne.1 hb; have qhb1 := of_decide_eq_true hb1; have q := (S.pcS 0 rfl).at 2 (o + 2 * 1) (by omega) (by omega); rwa [hc2] at q))) <| .cons 8 (fun u9 W S h => sem_ob (shl8_run 3 (.tmp 47) (.const (.int .u64 8)) c2 h8.2.2 W)) <| .nil) (fun u9 W S h => S) fun u9 hu9 => ?_
     refine At.run 1 [] [(8, .int .i64 ((c1 + 256 * c2 : Nat) : Int))] ?_
     refine At.fin ?_
     exact join_ofb (⟨(3, c1 + 256 * c2), (hs_77 hc0 hk hc1 hc2).1, (hs_77 hc0 hk hc1 hc2).2, by omega, by show 3 ≤ 3; decide, by show c1 + 256 * c2 < 70000; omega⟩) (fun _ S => S)
    next =>
     refine Cd.eqv 32 (.bool (decide (((bs.length : Nat) : Int) > 2))) (.bool false) (congrArg _ hb1) ?_
     refine Cd.cf ?_
     refine Cd.sr ?_
     refine At.ar 2 [] 52 (.bool (decide (((c0 : Nat) : Int) ≤ 77))) (.bool true) (congrArg _ (decide_eq_true (by omega))) ?_
     refine At.run 1 [] [(50, .bool true)] ?_
     refine At.nx ?_
     refine Cd.ct ?_
     refine Cd.sr ?_
     refine At.run 4 [] [(2, .int .u8 0), (3, .slice none 0 0), (4, .int .i64 0), (5, .int .i64 71)] ?_
     refine At.nx ?_
     exact Cd.rv (rb (rt r0)) [] (.tuple #[.int .u8 0, .slice none 0 0, .int .i64 0, .int .i64 71]) fun W S => RetN.no (nx_cut hc0 hl0 (by have qhb := beq_eq_false_iff_ne.1 hb; have qhb1 := of_decide_eq_false hb1; omega)) S.below
   next =>
    refine At.ar 2 [] 17 (.bool (decide (((c0 : Nat) : Int) ≤ 75))) (.bool false) (congrArg _ (decide_eq_false (by omega))) ?_
    refine At.run 1 [] [(15, .bool false)] ?_
    refine At.nx ?_
    refine Cd.cf ?_
    refine Cd.sr ?_
    refine At.ar 2 [] 22 (.bool (((c0 : Nat) : Int) == 76)) (.bool false) (congrArg _ (beq_eq_false_iff_ne.2 (by omega))) ?_
    refine At.run 6 [] [(20, .bool false)] ?_
    refine At.nx ?_
    refine Cd.cf ?_
    refine Cd.sr ?_
    refine At.ar 2 [] 34 (.bool (((c0 : Nat) : Int) == 77)) (.bool false) (congrArg _ (beq_eq_false_iff_ne.2 (by omega))) ?_
    refine At.run 6 [] [(32, .bool false)] ?_
    refine At.nx ?_
    refine Cd.cf ?_
    refine Cd.sr ?_
    refine At.ar 2 [] 52 (.bool (decide (((c0 : Nat) : Int) ≤ 77))) (.bool false) (congrArg _ (decide_eq_false (by omega))) ?_
    refine At.run 1 [] [(50, .bool false)] ?_
    refine At.nx ?_
    refine Cd.cf ?_
    refine Cd.sr ?_
    refine At.ar 2 [] 55 (.bool (decide (((c0 : Nat) : Int) ≥ 81))) (.bool false) (congrArg _ (decide_eq_false (by omega))) ?_
    refine At.run 5 [] [(53, .bool false)] ?_
    refine At.nx ?_
    refine Cd.cf ?_
    refine Cd.sk ?_
    exact join_ofb (⟨(1, 0), (hs_big hc0 (by omega)).1, (hs_big hc0 (by omega)).2, by omega, by show 1 ≤ 3; decide, by show 0 < 70000; omega⟩) (fun _ S => S)
   next =>
    refine At.ar 2 [] 17 (.bool (decide (((c0 : Nat) : Int) ≤ 75))) (.bool false) (congrArg _ (decide_eq_false (by omega))) ?_
    refine At.run 1 [] [(15, .bool false)] ?_
    refine At.nx ?_
    refine Cd.cf ?_
    refine Cd.sr ?_
    refine At.ar 2 [] 22 (.bool (((c0 : Nat) : Int) == 76)) (.bool false) (congrArg _ (beq_eq_false_iff_ne.2 (by omega))) ?_
    refine At.run 6 [] [(20, .bool false)] ?_
    refine At.nx ?_
    refine Cd.cf ?_
    refine Cd.sr ?_
    refine At.ar 2 [] 34 (.bool (((c0 : Nat) : Int) == 77)) (.bool false) (congrArg _ (beq_eq_false_iff_ne.2 (by omega))) ?_
    refine At.run 6 [] [(32, .bool false)] ?_
    refine At.nx ?_
    refine Cd.cf ?_
    refine Cd.sr ?_
    refine At.ar 2 [] 52 (.bool (decide (((c0 : Nat) : Int) ≤ 77))) (.bool false) (congrArg _ (decide_eq_false (by omega))) ?_
    refine At.run 1 [] [(50, .bool false)] ?_
    refine At.nx ?_
    refine Cd.cf ?_
    refine Cd.sr ?_
    refine At.ar 2 [] 55 (.bool (decide (((c0 : Nat) : Int) ≥ 81))) (.bool true) (congrArg _ (decide_eq_true (by omega))) ?_
    refine At.run 2 [] [(56, .bool true), (57, .int .u8 ((c0 : Nat) : Int))] ?_
    refine At.ar 1 [] 58 (.bool (decide (((c0 : Nat) : Int) ≤ 96))) (.bool true) (congrArg _ (decide_eq_true (by omega))) ?_
    refine At.run 2 [] [(53, .bool true)] ?_
    refine At.nx ?_
    refine Cd.ct ?_
    refine Cd.sr ?_
    refine At.run 2 [] [(60, .int .u8 ((c0 : Nat) : Int)), (61, .int .u8 ((c0 : Nat) : Int))] ?_
    refine At.ar 1 [] 62 (.int .u8 (IntKind.u8.wrap (((c0 : Nat) : Int) - 81))) (.int .u8 ((c0 - 81 : Nat) : Int)) (congrArg _ (by have qhb := beq_eq_false_iff_ne.1 hb; rw [IntKind.wrap_u8]; omega)) ?_
    refine At.ar 1 [] 63 (.int .u8 (IntKind.u8.wrap (((c0 - 81 : Nat) : Int) + 1))) (.int .u8 ((c0 - 80 : Nat) : Int)) (congrArg _ (by have qhb := beq_eq_false_iff_ne.1 hb; rw [IntKind.wrap_u8]; omega)) ?_
    refine At.sli 0 [] 64 1 (#[.int .u8 ((c0 - 80 : Nat) : Int)]) 5 fun g64 h64 => ?_
    refine At.run 4 [] [(2, .int .u8 ((c0 : Nat) : Int)), (3, .slice (some ⟨g64, 0, none⟩) 1 1), (4, .int .i64 1), (5, .int .i64 0)] ?_
    refine At.nx ?_
    exact Cd.rv (rb (rt r0)) [] (.tuple #[.int .u8 ((c0 : Nat) : Int), .slice (some ⟨g64, 0, none⟩) 1 1, .int .i64 1, .int .i64 0]) fun W S => RetN.yes c0 [c0 - 80] 1 (nxt_one bs (by omega) c0 hc0 (by have qhb := beq_eq_false_iff_ne.1 hb; omega) (by have qhb := beq_eq_false_iff_ne.1 hb; omega)) (S.gotbyte 0 rfl h64)
   next =>
    refine At.ar 2 [] 17 (.bool (decide (((c0 : Nat) : Int) ≤ 75))) (.bool false) (congrArg _ (decide_eq_false (by omega))) ?_
    refine At.run 1 [] [(15, .bool false)] ?_
    refine At.nx ?_
    refine Cd.cf ?_
    refine Cd.sr ?_
    refine At.ar 2 [] 22 (.bool (((c0 : Nat) : Int) == 76)) (.bool false) (congrArg _ (beq_eq_false_iff_ne.2 (by omega))) ?_
    refine At.run 6 [] [(20, .bool false)] ?_
    refine At.nx ?_
    refine Cd.cf ?_
    refine Cd.sr ?_
    refine At.ar 2 [] 34 (.bool (((c0 : Nat) : Int) == 77)) (.bool false) (congrArg _ (beq_eq_false_iff_ne.2 (by omega))) ?_
    refine At.run 6 [] [(32, .bool false)] ?_
    refine At.nx ?_
    refine Cd.cf ?_
    refine Cd.sr ?_
    refine At.ar 2 [] 52 (.bool (decide (((c0 : Nat) : Int) ≤ 77))) (.bool false) (congrArg _ (decide_eq_false (by omega))) ?_
    refine At.run 1 [] [(50, .bool false)] ?_
    refine At.nx ?_
    refine Cd.cf ?_
    refine Cd.sr ?_
    refine At.ar 2 [] 55 (.bool (decide (((c0 : Nat) : Int) ≥ 81))) (.bool true) (congrArg _ (decide_eq_true (by omega))) ?_
    refine At.run 2 [] [(56, .bool true), (57, .int .u8 ((c0 : Nat) : Int))] ?_
    refine At.ar 1 [] 58 (.bool (decide (((c0 : Nat) : Int) ≤ 96))) (.bool false) (congrArg _ (decide_eq_false (by omega))) ?_
    refine At.run 2 [] [(53, .bool false)] ?_
    refine At.nx ?_
    refine Cd.cf ?_
    refine Cd.sk ?_
    exact join_ofb (⟨(1, 0), (hs_big hc0 (by omega)).1, (hs_big hc0 (by omega)).2, by omega, by show 1 ≤ 3; decide, by show 0 < 70000; omega⟩) (fun _ S => S)
end Go.Proofs.Ytljcaegcbcikiaa
namespace Go.Proofs.Ytljcaegcbcikiaa
open Go.RowKit
theorem lenb_fit {n : Nat} (h : n ≤ 520) : (Sc.lenb n).length ≤ 520 ∧ ∀ y, y ∈ Sc.lenb n → y < 256 := by
  unfold Sc.lenb
  split
  · exact ⟨by simp, fun y hy => by cases hy⟩
  · split
    · exact ⟨by simp, fun y hy => by rw [List.mem_singleton.1 hy]; assumption⟩
    · refine ⟨by simp, fun y hy => ?_⟩
      rcases List.mem_cons.1 hy with rfl | hy
      · omega
      · rw [List.mem_singleton.1 hy]; omega
theorem truth_fit (b : Bool) : (Sc.truth b).length ≤ 520 ∧ ∀ y, y ∈ Sc.truth b → y < 256 := by
  cases b
  · exact ⟨by decide, fun y hy => by cases hy⟩
  · exact ⟨by decide, fun y hy => by rw [List.mem_singleton.1 hy]; decide⟩
theorem hsum_fit (x : List Nat) : (Sc.hsum x).length ≤ 520 ∧ ∀ y, y ∈ Sc.hsum x → y < 256 := ⟨by rw [hsum_len]; decide, sha_lt x⟩
theorem hshort_fit (x : List Nat) : (Sc.hshort x).length ≤ 520 ∧ ∀ y, y ∈ Sc.hshort x → y < 256 := ⟨by rw [hshort_len]; decide, fun y hy => sha_lt _ y (List.mem_of_mem_take hy)⟩
theorem fit_cons {x : List Nat} {st : List (List Nat)} (h1 : x.length ≤ 520 ∧ ∀ y, y ∈ x → y < 256) (h : Sc.Fit st) : Sc.Fit (x :: st) := fun z hz => by
  rcases List.mem_cons.1 hz with rfl | hz
  · exact h1
  · exact h z hz
theorem fit_tail {st : List (List Nat)} (h : Sc.Fit st) : Sc.Fit st.tail := fun z hz => h z (List.mem_of_mem_tail hz)
theorem fit_head {st : List (List Nat)} (h : Sc.Fit st) : (st.headD []).length ≤ 520 ∧ ∀ y, y ∈ st.headD [] → y < 256 := by
  cases st with
  | nil => exact ⟨by decide, fun y hy => by cases hy⟩
  | cons x r => exact h x (List.mem_cons_self ..)
theorem act_fit {sg : List Nat → List Nat → Bool} {c : Nat} {st st' : List (List Nat)} (h : Sc.act sg c st = .ok st') (hf : Sc.Fit st) : Sc.Fit st' := by
  have f1 := fit_tail hf; have f2 := fit_tail f1; have g1 := fit_head hf; have g2 := fit_head f1
  unfold Sc.act at h
  by_cases h105 : c = 105
  · rw [if_pos h105] at h
    split at h
    · cases h; exact f1
    · cases h
  rw [if_neg h105] at h
  by_cases h106 : c = 106
  · rw [if_pos h106] at h
    cases h
  rw [if_neg h106] at h
  by_cases h117 : c = 117
  · rw [if_pos h117] at h
    cases h; exact f1
  rw [if_neg h117] at h
  by_cases h109 : c = 109
  · rw [if_pos h109] at h
    cases h; exact f2
  rw [if_neg h109] at h
  by_cases h118 : c = 118
  · rw [if_pos h118] at h
    cases h; exact fit_cons g1 hf
  rw [if_neg h118] at h
  by_cases h120 : c = 120
  · rw [if_pos h120] at h
    cases h; exact fit_cons g2 hf
  rw [if_neg h120] at h
  by_cases h124 : c = 124
  · rw [if_pos h124] at h
    cases h; exact fit_cons g2 (fit_cons g1 f2)
  rw [if_neg h124] at h
  by_cases h130 : c = 130
  · rw [if_pos h130] at h
    cases h; exact fit_cons (lenb_fit g1.1) hf
  rw [if_neg h130] at h
  by_cases h168 : c = 168
  · rw [if_pos h168] at h
    cases h; exact fit_cons (hsum_fit _) f1
  rw [if_neg h168] at h
  by_cases h169 : c = 169
  · rw [if_pos h169] at h
    cases h; exact fit_cons (hshort_fit _) f1
  rw [if_neg h169] at h
  by_cases h135 : c = 135
  · rw [if_pos h135] at h
    cases h; exact fit_cons (truth_fit _) f2
  rw [if_neg h135] at h
  by_cases h136 : c = 136
  · rw [if_pos h136] at h
    split at h
    · cases h; exact f2
    · cases h
  rw [if_neg h136] at h
  by_cases h172 : c = 172
  · rw [if_pos h172] at h
    cases h; exact fit_cons (truth_fit _) f2
  rw [if_neg h172] at h
  by_cases h173 : c = 173
  · rw [if_pos h173] at h
    split at h
    · cases h; exact f2
    · cases h
  rw [if_neg h173] at h
  cases h; exact hf
theorem op_fit {sg : List Nat → List Nat → Bool} {c : Nat} {st st' : List (List Nat)} (h : Sc.op sg c st = .ok st') (hf : Sc.Fit st) : Sc.Fit st' := by
  unfold Sc.op at h
  split at h
  · cases h
  · split at h
    · cases h
    · exact act_fit h hf
theorem branch_fit {c : Nat} {s s' : Sc.St} (h : Sc.branch c s = .ok s') (hf : Sc.Fit s.stack) : Sc.Fit s'.stack ∧ s'.stack.length ≤ s.stack.length ∧ s'.ways.length ≤ s.ways.length + 1 := by
  unfold Sc.branch at h
  split at h
  · split at h
    · split at h
      · cases h
      · rename_i x r e
        cases h
        rw [e] at hf ⊢
        exact ⟨fit_tail hf, by simp, by simp⟩
    · cases h; exact ⟨hf, Nat.le_refl _, by simp⟩
  · split at h
    · cases h
    · rename_i b ws e
      cases h
      refine ⟨hf, Nat.le_refl _, ?_⟩
      rw [e]
      show (if c = 103 then (!b) :: ws else ws).length ≤ _
      split <;> simp <;> omega
/-- What a word leaves. -/
theorem word_fit {sg : List Nat → List Nat → Bool} {n n' c : Nat} {s s' : Sc.St} {d : List Nat} (h : Sc.word sg n s c d = .ok (n', s')) (hf : Sc.Fit s.stack) (hl : s.stack.length ≤ 100) (hw : s.ways.length ≤ n) (hn : n ≤ 100) (hd : ∀ y, y ∈ d → y < 256) : Sc.Fit s'.stack ∧ s'.stack.length ≤ 100 ∧ s'.ways.length ≤ n' ∧ n' ≤ 100 := by
  unfold Sc.word at h
  split at h
  · cases h
  · rename_i hA
    split at h
    · split at h
      · split at h
        · cases h
        · rename_i hS; cases h; exact ⟨fit_cons ⟨by omega, hd⟩ hf, by simp only [List.length_cons]; omega, hw, hn⟩
      · cases h; exact ⟨hf, hl, hw, hn⟩
    · split at h
      · cases h
      · rename_i hO
        split at h
        · split at h
          · cases h
          · rename_i s2 hb
            cases h
            obtain ⟨q1, q2, q3⟩ := branch_fit hb hf
            exact ⟨q1, by omega, by omega, by omega⟩
        · split at h
          · split at h
            · cases h
            · rename_i st ho
              split at h
              · cases h
              · rename_i hS
                cases h
                exact ⟨op_fit ho hf, by show st.length ≤ 100; omega, by show s.ways.length ≤ n + 1; omega, by omega⟩
          · cases h; exact ⟨hf, hl, by omega, by omega⟩
theorem word_err {sg : List Nat → List Nat → Bool} {n c q : Nat} {s : Sc.St} {d : List Nat} (h : Sc.word sg n s c d = .error q) : q = 71 ∨ q = 72 ∨ q = 73 ∨ q = 74 := by
  unfold Sc.word at h
  split at h
  · cases h; omega
  · split at h
    · split at h
      · split at h
        · cases h; omega
        · cases h
      · cases h
    · split at h
      · cases h; omega
      · split at h
        · split at h
          · rename_i e hb; cases h; have := branch_err hb; omega
          · cases h
        · split at h
          · split at h
            · rename_i e ho; cases h; have := op_err ho; omega
            · split at h
              · cases h; omega
              · cases h
          · cases h
theorem all_err {sg : List Nat → List Nat → Bool} {pu : Bool} : ∀ (k : Nat) {n q : Nat} {s : Sc.St} {b : List Nat}, Sc.allF sg pu k n s b = .error q → q = 71 ∨ q = 72 ∨ q = 73 ∨ q = 74
  | 0, n, q, s, b, h => by
    unfold Sc.allF at h
    split at h
    · cases h
    · cases h; omega
  | k + 1, n, q, s, b, h => by
    unfold Sc.allF at h
    split at h
    · split at h
      · cases h
      · cases h; omega
    · split at h
      · cases h; omega
      · split at h
        · cases h; omega
        · split at h
          · rename_i e hw; cases h; exact word_err hw
          · exact all_err k h
theorem all_step {sg : List Nat → List Nat → Bool} {pu : Bool} {n n' c u : Nat} {s s' : Sc.St} {bs d : List Nat} (h0 : bs ≠ []) (hn : nxt bs = some (c, d, u)) (hp : ¬ (pu = true ∧ Sc.pushes c = false)) (hw : Sc.word sg n s c d = .ok (n', s')) : Sc.all sg pu n s bs = Sc.all sg pu n' s' (bs.drop u) := by
  rw [Sc.all_cons sg pu n s bs h0, hn]
  dsimp only
  rw [if_neg hp, hw]
theorem all_stop {sg : List Nat → List Nat → Bool} {pu : Bool} {n c u q : Nat} {s : Sc.St} {bs d : List Nat} (h0 : bs ≠ []) (hn : nxt bs = some (c, d, u)) (hp : ¬ (pu = true ∧ Sc.pushes c = false)) (hw : Sc.word sg n s c d = .error q) : Sc.all sg pu n s bs = .error q := by
  rw [Sc.all_cons sg pu n s bs h0, hn]
  dsimp only
  rw [if_neg hp, hw]
theorem all_push {sg : List Nat → List Nat → Bool} {pu : Bool} {n c u : Nat} {s : Sc.St} {bs d : List Nat} (h0 : bs ≠ []) (hn : nxt bs = some (c, d, u)) (hp : pu = true ∧ Sc.pushes c = false) : Sc.all sg pu n s bs = .error 71 := by
  rw [Sc.all_cons sg pu n s bs h0, hn]
  dsimp only
  rw [if_pos hp]
theorem all_none {sg : List Nat → List Nat → Bool} {pu : Bool} {n : Nat} {s : Sc.St} {bs : List Nat} (h0 : bs ≠ []) (hn : nxt bs = none) : Sc.all sg pu n s bs = .error 71 := by
  rw [Sc.all_cons sg pu n s bs h0, hn]
theorem nxt_fit {b : List Nat} {c : Nat} {d : List Nat} {u : Nat} (h : nxt b = some (c, d, u)) (h8 : ∀ y, y ∈ b → y < 256) : c < 256 ∧ ∀ y, y ∈ d → y < 256 := by
  unfold nxt at h
  have h0 := nth_lt b h8 0
  split at h
  · cases h
  · split at h
    · cases h; exact ⟨h0, fun y hy => by rw [List.mem_singleton.1 hy]; omega⟩
    · split at h
      · cases h
      · cases h; exact ⟨h0, fun y hy => h8 y (List.mem_of_mem_drop (List.mem_of_mem_take hy))⟩
end Go.Proofs.Ytljcaegcbcikiaa
namespace Go.Proofs.Ytljcaegcbcikiaa
open Go.RowKit
structure AL where
  q : RL
  s : Sc.St
  n : Nat
  a : Option Addr
  m : Nat
  c : Nat
  bs : List Nat
def AL.Good (sg : List Nat → List Nat → Bool) (pu : Bool) (s0 : Sc.St) (bs0 : List Nat) (z : AL) : Prop := z.q.Good z.s ∧ Sc.Fit z.s.stack ∧ z.s.stack.length ≤ 100 ∧ z.s.ways.length ≤ z.n ∧ z.n ≤ 100 ∧ z.m = z.bs.length ∧ z.m ≤ z.c ∧ (∀ y, y ∈ z.bs → y < 256) ∧ z.bs.length ≤ 1000000 ∧ Sc.all sg pu z.n z.s z.bs = Sc.all sg pu 0 s0 bs0
def AlR (w : World) (L : List (Nat × Obj)) (X : List Xt) (g : Nat) (h : List Value) (res : Except Nat Sc.St) (e : Ending) (w' : World) : Prop := match res with
  | .error q => e = .returned (.int .i64 ((q : Nat) : Int)) ∧ Below w.heap.size w w'
  | .ok s => e = .returned (.int .i64 0) ∧ Sc.Fit s.stack ∧ s.stack.length ≤ 100 ∧ s.ways = [] ∧ ∃ n : Nat, RunS w L X g ((n : Nat) : Int) h s w'
theorem calls_next {w W : World} {L : List (Nat × Obj)} {X : List Xt} {v : Value} {bs d : List Nat} {c u : Nat} (S : Sx w L X W) (hn : nxt bs = some (c, d, u)) (hp : PieceV W W.heap.size v bs) (hcap : ∀ a n c, v = .slice a n c → n ≤ c) (hby : ∀ y, y ∈ bs → y < 256) (hlen : bs.length ≤ 1000000) : Calls Try.prog 22 #[v] W fun e w' => ∃ y : {y : Lt // y.n = d.length ∧ y.n ≤ y.c}, e = .returned (.tuple #[.int .u8 ((c : Nat) : Int), .slice y.1.a y.1.n y.1.c, .int .i64 ((u : Nat) : Int), .int .i64 0]) ∧ Sx w L (xps (fun b => (Value.slice y.1.a y.1.n y.1.c).ownBlock = some b) (.slice y.1.a y.1.n y.1.c) d :: X) w' :=
  (next_k v bs W hp hcap hby (by omega)).mono fun e w' h => by
    rcases h with ⟨h1, -⟩ | ⟨c', d', u', v', h1, he, hP⟩
    · rw [hn] at h1; cases h1
    · rw [hn] at h1; cases h1
      obtain ⟨a, k, rfl, hle⟩ := padr_slc hP
      exact ⟨⟨lt0 a d.length k, rfl, hle⟩, he, (S.gave hP).ownps⟩
theorem next_no {W : World} {v : Value} {bs : List Nat} (hn : nxt bs = none) (hp : PieceV W W.heap.size v bs) (hcap : ∀ a n c, v = .slice a n c → n ≤ c) (hby : ∀ y, y ∈ bs → y < 256) (hlen : bs.length ≤ 1000000) : Calls Try.prog 22 #[v] W fun e w' => e = .returned (.tuple #[.int .u8 0, .slice none 0 0, .int .i64 0, .int .i64 71]) ∧ Below W.heap.size W w' :=
  (next_k v bs W hp hcap hby (by omega)).mono fun e w' h => by
    rcases h with ⟨-, he, hb⟩ | ⟨c', d', u', v', h1, -⟩
    · exact ⟨he, hb⟩
    · rw [hn] at h1; cases h1
set_option maxHeartbeats 4000000 in
set_option maxRecDepth 100000 in
theorem all_c {w W : World} {L : List (Nat × Obj)} {X : List Xt} {g bn bc : Nat} {ba : Option Addr} {n0 : Int} {hc : Nat → Int} {s : Sc.St} {bs0 : List Nat} {pu : Bool} (hc8 : Bytes8 hc) (hwy : s.ways = []) (hst : s.stack.length ≤ 100) (hfit : Sc.Fit s.stack) (hg : w.heap.size ≤ g) (hbn : bn = bs0.length) (hbc : bn ≤ bc) (hb8 : ∀ y, y ∈ bs0 → y < 256) (hbl : bs0.length ≤ 1000000) (H : RunS w L (xpc w.heap.size (.slice ba bn bc) bs0 :: X) g n0 (row32 hc).toList s W) : Calls Try.prog 12 #[pt g, .slice ba bn bc, .bool pu] W (AlR w L X g (row32 hc).toList (Sc.all (sgv hc) pu 0 s bs0)) := by
 obtain ⟨Y, hY, S0, cs, Sp, h1, h2, h3, S⟩ := H
 refine enterW 50 (fun q => .seq (q 0) (.seq (q 1) (.seq (.block 0 (.loop (.seq (.seq (q 2) (.cond (.tmp 17) .skip (.exit 0))) (.block 1 (.seq (q 3) (.seq (.seq (q 4) (.cond (.tmp 26) (.seq (q 5) .ret) .skip)) (.seq (.seq (q 6) (.cond (.tmp 33) (.seq (q 7) .ret) .skip)) (.seq (.seq (q 8) (.seq (q 9) (.cond (.tmp 39) (.seq (q 10) .ret) .skip))) (q 11))))))))) (.seq (.seq (q 12) (.cond (.tmp 49) (.seq (q 13) .ret) .skip)) (.seq (q 14) .ret))))) S Try.func12 ?_
 refine Cd.sr ?_
 refine At.run 1 [] [] ?_
 refine At.nx ?_
 refine Cd.sr ?_
 refine At.st 3 [] 0 (rcl S0.sl Y.sl 0 (row32 hc).toList) hg ?_
 refine At.nx ?_
 refine Cd.seq ?_
 refine Cd.blk ?_
 refine Cd.loop (ι := {z : AL // z.Good (sgv hc) pu s bs0}) (fun z => z.1.bs.length) (fun z => [(0, pt g), (1, .slice z.1.a z.1.m z.1.c), (2, .bool pu)]) (fun z => ((g, .cells (rcl z.1.q.S.sl z.1.q.Y.sl ((z.1.n : Nat) : Int) (row32 hc).toList) 45 (0, 0)) :: L)) (fun z => (xog 26 w z.1.q.S.sl z.1.q.cs :: xpl z.1.q.Sp z.1.q.cs z.1.s.stack.reverse :: xog 4 w z.1.q.Y.sl (z.1.s.ways.reverse.map fun b => Value.bool b) :: xpc w.heap.size (.slice z.1.a z.1.m z.1.c) z.1.bs :: X)) (⟨⟨⟨S0, Y, cs, Sp⟩, s, 0, ba, bn, bc, bs0⟩, ⟨h1, h2, h3, hY⟩, hfit, hst, by rw [hwy]; exact Nat.le_refl _, Nat.zero_le _, hbn, hbc, hb8, hbl, rfl⟩) (fun _ S => S) (fun z => ?_) 
 obtain ⟨⟨q, s', n, a, m, k, bs⟩, hq, hf, hl, hw, hnn, hm, hmk, h8, hlen, hal⟩ := z
 dsimp only at hq hf hl hw hnn hm hmk h8 hlen hal
 next =>
  refine Cd.seq ?_
  refine Cd.sr ?_
  refine At.run 3 [] [(17, .bool (decide (((m : Nat) : Int) > 0)))] ?_
  refine At.nx ?_
  rcases Bool.eq_false_or_eq_true (decide (((m : Nat) : Int) > 0)) with hb | hb
  next =>
   refine Cd.eqv 17 (.bool (decide (((m : Nat) : Int) > 0))) (.bool true) (congrArg _ hb) ?_
   refine Cd.ct ?_
   refine Cd.sk ?_
   show Cd _ _ _ _ _ _ _ _
   refine Cd.blk ?_
   refine Cd.sr ?_
   have hm0 : 0 < m := nat_yes hb
   have hne : bs ≠ [] := fun e => by rw [e] at hm; simp at hm; omega
   cases hn : nxt bs with
   | none =>
    refine At.call 1 [] 20 (fun W S => next_no hn (S.pc 3 rfl) (capof hmk) h8 hlen) ?_
    refine At.run 9 [] [(7, .int .u8 0), (8, .slice none 0 0), (9, .int .i64 0), (10, .int .i64 71)] ?_
    refine At.nx ?_
    refine Cd.seq ?_
    refine Cd.sr ?_
    refine At.run 2 [] [(26, .bool true)] ?_
    refine At.nx ?_
    refine Cd.ct ?_
    refine Cd.sr ?_
    refine At.run 2 [] [(6, .int .i64 71)] ?_
    refine At.nx ?_
    exact Cd.rv (rt (rb (rt (rb (rt r0))))) [] (.int .i64 71) fun W S => (by rw [← hal, all_none hne hn]; exact ⟨rfl, S.below⟩)
   | some p =>
    obtain ⟨c, d, u⟩ := p
    have hnf := nxt_fit hn h8
    have hnl := nxt_le hn
    refine At.callX 1 [] 20 (fun W S => calls_next S hn (S.pc 3 rfl) (capof hmk) h8 hlen) fun ⟨y1, hy1, hy1'⟩ => ?_
    refine At.run 9 [] [(7, .int .u8 ((c : Nat) : Int)), (8, .slice y1.a y1.n y1.c), (9, .int .i64 ((u : Nat) : Int)), (10, .int .i64 0)] ?_
    refine At.nx ?_
    refine Cd.seq ?_
    refine Cd.sr ?_
    refine At.run 2 [] [(26, .bool false)] ?_
    refine At.nx ?_
    refine Cd.cf ?_
    refine Cd.sk ?_
    show Cd _ _ _ _ _ _ _ _
    refine Cd.seq ?_
    refine Cd.sr ?_
    refine At.run 2 [] [(29, .bool pu)] ?_
    rcases Bool.eq_false_or_eq_true pu with hb1 | hb1
    next =>
     refine At.eqv 29 (.bool pu) (.bool true) (congrArg _ hb1) ?_
     refine At.call 1 [] 31 (fun W S => spush_c c W) ?_
     rcases Bool.eq_false_or_eq_true (Sc.pushes c) with hb2 | hb2
     next =>
      refine At.eqv 31 (.bool (Sc.pushes c)) (.bool true) (congrArg _ hb2) ?_
      refine At.run 2 [] [(33, .bool false)] ?_
      refine At.nx ?_
      refine Cd.cf ?_
      refine Cd.sk ?_
      show Cd _ _ _ _ _ _ _ _
      refine Cd.seq ?_
      refine Cd.sr ?_
      refine At.run 3 [] [(34, pt g), (35, .int .u8 ((c : Nat) : Int)), (36, .slice y1.a y1.n y1.c)] ?_
      have hnp : ¬ (pu = true ∧ Sc.pushes c = false) := fun e => by rw [hb2] at e; cases e.2
      cases hwd : Sc.word (sgv hc) n s' c d with
      | error q9 =>
       refine At.callX 0 [] 37 (fun W S => calls_b ((word_c (n := n) (c := c) (d := d) (s := s') hc8 (by omega) hl hf (by omega) hg hy1 hy1' (run_of (S := q.S) (Y := q.Y) (s := s') (cs := q.cs) (pss := s'.stack.reverse) ((((S.fX 0 rfl).fX 3 rfl).fX 3 rfl).fX 3 rfl) rfl rfl hq.2.2.1 (by rw [List.length_reverse]; exact hq.2.1))).mono fun _ _ q => by rw [hwd] at q; exact q)) fun _ => ?_
       refine At.run 1 [] [(11, .int .i64 ((q9 : Nat) : Int))] ?_
       refine At.nx ?_
       refine Cd.sr ?_
       refine At.ar 2 [] 39 (.bool (((q9 : Nat) : Int) != 0)) (.bool true) (congrArg _ (by rcases word_err hwd with e | e | e | e <;> rw [e] <;> rfl)) ?_
       refine At.nx ?_
       refine Cd.ct ?_
       refine Cd.sr ?_
       refine At.run 2 [] [(6, .int .i64 ((q9 : Nat) : Int))] ?_
       refine At.nx ?_
       exact Cd.rv (rt (rb (rt (rb (rt r0))))) [] (.int .i64 ((q9 : Nat) : Int)) fun W S => (by rw [← hal, all_stop hne hn hnp hwd]; exact ⟨rfl, S.below⟩)
      | ok p9 =>
       obtain ⟨n2, s2⟩ := p9
       have wf := word_fit hwd hf hl hw hnn hnf.2
       refine At.callX 0 [] 37 (fun W S => calls_run ((word_c (n := n) (c := c) (d := d) (s := s') hc8 (by omega) hl hf (by omega) hg hy1 hy1' (run_of (S := q.S) (Y := q.Y) (s := s') (cs := q.cs) (pss := s'.stack.reverse) ((((S.fX 0 rfl).fX 3 rfl).fX 3 rfl).fX 3 rfl) rfl rfl hq.2.2.1 (by rw [List.length_reverse]; exact hq.2.1))).mono fun _ _ q => by rw [hwd] at q; exact q)) fun q2 => ?_
       refine At.run 1 [] [(11, .int .i64 0)] ?_
       refine At.nx ?_
       refine Cd.sr ?_
       refine At.run 2 [] [(39, .bool false)] ?_
       refine At.nx ?_
       refine Cd.cf ?_
       refine Cd.sk ?_
       show Cd _ _ _ _ _ _ _ _
       refine Cd.rg ?_
       refine At.cutl 2 [] 43 3 (lo := u) rfl hm hnl.2.1 (hm ▸ hmk) fun y3 hy3 hy4 => ?_
       refine At.run 1 [] [(1, y3.sl)] ?_
       refine At.fin ?_
       exact again_o (⟨⟨q2.1, s2, n2, y3.a, y3.n, y3.c, bs.drop u⟩, q2.2, wf.1, wf.2.1, wf.2.2.1, wf.2.2.2, by show y3.n = (bs.drop u).length; rw [hy3, List.length_drop], by show y3.n ≤ y3.c; have e1 : y3.n = bs.length - u := hy3; have e2 : y3.c = k - u := hy4; omega, fun y hy => h8 y (List.mem_of_mem_drop hy), by show (bs.drop u).length ≤ 1000000; rw [List.length_drop]; omega, by rw [← all_step hne hn hnp hwd]; exact hal⟩) (by show (bs.drop u).length < bs.length; rw [List.length_drop]; have := nxt_le hn; omega) (fun _ S => (((((S.dX 4 rfl).fX 0 rfl).fX 3 rfl).fX 3 rfl).fX 3 rfl))
     next =>
      refine At.eqv 31 (.bool (Sc.pushes c)) (.bool false) (congrArg _ hb2) ?_
      refine At.run 2 [] [(33, .bool true)] ?_
      refine At.nx ?_
      refine Cd.ct ?_
      refine Cd.sr ?_
      refine At.run 1 [] [(6, .int .i64 71)] ?_
      refine At.nx ?_
      exact Cd.rv (rt (rb (rt (rb (rt r0))))) [] (.int .i64 71) fun W S => (by rw [← hal, all_push hne hn ⟨hb1, hb2⟩]; exact ⟨rfl, S.below⟩)
    next =>
     refine At.eqv 29 (.bool pu) (.bool false) (congrArg _ hb1) ?_
     refine At.run 4 [] [(33, .bool false)] ?_
     refine At.nx ?_
     refine Cd.cf ?_
     refine Cd.sk ?_
     show Cd _ _ _ _ _ _ _ _
     refine Cd.seq ?_
     refine Cd.sr ?_
     refine At.run 3 [] [(34, pt g), (35, .int .u8 ((c : Nat) : Int)), (36, .slice y1.a y1.n y1.c)] ?_
     have hnp : ¬ (pu = true ∧ Sc.pushes c = false) := fun e => by rw [hb1] at e; cases e.1
     cases hwd : Sc.word (sgv hc) n s' c d with
     | error q9 =>
      refine At.callX 0 [] 37 (fun W S => calls_b ((word_c (n := n) (c := c) (d := d) (s := s') hc8 (by omega) hl hf (by omega) hg hy1 hy1' (run_of (S := q.S) (Y := q.Y) (s := s') (cs := q.cs) (pss := s'.stack.reverse) ((((S.fX 0 rfl).fX 3 rfl).fX 3 rfl).fX 3 rfl) rfl rfl hq.2.2.1 (by rw [List.length_reverse]; exact hq.2.1))).mono fun _ _ q => by rw [hwd] at q; exact q)) fun _ => ?_
      refine At.run 1 [] [(11, .int .i64 ((q9 : Nat) : Int))] ?_
      refine At.nx ?_
      refine Cd.sr ?_
      refine At.ar 2 [] 39 (.bool (((q9 : Nat) : Int) != 0)) (.bool true) (congrArg _ (by rcases word_err hwd with e | e | e | e <;> rw [e] <;> rfl)) ?_
      refine At.nx ?_
      refine Cd.ct ?_
      refine Cd.sr ?_
      refine At.run 2 [] [(6, .int .i64 ((q9 : Nat) : Int))] ?_
      refine At.nx ?_
      exact Cd.rv (rt (rb (rt (rb (rt r0))))) [] (.int .i64 ((q9 : Nat) : Int)) fun W S => (by rw [← hal, all_stop hne hn hnp hwd]; exact ⟨rfl, S.below⟩)
     | ok p9 =>
      obtain ⟨n2, s2⟩ := p9
      have wf := word_fit hwd hf hl hw hnn hnf.2
      refine At.callX 0 [] 37 (fun W S => calls_run ((word_c (n := n) (c := c) (d := d) (s := s') hc8 (by omega) hl hf (by omega) hg hy1 hy1' (run_of (S := q.S) (Y := q.Y) (s := s') (cs := q.cs) (pss := s'.stack.reverse) ((((S.fX 0 rfl).fX 3 rfl).fX 3 rfl).fX 3 rfl) rfl rfl hq.2.2.1 (by rw [List.length_reverse]; exact hq.2.1))).mono fun _ _ q => by rw [hwd] at q; exact q)) fun q2 => ?_
      refine At.run 1 [] [(11, .int .i64 0)] ?_
      refine At.nx ?_
      refine Cd.sr ?_
      refine At.run 2 [] [(39, .bool false)] ?_
      refine At.nx ?_
      refine Cd.cf ?_
      refine Cd.sk ?_
      show Cd _ _ _ _ _ _ _ _
      refine Cd.rg ?_
      refine At.cutl 2 [] 43 3 (lo := u) rfl hm hnl.2.1 (hm ▸ hmk) fun y3 hy3 hy4 => ?_
      refine At.run 1 [] [(1, y3.sl)] ?_
      refine At.fin ?_
      exact again_o (⟨⟨q2.1, s2, n2, y3.a, y3.n, y3.c, bs.drop u⟩, q2.2, wf.1, wf.2.1, wf.2.2.1, wf.2.2.2, by show y3.n = (bs.drop u).length; rw [hy3, List.length_drop], by show y3.n ≤ y3.c; have e1 : y3.n = bs.length - u := hy3; have e2 : y3.c = k - u := hy4; omega, fun y hy => h8 y (List.mem_of_mem_drop hy), by show (bs.drop u).length ≤ 1000000; rw [List.length_drop]; omega, by rw [← all_step hne hn hnp hwd]; exact hal⟩) (by show (bs.drop u).length < bs.length; rw [List.length_drop]; have := nxt_le hn; omega) (fun _ S => (((((S.dX 4 rfl).fX 0 rfl).fX 3 rfl).fX 3 rfl).fX 3 rfl))
  next =>
   refine Cd.eqv 17 (.bool (decide (((m : Nat) : Int) > 0))) (.bool false) (congrArg _ hb) ?_
   refine Cd.cf ?_
   refine Cd.ex ?_
   show Cd _ _ _ _ _ _ _ _
   refine Cd.seq ?_
   refine Cd.sr ?_
   have hbe : bs = [] := List.length_eq_zero_iff.1 (hm.symm.trans (nat_no hb))
   subst hbe
   by_cases hww : s'.ways = []
   next =>
    refine At.ar 6 [] 49 (.bool (decide (((q.Y.n : Nat) : Int) > 0))) (.bool false) (congrArg _ (by rw [hq.2.2.2, hww]; rfl)) ?_
    refine At.nx ?_
    refine Cd.cf ?_
    refine Cd.sk ?_
    show Cd _ _ _ _ _ _ _ _
    refine Cd.sr ?_
    refine At.run 1 [] [(6, .int .i64 0)] ?_
    refine At.nx ?_
    exact Cd.rv r0 [] (.int .i64 0) fun W S => (by rw [← hal, Sc.all_nil, if_pos hww]; exact ⟨rfl, hf, hl, hww, n, run_of (S := q.S) (Y := q.Y) (s := s') (cs := q.cs) (pss := s'.stack.reverse) ((((S.dX 3 rfl).fX 2 rfl).fX 2 rfl).fX 2 rfl) rfl rfl hq.2.2.1 (by rw [List.length_reverse]; exact hq.2.1)⟩)
   next =>
    refine At.ar 6 [] 49 (.bool (decide (((q.Y.n : Nat) : Int) > 0))) (.bool true) (congrArg _ (decide_eq_true (by have e := hq.2.2.2; have e2 := List.length_pos_iff.2 hww; omega))) ?_
    refine At.nx ?_
    refine Cd.ct ?_
    refine Cd.sr ?_
    refine At.run 1 [] [(6, .int .i64 71)] ?_
    refine At.nx ?_
    exact Cd.rv (rt r0) [] (.int .i64 71) fun W S => (by rw [← hal, Sc.all_nil, if_neg hww]; exact ⟨rfl, S.below⟩)
end Go.Proofs.Ytljcaegcbcikiaa
namespace Go.Proofs.Ytljcaegcbcikiaa
open Go.RowKit
section
variable {sg : List Nat → List Nat → Bool} {us ls : List Nat} {q : Nat} {s s' : Sc.St} {x : List Nat} {r : List (List Nat)}
theorem run_big (h : 2000 < us.length ∨ 2000 < ls.length) : Sc.run sg us ls = 73 := if_pos h
theorem run_e1 (h : ¬ (2000 < us.length ∨ 2000 < ls.length)) (h1 : Sc.all sg true 0 ⟨[], []⟩ us = .error q) : Sc.run sg us ls = q := by unfold Sc.run; rw [if_neg h, h1]
theorem run_e2 (h : ¬ (2000 < us.length ∨ 2000 < ls.length)) (h1 : Sc.all sg true 0 ⟨[], []⟩ us = .ok s) (h2 : Sc.all sg false 0 s ls = .error q) : Sc.run sg us ls = q := by unfold Sc.run; rw [if_neg h, h1]; dsimp only; rw [h2]
theorem run_0 (h : ¬ (2000 < us.length ∨ 2000 < ls.length)) (h1 : Sc.all sg true 0 ⟨[], []⟩ us = .ok s) (h2 : Sc.all sg false 0 s ls = .ok s') (h3 : s'.stack = []) : Sc.run sg us ls = 74 := by unfold Sc.run; rw [if_neg h, h1]; dsimp only; rw [h2]; dsimp only; rw [h3]
theorem run_x (h : ¬ (2000 < us.length ∨ 2000 < ls.length)) (h1 : Sc.all sg true 0 ⟨[], []⟩ us = .ok s) (h2 : Sc.all sg false 0 s ls = .ok s') (h3 : s'.stack = x :: r) : Sc.run sg us ls = if Sc.tr x = true then 0 else 74 := by unfold Sc.run; rw [if_neg h, h1]; dsimp only; rw [h2]; dsimp only; rw [h3]
end
theorem calls_al {w W : World} {L : List (Nat × Obj)} {X : List Xt} {g : Nat} {h : List Value} {s : Sc.St} {fid : FuncId} {vs : Array Value} (h1 : Calls Try.prog fid vs W (AlR w L X g h (.ok s))) : Calls Try.prog fid vs W fun e w' => ∃ z : {z : RL × Nat // z.1.Good s ∧ Sc.Fit s.stack ∧ s.stack.length ≤ 100 ∧ s.ways = []}, e = .returned (.int .i64 0) ∧ Sx w ((g, .cells (rcl z.1.1.S.sl z.1.1.Y.sl ((z.1.2 : Nat) : Int) h) 45 (0, 0)) :: L) (xog 26 w z.1.1.S.sl z.1.1.cs :: xpl z.1.1.Sp z.1.1.cs s.stack.reverse :: xog 4 w z.1.1.Y.sl (s.ways.reverse.map fun b => Value.bool b) :: X) w' :=
  h1.mono fun e w' ⟨he, hf, hl, hw, n, Y, hY, S, cs, Sp, h2, h3, h4, hS⟩ => ⟨⟨(⟨S, Y, cs, Sp⟩, n), ⟨h2, h3, h4, hY⟩, hf, hl, hw⟩, he, hS⟩
theorem fit_nil : Sc.Fit [] := fun _ h => by cases h
theorem top_of {W : World} {S : Lt} {cs : List Value} {k : Nat} (h : RestG 26 W S.sl cs) (hl : cs.length = k + 1) (hs : ∀ u, u ∈ cs → Slc u) : ∃ (b o c : Nat) (va : Option Addr) (vn vc : Nat) (cs' : List Value), S.sl = .slice (some ⟨b, o, none⟩) (cs'.length + 1) c ∧ cs = cs' ++ [.slice va vn vc] ∧ cs'.length = k := by
  obtain ⟨cs', u, rfl, hk⟩ := snoc_of hl
  obtain ⟨va, vn, vc, rfl, -⟩ := hs u (List.mem_append_right _ (List.mem_singleton_self _))
  obtain ⟨b, o, e1⟩ := h.based (by rw [hl]; omega)
  have e2 := h.caple.2
  rw [hl] at e2
  exact ⟨b, o, S.c, va, vn, vc, cs', by unfold Lt.sl; rw [e1, e2, hk], rfl, hk⟩
theorem sure_e {w W : World} {L : List (Nat × Obj)} {X : List Xt} {g vn vc : Nat} {va : Option Addr} {S0 : Lt} {Sp : Nat → Prop} {cs cs0 : List Value} {pss ps : List (List Nat)} {x : List Nat} {v : Value} {n : Int} {h : List Value} (hl : cs.length = pss.length) (hb : cs.length < 1000000) (hx : x.length ≤ 1000000000) (hg : w.heap.size ≤ g) (e2 : cs0 = cs ++ [.slice va vn vc]) (e3 : ps = pss ++ [x]) (S : Sx w ((g, .cells (rcl S0.sl v n h) 45 (0, 0)) :: L) (xog 26 w S0.sl cs0 :: xpl Sp cs0 ps :: X) W) : Calls Try.prog 14 #[pt g] W fun e w' => ∃ y : Lt, e = .returned (.int .i64 (if Sc.tr x = true then 0 else 74)) ∧ Sx w ((g, .cells (rcl y.sl v n h) 45 (0, 0)) :: L) (xog 26 w y.sl cs :: xpl Sp cs pss :: X) w' := by
  subst e2 e3
  exact sure_s hl hb hx hg S
theorem calls_sr {w W : World} {v : Value} {fid : FuncId} {vs : Array Value} {L' : Lt → List (Nat × Obj)} {X' : Lt → List Xt} (h : Calls Try.prog fid vs W fun e w' => ∃ y : Lt, e = .returned v ∧ Sx w (L' y) (X' y) w') : Calls Try.prog fid vs W fun e w' => ∃ _ : Unit, e = .returned v ∧ Sx w [] [] w' :=
  calls_b (h.mono fun e w' ⟨y, he, hS⟩ => ⟨he, hS.below⟩)
set_option maxHeartbeats 4000000 in
set_option maxRecDepth 100000 in
theorem srun_c {ua la : Option Addr} {uc lc : Nat} {us ls : List Nat} {hc : Nat → Int} (hc8 : Bytes8 hc) (huc : us.length ≤ uc) (hlc : ls.length ≤ lc) (hu8 : ∀ y, y ∈ us → y < 256) (hl8 : ∀ y, y ∈ ls → y < 256) (w : World) (hp : PieceV w w.heap.size (.slice ua us.length uc) us) (hq : PieceV w w.heap.size (.slice la ls.length lc) ls) : Calls Try.prog 6 #[.slice ua us.length uc, .slice la ls.length lc, .agg (row32 hc)] w fun e w' => e = .returned (.int .i64 ((Sc.run (sgv hc) us ls : Nat) : Int)) ∧ Below w.heap.size w w' := by
 have S0 := Sx.ofpcz hp hq
 refine enterQ 38 (fun q => .seq (q 0) (.seq (.seq (q 1) (.cond (.tmp 17) (.seq (q 2) .ret) .skip)) (.seq (q 3) (.seq (.seq (q 4) (.seq (q 5) (.cond (.tmp 25) (.seq (q 6) .ret) .skip))) (.seq (.seq (q 7) (.seq (q 8) (.cond (.tmp 31) (.seq (q 9) .ret) .skip))) (.seq (.seq (q 10) (.cond (.tmp 35) (.seq (q 11) .ret) .skip)) (.seq (q 12) .ret))))))) S0 Try.func6 ?_
 refine Cd.sr ?_
 refine At.new 0 [] 5 ((row32 hc)) 33 fun g5 h5 => ?_
 refine At.run 1 [] [] ?_
 refine At.nx ?_
 refine Cd.seq ?_
 refine Cd.sr ?_
 refine At.run 4 [] [(13, .bool (decide (((us.length : Nat) : Int) > 2000)))] ?_
 rcases Bool.eq_false_or_eq_true (decide (((us.length : Nat) : Int) > 2000)) with hb | hb
 next =>
  refine At.eqv 13 (.bool (decide (((us.length : Nat) : Int) > 2000))) (.bool true) (congrArg _ hb) ?_
  refine At.run 4 [] [(17, .bool true)] ?_
  refine At.nx ?_
  refine Cd.ct ?_
  refine Cd.sr ?_
  refine At.run 1 [] [(6, .int .i64 73)] ?_
  refine At.nx ?_
  exact Cd.rv (rt r0) [] (.int .i64 73) fun W S => ⟨by rw [run_big (by have q := of_decide_eq_true hb; omega)]; rfl, S.below⟩
 next =>
  refine At.eqv 13 (.bool (decide (((us.length : Nat) : Int) > 2000))) (.bool false) (congrArg _ hb) ?_
  refine At.run 4 [] [(17, .bool (decide (((ls.length : Nat) : Int) > 2000)))] ?_
  refine At.nx ?_
  rcases Bool.eq_false_or_eq_true (decide (((ls.length : Nat) : Int) > 2000)) with hb1 | hb1
  next =>
   refine Cd.eqv 17 (.bool (decide (((ls.length : Nat) : Int) > 2000))) (.bool true) (congrArg _ hb1) ?_
   refine Cd.ct ?_
   refine Cd.sr ?_
   refine At.run 1 [] [(6, .int .i64 73)] ?_
   refine At.nx ?_
   exact Cd.rv (rt r0) [] (.int .i64 73) fun W S => ⟨by rw [run_big (by have q := of_decide_eq_true hb1; omega)]; rfl, S.below⟩
  next =>
   refine Cd.eqv 17 (.bool (decide (((ls.length : Nat) : Int) > 2000))) (.bool false) (congrArg _ hb1) ?_
   refine Cd.cf ?_
   refine Cd.sk ?_
   show Cd _ _ _ _ _ _ _ _
   refine Cd.sr ?_
   refine At.new 2 [] 20 (rcl (.slice none 0 0) (.slice none 0 0) 0 (row32 hc).toList) 45 fun g20 h20 => ?_
   refine At.run 1 [] [(7, pt g20)] ?_
   refine At.nx ?_
   refine Cd.seq ?_
   refine Cd.sr ?_
   have hul : us.length ≤ 2000 ∧ ls.length ≤ 2000 := by have q0 := of_decide_eq_false hb; have q1 := of_decide_eq_false hb1; omega
   refine At.as (fun _ S => (((S.nilog 4).nilpl).nilog 26).fL 0 rfl) ?_
   cases h1 : Sc.all (sgv hc) true 0 ⟨[], []⟩ us with
   | error q =>
    refine At.callX 2 [] 23 (fun W S => calls_b ((all_c hc8 rfl (by decide) fit_nil h20 rfl huc hu8 (by omega) (run_of (S := lt0 none 0 0) (Y := lt0 none 0 0) (s := ⟨[], []⟩) (cs := []) (pss := []) (((((S.fX 3 rfl).fX 3 rfl).fX 3 rfl).fX 3 rfl).fL 0 rfl) rfl rfl (fun _ h => by cases h) rfl)).mono fun _ _ q => by rw [h1] at q; exact q)) fun _ => ?_
    refine At.run 1 [] [(8, .int .i64 ((q : Nat) : Int))] ?_
    refine At.nx ?_
    refine Cd.sr ?_
    refine At.ar 2 [] 25 (.bool (((q : Nat) : Int) != 0)) (.bool true) (congrArg _ (by rcases all_err _ h1 with e | e | e | e <;> rw [e] <;> rfl)) ?_
    refine At.nx ?_
    refine Cd.ct ?_
    refine Cd.sr ?_
    refine At.run 2 [] [(6, .int .i64 ((q : Nat) : Int))] ?_
    refine At.nx ?_
    exact Cd.rv (rt r0) [] (.int .i64 ((q : Nat) : Int)) fun W S => ⟨by rw [run_e1 (fun h => by have q0 := of_decide_eq_false hb; have q1 := of_decide_eq_false hb1; omega) h1], S.below⟩
   | ok s1 =>
    refine At.callX 2 [] 23 (fun W S => calls_al ((all_c hc8 rfl (by decide) fit_nil h20 rfl huc hu8 (by omega) (run_of (S := lt0 none 0 0) (Y := lt0 none 0 0) (s := ⟨[], []⟩) (cs := []) (pss := []) (((((S.fX 3 rfl).fX 3 rfl).fX 3 rfl).fX 3 rfl).fL 0 rfl) rfl rfl (fun _ h => by cases h) rfl)).mono fun _ _ q => by rw [h1] at q; exact q)) fun z1 => ?_
    refine At.run 1 [] [(8, .int .i64 0)] ?_
    refine At.nx ?_
    refine Cd.sr ?_
    refine At.run 2 [] [(25, .bool false)] ?_
    refine At.nx ?_
    refine Cd.cf ?_
    refine Cd.sk ?_
    show Cd _ _ _ _ _ _ _ _
    refine Cd.seq ?_
    refine Cd.sr ?_
    cases h2 : Sc.all (sgv hc) false 0 s1 ls with
    | error q =>
     refine At.callX 2 [] 29 (fun W S => calls_b ((all_c hc8 z1.2.2.2.2 z1.2.2.2.1 z1.2.2.1 h20 rfl hlc hl8 (by omega) (run_of (S := z1.1.1.S) (Y := z1.1.1.Y) (s := s1) (cs := z1.1.1.cs) (pss := s1.stack.reverse) (((((S.fX 3 rfl).fX 3 rfl).fX 3 rfl).fX 3 rfl).fL 0 rfl) rfl rfl z1.2.1.2.2.1 (by rw [List.length_reverse]; exact z1.2.1.2.1))).mono fun _ _ q => by rw [h2] at q; exact q)) fun _ => ?_
     refine At.run 1 [] [(9, .int .i64 ((q : Nat) : Int))] ?_
     refine At.nx ?_
     refine Cd.sr ?_
     refine At.ar 2 [] 31 (.bool (((q : Nat) : Int) != 0)) (.bool true) (congrArg _ (by rcases all_err _ h2 with e | e | e | e <;> rw [e] <;> rfl)) ?_
     refine At.nx ?_
     refine Cd.ct ?_
     refine Cd.sr ?_
     refine At.run 2 [] [(6, .int .i64 ((q : Nat) : Int))] ?_
     refine At.nx ?_
     exact Cd.rv (rt r0) [] (.int .i64 ((q : Nat) : Int)) fun W S => ⟨by rw [run_e2 (fun h => by have q0 := of_decide_eq_false hb; have q1 := of_decide_eq_false hb1; omega) h1 h2], S.below⟩
    | ok s2 =>
     refine At.callX 2 [] 29 (fun W S => calls_al ((all_c hc8 z1.2.2.2.2 z1.2.2.2.1 z1.2.2.1 h20 rfl hlc hl8 (by omega) (run_of (S := z1.1.1.S) (Y := z1.1.1.Y) (s := s1) (cs := z1.1.1.cs) (pss := s1.stack.reverse) (((((S.fX 3 rfl).fX 3 rfl).fX 3 rfl).fX 3 rfl).fL 0 rfl) rfl rfl z1.2.1.2.2.1 (by rw [List.length_reverse]; exact z1.2.1.2.1))).mono fun _ _ q => by rw [h2] at q; exact q)) fun z2 => ?_
     refine At.run 1 [] [(9, .int .i64 0)] ?_
     refine At.nx ?_
     refine Cd.sr ?_
     refine At.run 2 [] [(31, .bool false)] ?_
     refine At.nx ?_
     refine Cd.cf ?_
     refine Cd.sk ?_
     show Cd _ _ _ _ _ _ _ _
     refine Cd.seq ?_
     refine Cd.sr ?_
     obtain ⟨t2, h3⟩ : ∃ t2, s2.stack = t2 := ⟨_, rfl⟩
     cases t2 with
     | nil =>
      refine At.call 1 [] 34 (fun W S => need_f (m := 1) (by rw [z2.2.1.1, h3]; decide) W (S.at 0 rfl)) ?_
      refine At.run 1 [] [(35, .bool true)] ?_
      refine At.nx ?_
      refine Cd.ct ?_
      refine Cd.sr ?_
      refine At.run 1 [] [(6, .int .i64 74)] ?_
      refine At.nx ?_
      exact Cd.rv (rt r0) [] (.int .i64 74) fun W S => ⟨by rw [run_0 (fun h => by have q0 := of_decide_eq_false hb; have q1 := of_decide_eq_false hb1; omega) h1 h2 h3]; rfl, S.below⟩
     | cons x r =>
      have hx := z2.2.2.1 x (by rw [h3]; exact List.mem_cons_self ..)
      have hr : r.length < 100000 := by have := z2.2.2.2.1; rw [h3, List.length_cons] at this; omega
      refine At.call 1 [] 34 (fun W S => need_t (m := 1) (by rw [z2.2.1.1, h3]; simp) W (S.at 0 rfl)) ?_
      refine At.run 1 [] [(35, .bool false)] ?_
      refine At.nx ?_
      refine Cd.cf ?_
      refine Cd.sk ?_
      show Cd _ _ _ _ _ _ _ _
      refine Cd.sr ?_
      refine At.fact (p := ∃ (b o c : Nat) (va : Option Addr) (vn vc : Nat) (cs : List Value), z2.1.1.S.sl = .slice (some ⟨b, o, none⟩) (cs.length + 1) c ∧ z2.1.1.cs = cs ++ [.slice va vn vc] ∧ cs.length = r.length) (fun W S => top_of (S.og 0 rfl) (z2.2.1.2.1.trans (by rw [h3]; rfl)) z2.2.1.2.2.1) (fun ⟨b, o, c, va, vn, vc, cs, e1, e2, e3⟩ => ?_)
      refine At.callX 1 [] 37 (fun W S => calls_sr (sure_e (S0 := z2.1.1.S) (cs := cs) (pss := r.reverse) (x := x) (va := va) (vn := vn) (vc := vc) (by rw [List.length_reverse]; exact e3) (by omega) (by omega) h20 e2 (by rw [h3, List.reverse_cons]) (((S.fX 1 rfl).fX 1 rfl).fL 0 rfl))) fun _ => ?_
      refine At.run 1 [] [(6, .int .i64 (if Sc.tr x = true then 0 else 74))] ?_
      refine At.nx ?_
      exact Cd.rv r0 [] (.int .i64 (if Sc.tr x = true then 0 else 74)) fun W S => ⟨by rw [run_x (fun h => by have q0 := of_decide_eq_false hb; have q1 := of_decide_eq_false hb1; omega) h1 h2 h3]; split <;> rfl, S.below⟩
end Go.Proofs.Ytljcaegcbcikiaa
namespace Go.Proofs.Ytljcaegcbcikiaa
open Go.RowKit
theorem zeroh8 : Bytes8 (fun _ => 0) := fun _ => ⟨Int.le_refl 0, by show (0 : Int) < 256; decide⟩
/-- The law's own signatures: over no commitment. -/
noncomputable def sgq : List Nat → List Nat → Bool := sgv (fun _ => 0)
end Go.Proofs.Ytljcaegcbcikiaa
namespace Go.Proofs.Ytljcaegcbcikiaa
open Go.RowKit
section appb
variable {f : Func} {r i N : Nat} {Q : Exit → Act → World → Prop} {F : List (Nat × Value)} {w : World} {L : List (Nat × Obj)} {X : List Xt}
/-- Bytes are appended to a slice of one's own. -/
theorem At.appb (n : Nat) (hs : List Nat) (d : Nat) {v xv : Value} {l m : List Nat} (j : Nat) (hj : X[j]? = some (xog 5 w v (bcells l))) (hsrc : ∀ W, Sx w L X W → PieceV W W.heap.size xv m) (hn : l.length + m.length ≤ 1000000100)
    (k : ∀ y : Lt, y.n = (l ++ m).length → At Try.prog f r (i + n + 1) Q N ((d, y.sl) :: F) w L (X.set j (xog 5 w y.sl (bcells (l ++ m)))))
    (hk : ∀ T T', opL Try.prog f r i n L F hs T (appB T') = opR Try.prog f r i n L F hs T (d, 26, 26, v, xv) := by intro T T'; kernel_rfl) : At Try.prog f r i Q N F w L X :=
  At.app (TT := 26) (E := 5) (z := .int .u8 0) (sb' := 1) (v := v) (xv := xv) (cs := bcells l) (ys := bcells m) n hs d j hj (fun W S => by have h := (hsrc W S).src; rw [bcells_len]; exact h) (by rw [bcells_len, bcells_len]; omega) (by rw [bcells_len, bcells_len]; omega) (fun y hy _ => by
    have h := k y (by rw [hy, List.length_append, bcells_len, bcells_len, List.length_append])
    rw [show bcells (l ++ m) = bcells l ++ bcells m by simp [bcells]] at h
    exact h) (by kernel_rfl) (by kernel_rfl) (by rfl) hk
end appb
end Go.Proofs.Ytljcaegcbcikiaa
namespace Go.Proofs.Ytljcaegcbcikiaa
open Go.RowKit
theorem wnext0 {W : World} {fid : FuncId} {v : Value} {bs : List Nat} (hn : nxt bs = none) (h : Calls Try.prog fid #[v] W (RetN W bs)) : Calls Try.prog fid #[v] W fun e w' => e = .returned (.tuple #[.int .u8 0, .slice none 0 0, .int .i64 0, .int .i64 71]) ∧ Below W.heap.size W w' :=
  h.mono fun e w' h => by
    rcases h with ⟨-, he, hb⟩ | ⟨c', d', u', v', h1, -⟩
    · exact ⟨he, hb⟩
    · rw [hn] at h1; cases h1
theorem calls_own {w W : World} {L : List (Nat × Obj)} {X : List Xt} {fid : FuncId} {vs : Array Value} {bs : List Nat} (S : Sx w L X W) (hc : Calls Try.prog fid vs W fun e w' => ∃ u, e = .returned u ∧ PadR W u bs w') : Calls Try.prog fid vs W fun e w' => ∃ y : {y : Lt // bs.length ≤ y.c}, e = .returned (.slice y.1.a bs.length y.1.c) ∧ Sx w L (xown w (.slice y.1.a bs.length y.1.c) bs :: X) w' :=
  hc.mono fun e w' ⟨u, he, hp⟩ => by
    obtain ⟨a, c, rfl, hle⟩ := padr_slc hp
    exact ⟨⟨lt0 a bs.length c, hle⟩, he, S.gave hp⟩
end Go.Proofs.Ytljcaegcbcikiaa
namespace Go.Proofs.Ytljcaegcbcikiaa
open Go.RowKit
theorem nxt_code {b d : List Nat} {c u : Nat} (h : nxt b = some (c, d, u)) : c = nth b 0 := by
  unfold nxt at h
  split at h
  · cases h
  · split at h
    · cases h; rfl
    · split at h
      · cases h
      · cases h; rfl
theorem nxt_pw2 (x r : List Nat) (hx : x.length < 65536) : ∃ c, c ≤ 77 ∧ nxt (pw x ++ r) = some (c, x, (pw x).length) := by
  obtain ⟨c, h⟩ := nxt_pw x r hx
  refine ⟨c, ?_, h⟩
  rw [nxt_code h]
  unfold pw
  split
  · show x.length ≤ 77; omega
  · split
    · show 76 ≤ 77; decide
    · show 77 ≤ 77; decide
theorem nxt_op (c : Nat) (r : List Nat) (h : 97 ≤ c) : nxt (c :: r) = some (c, [], 1) := by
  have e0 : nth (c :: r) 0 = c := rfl
  have eh : hd (c :: r) = 1 := by unfold hd; rw [e0, if_neg (by omega), if_neg (by omega)]
  have es : sz (c :: r) = 0 := by unfold sz; rw [e0, if_neg (by omega), if_neg (by omega), if_neg (by omega)]
  rw [nxt_ok _ (by simp) (by rw [e0]; omega) (by rw [eh, es]; simp), e0, eh, es]
  simp
section
variable {sg : List Nat → List Nat → Bool} {pu : Bool} {n n' c u : Nat} {s s' : Sc.St} {b d x r : List Nat} {st : List (List Nat)}
theorem all_word (hb : b ≠ []) (hn : nxt b = some (c, d, u)) (hp : ¬ (pu = true ∧ Sc.pushes c = false)) (hw : Sc.word sg n s c d = .ok (n', s')) : Sc.all sg pu n s b = Sc.all sg pu n' s' (b.drop u) := by
  rw [Sc.all_cons sg pu n s b hb, hn]
  dsimp only
  rw [if_neg hp, hw]
theorem pw_ne (x r : List Nat) : pw x ++ r ≠ [] := fun h => by
  have h1 := congrArg List.length h
  have h2 := pw_len x
  rw [List.length_append, List.length_nil] at h1
  omega
theorem all_pw (hx : x.length ≤ 520) (hg : Sc.goes s.ways = true) (hl : s.stack.length < 100) : Sc.all sg pu n s (pw x ++ r) = Sc.all sg pu n ⟨x :: s.stack, s.ways⟩ r := by
  obtain ⟨c, hc, hn⟩ := nxt_pw2 x r (by omega)
  have hp : Sc.pushes c = true := by unfold Sc.pushes; simp [hc]
  rw [all_word (pw_ne x r) hn (by simp [hp]) (n' := n) (s' := ⟨x :: s.stack, s.ways⟩) (by unfold Sc.word; rw [if_neg (by omega), if_pos hp, if_pos hg, if_neg (by omega)]), List.drop_left]
theorem push_no (h : 97 ≤ c) : Sc.pushes c = false := by
  unfold Sc.pushes
  rw [decide_eq_false (show ¬ c ≤ 77 by omega), decide_eq_false (show ¬ c ≤ 96 by omega), Bool.and_false]; rfl
theorem all_op (h97 : 97 ≤ c) (hbr : Sc.isBr c = false) (hg : Sc.goes s.ways = true) (ho : Sc.op sg c s.stack = .ok st) (hl : st.length ≤ 100) (hn : n < 100) : Sc.all sg false n s (c :: r) = Sc.all sg false (n + 1) ⟨st, s.ways⟩ r :=
  all_word (by simp) (nxt_op c r h97) (by simp) (by unfold Sc.word; rw [if_neg (by simp), if_neg (by simp [push_no h97]), if_neg (by omega), if_neg (by simp [hbr]), if_pos hg, ho]; dsimp only; rw [if_neg (by omega)])
theorem all_num (h1 : 81 ≤ c) (h2 : c ≤ 96) (hg : Sc.goes s.ways = true) (hl : s.stack.length < 100) : Sc.all sg pu n s (c :: r) = Sc.all sg pu n ⟨[c - 80] :: s.stack, s.ways⟩ r := by
  have hp : Sc.pushes c = true := by unfold Sc.pushes; rw [decide_eq_true h1, decide_eq_true h2]; simp
  exact all_word (by simp) (nxt_one (c :: r) (by simp) c rfl h1 h2) (by simp [hp]) (by unfold Sc.word; rw [if_neg (by simp), if_pos hp, if_pos hg, if_neg (by omega)])
end
section
variable {sg : List Nat → List Nat → Bool} {x y : List Nat} (hx : x.length ≤ 520) (hy : y.length ≤ 520)
include hx hy
end
end Go.Proofs.Ytljcaegcbcikiaa
namespace Go.Proofs.Ytljcaegcbcikiaa
section
variable {sg : List Nat → List Nat → Bool}
/-- The same, or a limit. -/
def Or73 {α : Type} (a b : Except Nat α) : Prop := a = b ∨ a = .error 73
theorem Or73.trans {α : Type} {a b c : Except Nat α} (h : Or73 a b) (h' : Or73 b c) : Or73 a c := by
  rcases h with rfl | h
  · exact h'
  · exact Or.inr h
theorem word_more (k n : Nat) (s : Sc.St) (c : Nat) (d : List Nat) : Sc.word sg (n + k) s c d = .error 73 ∨ (∃ e, Sc.word sg n s c d = .error e ∧ Sc.word sg (n + k) s c d = .error e) ∨ ∃ n' s', Sc.word sg n s c d = .ok (n', s') ∧ Sc.word sg (n + k) s c d = .ok (n' + k, s') := by
  unfold Sc.word
  by_cases h1 : 520 < d.length
  · left; rw [if_pos h1]
  rw [if_neg h1, if_neg h1]
  by_cases h2 : Sc.pushes c = true
  · rw [if_pos h2, if_pos h2]
    by_cases h3 : Sc.goes s.ways = true
    · rw [if_pos h3, if_pos h3]
      by_cases h4 : 100 < s.stack.length + 1
      · left; rw [if_pos h4]
      · right; right; rw [if_neg h4, if_neg h4]; exact ⟨_, _, rfl, rfl⟩
    · rw [if_neg h3, if_neg h3]; exact Or.inr (Or.inr ⟨_, _, rfl, rfl⟩)
  · rw [if_neg h2, if_neg h2]
    by_cases h3 : 100 < n + k + 1
    · left; rw [if_pos h3]
    rw [if_neg h3, if_neg (show ¬ 100 < n + 1 by omega)]
    have e : n + k + 1 = n + 1 + k := by omega
    by_cases h4 : Sc.isBr c = true
    · rw [if_pos h4, if_pos h4]
      cases h5 : Sc.branch c s with
      | error q => exact Or.inr (Or.inl ⟨q, rfl, rfl⟩)
      | ok s' => rw [e]; exact Or.inr (Or.inr ⟨_, _, rfl, rfl⟩)
    rw [if_neg h4, if_neg h4]
    by_cases h5 : Sc.goes s.ways = true
    · rw [if_pos h5, if_pos h5]
      cases h6 : Sc.op sg c s.stack with
      | error q => exact Or.inr (Or.inl ⟨q, rfl, rfl⟩)
      | ok st =>
        dsimp only
        by_cases h7 : 100 < st.length
        · left; rw [if_pos h7]
        · rw [if_neg h7, if_neg h7, e]; exact Or.inr (Or.inr ⟨_, _, rfl, rfl⟩)
    · rw [if_neg h5, if_neg h5, e]; exact Or.inr (Or.inr ⟨_, _, rfl, rfl⟩)
theorem allF_more (pu : Bool) (k : Nat) : ∀ (f n : Nat) (s : Sc.St) (b : List Nat), Or73 (Sc.allF sg pu f (n + k) s b) (Sc.allF sg pu f n s b)
  | 0, n, s, b => Or.inl rfl
  | f + 1, n, s, b => by
    unfold Sc.allF
    by_cases hb : b = []
    · rw [if_pos hb, if_pos hb]; exact Or.inl rfl
    rw [if_neg hb, if_neg hb]
    cases hn : nxt b with
    | none => exact Or.inl rfl
    | some q =>
      obtain ⟨c, d, u⟩ := q
      dsimp only
      by_cases hp : pu = true ∧ Sc.pushes c = false
      · rw [if_pos hp, if_pos hp]; exact Or.inl rfl
      rw [if_neg hp, if_neg hp]
      rcases word_more (sg := sg) k n s c d with h | ⟨e, h1, h2⟩ | ⟨n', s', h1, h2⟩
      · rw [h]; exact Or.inr rfl
      · rw [h1, h2]; exact Or.inl rfl
      · rw [h1, h2]; exact allF_more pu k f n' s' _
theorem all_more (pu : Bool) (k n : Nat) (s : Sc.St) (b : List Nat) : Or73 (Sc.all sg pu (n + k) s b) (Sc.all sg pu n s b) := allF_more pu k _ n s b
theorem allF_ways (pu : Bool) : ∀ (f n : Nat) (s s' : Sc.St) (b : List Nat), Sc.allF sg pu f n s b = .ok s' → s'.ways = []
  | 0, n, s, s', b, h => by
    unfold Sc.allF at h
    split at h
    · rename_i h1; cases h; exact h1
    · cases h
  | f + 1, n, s, s', b, h => by
    unfold Sc.allF at h
    split at h
    · split at h
      · rename_i h1; cases h; exact h1
      · cases h
    · split at h
      · cases h
      · split at h
        · cases h
        · split at h
          · cases h
          · exact allF_ways pu f _ _ _ _ h
section
variable {pu : Bool} {n c : Nat} {s : Sc.St} {x r : List Nat}
theorem or_pw (hx : x.length < 65536) (hg : Sc.goes s.ways = true) : Or73 (Sc.all sg pu n s (pw x ++ r)) (Sc.all sg pu n ⟨x :: s.stack, s.ways⟩ r) := by
  by_cases h : x.length ≤ 520 ∧ s.stack.length < 100
  · exact Or.inl (all_pw h.1 hg h.2)
  · obtain ⟨c, hc, hn⟩ := nxt_pw2 x r hx
    have hp : Sc.pushes c = true := by unfold Sc.pushes; simp [hc]
    refine Or.inr ?_
    rw [Sc.all_cons sg pu n s _ (pw_ne x r), hn]
    dsimp only
    rw [if_neg (by simp [hp])]
    have hw : Sc.word sg n s c x = .error 73 := by
      unfold Sc.word
      by_cases h1 : 520 < x.length
      · rw [if_pos h1]
      · rw [if_neg h1, if_pos hp, if_pos hg, if_pos (by omega)]
    rw [hw]
theorem or_num (h1 : 81 ≤ c) (h2 : c ≤ 96) (hg : Sc.goes s.ways = true) : Or73 (Sc.all sg pu n s (c :: r)) (Sc.all sg pu n ⟨[c - 80] :: s.stack, s.ways⟩ r) := by
  by_cases h : s.stack.length < 100
  · exact Or.inl (all_num h1 h2 hg h)
  · have hp : Sc.pushes c = true := by unfold Sc.pushes; rw [decide_eq_true h1, decide_eq_true h2]; simp
    refine Or.inr ?_
    rw [Sc.all_cons sg pu n s _ (by simp), nxt_one (c :: r) (by simp) c rfl h1 h2]
    dsimp only
    rw [if_neg (by simp [hp])]
    have hw : Sc.word sg n s c [c - 80] = .error 73 := by unfold Sc.word; rw [if_neg (by simp), if_pos hp, if_pos hg, if_pos (by omega)]
    rw [hw]
/-- A word that takes pieces off: the same, or a limit. -/
theorem or_op {st : List (List Nat)} (h97 : 97 ≤ c) (hbr : Sc.isBr c = false) (hg : Sc.goes s.ways = true) (ho : Sc.op sg c s.stack = .ok st) : Or73 (Sc.all sg false n s (c :: r)) (Sc.all sg false (n + 1) ⟨st, s.ways⟩ r) := by
  by_cases h : n < 100 ∧ st.length ≤ 100
  · exact Or.inl (all_op h97 hbr hg ho h.2 h.1)
  · refine Or.inr ?_
    rw [Sc.all_cons sg false n s _ (by simp), nxt_op c r h97]
    dsimp only
    rw [if_neg (by simp)]
    have hw : Sc.word sg n s c [] = .error 73 := by
      unfold Sc.word
      rw [if_neg (by simp), if_neg (by simp [push_no h97])]
      by_cases h1 : 100 < n + 1
      · rw [if_pos h1]
      · rw [if_neg h1, if_neg (by simp [hbr]), if_pos hg, ho]; dsimp only; rw [if_pos (by omega)]
    rw [hw]
end
theorem or_109 {n : Nat} {x y r : List Nat} {st : List (List Nat)} : Or73 (Sc.all sg false n ⟨x :: y :: st, []⟩ (109 :: r)) (Sc.all sg false (n + 1) ⟨st, []⟩ r) :=
  or_op (by decide) rfl rfl (by unfold Sc.op; rw [show Sc.needs 109 = some 2 from rfl]; dsimp only; rw [if_neg (by simp)]; rfl)
theorem or_117 {n : Nat} {x r : List Nat} {st : List (List Nat)} : Or73 (Sc.all sg false n ⟨x :: st, []⟩ (117 :: r)) (Sc.all sg false (n + 1) ⟨st, []⟩ r) :=
  or_op (by decide) rfl rfl (by unfold Sc.op; rw [show Sc.needs 117 = some 1 from rfl]; dsimp only; rw [if_neg (by simp)]; rfl)
/-- A code, one piece, and both dropped. -/
theorem lead1 {x r : List Nat} {st : List (List Nat)} (hx : x.length < 65536) : Or73 (Sc.all sg false 0 ⟨st, []⟩ ([81] ++ pws [x] ++ [109] ++ r)) (Sc.all sg false 0 ⟨st, []⟩ r) := by
  have e : [81] ++ pws [x] ++ [109] ++ r = 81 :: (pw x ++ (109 :: r)) := by simp [pws]
  rw [e]
  exact (or_num (by decide) (by decide) rfl).trans ((or_pw hx rfl).trans (or_109.trans (all_more false 1 0 _ _)))
theorem lead2 {x y z r : List Nat} {st : List (List Nat)} (hx : x.length < 65536) (hy : y.length < 65536) (hz : z.length < 65536) : Or73 (Sc.all sg false 0 ⟨st, []⟩ ([82] ++ pws [x, y, z] ++ [109, 109] ++ r)) (Sc.all sg false 0 ⟨st, []⟩ r) := by
  have e : [82] ++ pws [x, y, z] ++ [109, 109] ++ r = 82 :: (pw x ++ (pw y ++ (pw z ++ (109 :: (109 :: r))))) := by simp [pws]
  rw [e]
  exact (or_num (by decide) (by decide) rfl).trans ((or_pw hx rfl).trans ((or_pw hy rfl).trans ((or_pw hz rfl).trans (or_109.trans (or_109.trans (all_more false 2 0 _ _))))))
theorem lead3 {x y r : List Nat} {st : List (List Nat)} (hx : x.length < 65536) (hy : y.length < 65536) : Or73 (Sc.all sg false 0 ⟨st, []⟩ ([83] ++ pws [x, y] ++ [109, 117] ++ r)) (Sc.all sg false 0 ⟨st, []⟩ r) := by
  have e : [83] ++ pws [x, y] ++ [109, 117] ++ r = 83 :: (pw x ++ (pw y ++ (109 :: (117 :: r)))) := by simp [pws]
  rw [e]
  exact (or_num (by decide) (by decide) rfl).trans ((or_pw hx rfl).trans ((or_pw hy rfl).trans (or_109.trans (or_117.trans (all_more false 2 0 _ _)))))
/-- A run with words ahead of the lock that change nothing. -/
theorem run_lead {u r b : List Nat} (hr : r.length ≤ 2000) (h : ∀ st, Or73 (Sc.all sg false 0 ⟨st, []⟩ b) (Sc.all sg false 0 ⟨st, []⟩ r)) : Sc.run sg u b = Sc.run sg u r ∨ Sc.run sg u b = 73 := by
  unfold Sc.run
  by_cases h1 : 2000 < u.length ∨ 2000 < b.length
  · right; rw [if_pos h1]
  rw [if_neg h1, if_neg (by omega)]
  cases h2 : Sc.all sg true 0 ⟨[], []⟩ u with
  | error q => exact Or.inl rfl
  | ok s =>
    have hw := allF_ways true _ _ _ _ _ h2
    obtain ⟨st, ws⟩ := s
    obtain rfl : ws = [] := hw
    dsimp only
    rcases h st with h3 | h3
    · rw [h3]; exact Or.inl rfl
    · rw [h3]; exact Or.inr rfl
end
end Go.Proofs.Ytljcaegcbcikiaa
namespace Go.Proofs.Ytljcaegcbcikiaa
open Go.RowKit
/-- The cells of twenty bytes, and a deed's. -/
@[reducible] def c20 (l : List Nat) : Array Value := #[.int .u8 ((nth l 0 : Nat) : Int), .int .u8 ((nth l 1 : Nat) : Int), .int .u8 ((nth l 2 : Nat) : Int), .int .u8 ((nth l 3 : Nat) : Int), .int .u8 ((nth l 4 : Nat) : Int), .int .u8 ((nth l 5 : Nat) : Int), .int .u8 ((nth l 6 : Nat) : Int), .int .u8 ((nth l 7 : Nat) : Int), .int .u8 ((nth l 8 : Nat) : Int), .int .u8 ((nth l 9 : Nat) : Int), .int .u8 ((nth l 10 : Nat) : Int), .int .u8 ((nth l 11 : Nat) : Int), .int .u8 ((nth l 12 : Nat) : Int), .int .u8 ((nth l 13 : Nat) : Int), .int .u8 ((nth l 14 : Nat) : Int), .int .u8 ((nth l 15 : Nat) : Int), .int .u8 ((nth l 16 : Nat) : Int), .int .u8 ((nth l 17 : Nat) : Int), .int .u8 ((nth l 18 : Nat) : Int), .int .u8 ((nth l 19 : Nat) : Int)]
@[reducible] def deed5 (k : Int) (a b c : Value) (l : List Nat) : Array Value := #[.int .i64 k, a, b, c, .int .u8 ((nth l 0 : Nat) : Int), .int .u8 ((nth l 1 : Nat) : Int), .int .u8 ((nth l 2 : Nat) : Int), .int .u8 ((nth l 3 : Nat) : Int), .int .u8 ((nth l 4 : Nat) : Int), .int .u8 ((nth l 5 : Nat) : Int), .int .u8 ((nth l 6 : Nat) : Int), .int .u8 ((nth l 7 : Nat) : Int), .int .u8 ((nth l 8 : Nat) : Int), .int .u8 ((nth l 9 : Nat) : Int), .int .u8 ((nth l 10 : Nat) : Int), .int .u8 ((nth l 11 : Nat) : Int), .int .u8 ((nth l 12 : Nat) : Int), .int .u8 ((nth l 13 : Nat) : Int), .int .u8 ((nth l 14 : Nat) : Int), .int .u8 ((nth l 15 : Nat) : Int), .int .u8 ((nth l 16 : Nat) : Int), .int .u8 ((nth l 17 : Nat) : Int), .int .u8 ((nth l 18 : Nat) : Int), .int .u8 ((nth l 19 : Nat) : Int)]
def cmz (l : List Nat) : Bool := ((((nth l 0 : Nat) : Int) == 0) && ((((nth l 1 : Nat) : Int) == 0) && ((((nth l 2 : Nat) : Int) == 0) && ((((nth l 3 : Nat) : Int) == 0) && ((((nth l 4 : Nat) : Int) == 0) && ((((nth l 5 : Nat) : Int) == 0) && ((((nth l 6 : Nat) : Int) == 0) && ((((nth l 7 : Nat) : Int) == 0) && ((((nth l 8 : Nat) : Int) == 0) && ((((nth l 9 : Nat) : Int) == 0) && ((((nth l 10 : Nat) : Int) == 0) && ((((nth l 11 : Nat) : Int) == 0) && ((((nth l 12 : Nat) : Int) == 0) && ((((nth l 13 : Nat) : Int) == 0) && ((((nth l 14 : Nat) : Int) == 0) && ((((nth l 15 : Nat) : Int) == 0) && ((((nth l 16 : Nat) : Int) == 0) && ((((nth l 17 : Nat) : Int) == 0) && ((((nth l 18 : Nat) : Int) == 0) && ((((nth l 19 : Nat) : Int) == 0) && true))))))))))))))))))))
theorem cmz_eq {l : List Nat} (hl : l.length = 20) (h : cmz l = true) : l = noCm := by
  unfold cmz at h
  simp only [Bool.and_eq_true, beq_iff_eq] at h
  refine nth_ext2 (by rw [hl]; rfl) fun j hj => ?_
  rw [hl] at hj
  have e : nth noCm j = 0 := by
    unfold noCm nth
    rw [List.getD_eq_getElem?_getD, List.getElem?_replicate]
    split <;> rfl
  rw [e]
  match j, hj with
  | 0, _ => omega
  | 1, _ => omega
  | 2, _ => omega
  | 3, _ => omega
  | 4, _ => omega
  | 5, _ => omega
  | 6, _ => omega
  | 7, _ => omega
  | 8, _ => omega
  | 9, _ => omega
  | 10, _ => omega
  | 11, _ => omega
  | 12, _ => omega
  | 13, _ => omega
  | 14, _ => omega
  | 15, _ => omega
  | 16, _ => omega
  | 17, _ => omega
  | 18, _ => omega
  | 19, _ => omega
  | n + 20, h => omega
theorem addst (t : TypeId) (x y : Operand) {a b : ByteArray} (h : a.size + b.size ≤ 9223372036854775807) (W : World) : (do eqGuard .add t x y (.string a) (.string b); binOp .add t (.string a) (.string b) : Sem Value).run Try.prog W = .ok (.string (a ++ b)) W := by
  have h2 : ¬ ((a.size + b.size : Nat) : Int) > IntKind.i64.max := by show ¬ ((a.size + b.size : Nat) : Int) > 9223372036854775807; omega
  simp only [eqGuard, binOp, Op.stringOp, if_neg h2]
  rfl
/-- A text of so many bytes? -/
def wiB (s : ByteArray) (lo hi : Int) : Bool := decide (((s.size : Nat) : Int) ≥ lo) && decide (((s.size : Nat) : Int) ≤ hi)
theorem wiB_le {s : ByteArray} {lo hi : Int} (h : wiB s lo hi = true) : lo ≤ ((s.size : Nat) : Int) ∧ ((s.size : Nat) : Int) ≤ hi := by
  unfold wiB at h
  rw [Bool.and_eq_true] at h
  exact ⟨of_decide_eq_true h.1, of_decide_eq_true h.2⟩
set_option maxRecDepth 100000 in
theorem named_k (k : Int) (nm vl rd : ByteArray) (cm : List Nat) (w : World) : Calls Try.prog 18 #[.agg (deed5 k (.string nm) (.string vl) (.string rd) cm)] w fun e w' => e = .returned (.bool (k == 2 || k == 3)) ∧ Below w.heap.size w w' := by
 refine enterQ 11 (fun q => .seq (q 0) (.seq (q 1) .ret)) (Sx.nil w) Try.func18 ?_
 refine Cd.sr ?_
 refine At.new 0 [] 1 (deed5 k (.string nm) (.string vl) (.string rd) cm) 25 fun g1 h1 => ?_
 refine At.run 1 [] [] ?_
 refine At.nx ?_
 refine Cd.sr ?_
 refine At.run 4 [] [(6, .bool (k == 2))] ?_
 rcases Bool.eq_false_or_eq_true (k == 2) with hb | hb
 next =>
  refine At.eqv 6 (.bool (k == 2)) (.bool true) (congrArg _ hb) ?_
  refine At.run 5 [] [(2, .bool true)] ?_
  refine At.nx ?_
  exact Cd.rv r0 [] (.bool true) fun W S => ⟨by rw [hb]; rfl, S.below⟩
 next =>
  refine At.eqv 6 (.bool (k == 2)) (.bool false) (congrArg _ hb) ?_
  refine At.run 5 [] [(2, .bool (k == 3))] ?_
  refine At.nx ?_
  exact Cd.rv r0 [] (.bool (k == 3)) fun W S => ⟨by rw [hb]; rfl, S.below⟩
set_option maxRecDepth 100000 in
theorem within_k (s : ByteArray) (lo hi : Int) (w : World) : Calls Try.prog 19 #[.string s, .int .i64 lo, .int .i64 hi] w fun e w' => e = .returned (.bool (wiB s lo hi)) ∧ Below w.heap.size w w' := by
 refine enterQ 17 (fun q => .seq (q 0) (.seq (q 1) .ret)) (Sx.nil w) Try.func19 ?_
 refine Cd.sr ?_
 refine At.run 1 [] [] ?_
 refine At.nx ?_
 refine Cd.sr ?_
 refine At.ar 2 [] 8 (.int .i64 ((s.size : Nat) : Int)) (.int .i64 ((s.size : Nat) : Int)) (rfl) ?_
 refine At.run 3 [] [(11, .bool (decide (((s.size : Nat) : Int) ≥ lo)))] ?_
 rcases Bool.eq_false_or_eq_true (decide (((s.size : Nat) : Int) ≥ lo)) with hb | hb
 next =>
  refine At.eqv 11 (.bool (decide (((s.size : Nat) : Int) ≥ lo))) (.bool true) (congrArg _ hb) ?_
  refine At.ar 2 [] 13 (.int .i64 ((s.size : Nat) : Int)) (.int .i64 ((s.size : Nat) : Int)) (rfl) ?_
  refine At.run 4 [] [(6, .bool (decide (((s.size : Nat) : Int) ≤ hi)))] ?_
  refine At.nx ?_
  exact Cd.rv r0 [] (.bool (decide (((s.size : Nat) : Int) ≤ hi))) fun W S => ⟨by unfold wiB; rw [hb]; rfl, S.below⟩
 next =>
  refine At.eqv 11 (.bool (decide (((s.size : Nat) : Int) ≥ lo))) (.bool false) (congrArg _ hb) ?_
  refine At.run 6 [] [(6, .bool false)] ?_
  refine At.nx ?_
  exact Cd.rv r0 [] (.bool false) fun W S => ⟨by unfold wiB; rw [hb]; rfl, S.below⟩
theorem calls_bool {P : Program} {w W : World} {L : List (Nat × Obj)} {X : List Xt} {fid : FuncId} {vs : Array Value} {p : Bool → Prop} (S : Sx w L X W) (h : Calls P fid vs W fun e w' => ∃ z : Bool, e = .returned (.bool z) ∧ p z ∧ Below W.heap.size W w') : Calls P fid vs W fun e w' => ∃ z : {z : Bool // p z}, e = .returned (.bool z.1) ∧ Sx w L X w' :=
  h.mono fun _ _ ⟨z, he, hz, hb⟩ => ⟨⟨z, hz⟩, he, S.keep hb⟩
def sayB (bs : List Nat) : Bool := decide (0 < bs.length) && (decide (81 ≤ nth bs 0) && decide (nth bs 0 < 84))
set_option maxRecDepth 100000 in
theorem says_k (v : Value) (bs : List Nat) (w : World) (hp : PieceV w w.heap.size v bs) : Calls Try.prog 9 #[v] w fun e w' => e = .returned (.bool (sayB bs)) ∧ Below w.heap.size w w' := by
 obtain ⟨A, c, rfl⟩ := hp.shape
 have S0 := Sx.ofpc hp
 clear hp
 obtain ⟨c0, hc0⟩ : ∃ c0, nth bs 0 = c0 := ⟨_, rfl⟩
 refine enterQ 18 (fun q => .seq (q 0) (.seq (q 1) .ret)) S0 Try.func9 ?_
 refine Cd.sr ?_
 refine At.run 1 [] [] ?_
 refine At.nx ?_
 refine Cd.sr ?_
 refine At.run 4 [] [(6, .bool (decide (((bs.length : Nat) : Int) > 0)))] ?_
 rcases Bool.eq_false_or_eq_true (decide (((bs.length : Nat) : Int) > 0)) with hb | hb
 next =>
  refine At.eqv 6 (.bool (decide (((bs.length : Nat) : Int) > 0))) (.bool true) (congrArg _ hb) ?_
  have hl0 : 0 < bs.length := by have q := of_decide_eq_true hb; omega
  refine At.fact (p := ∃ b o, A = some ⟨b, o, none⟩) (fun W S => S.lies 0 rfl rfl hl0) (fun ⟨b, o, eA⟩ => ?_)
  subst eA
  refine At.ixs 1 [] 8 1 b o bs.length c .i64 0 hl0 ?_
  refine At.ld 0 [] 9 b (o + 0 * 1) (.int .u8 ((c0 : Nat) : Int)) (fun W S => by have q := (S.pcS 0 rfl).at 0 _ (by omega) (by omega : o + 0 * 1 = o + 0 * 1); rw [hc0] at q; exact q) ?_
  refine At.run 3 [] [(12, .bool (decide (((c0 : Nat) : Int) ≥ 81)))] ?_
  rcases Bool.eq_false_or_eq_true (decide (((c0 : Nat) : Int) ≥ 81)) with hb1 | hb1
  next =>
   refine At.eqv 12 (.bool (decide (((c0 : Nat) : Int) ≥ 81))) (.bool true) (congrArg _ hb1) ?_
   refine At.ixs 1 [] 14 1 b o bs.length c .i64 0 hl0 ?_
   refine At.ld 0 [] 15 b (o + 0 * 1) (.int .u8 ((c0 : Nat) : Int)) (fun W S => by have q := (S.pcS 0 rfl).at 0 _ (by omega) (by omega : o + 0 * 1 = o + 0 * 1); rw [hc0] at q; exact q) ?_
   refine At.run 1 [] [(16, .bool (decide (((c0 : Nat) : Int) < 84)))] ?_
   rcases Bool.eq_false_or_eq_true (decide (((c0 : Nat) : Int) < 84)) with hb2 | hb2
   next =>
    refine At.eqv 16 (.bool (decide (((c0 : Nat) : Int) < 84))) (.bool true) (congrArg _ hb2) ?_
    refine At.run 2 [] [(2, .bool true)] ?_
    refine At.nx ?_
    exact Cd.rv r0 [] (.bool true) fun W S => ⟨by have q0 := of_decide_eq_true hb; have q1 := of_decide_eq_true hb1; have q2 := of_decide_eq_true hb2; unfold sayB; rw [hc0, decide_eq_true (by omega), decide_eq_true (by omega), decide_eq_true (by omega)]; rfl, S.below⟩
   next =>
    refine At.eqv 16 (.bool (decide (((c0 : Nat) : Int) < 84))) (.bool false) (congrArg _ hb2) ?_
    refine At.run 2 [] [(2, .bool false)] ?_
    refine At.nx ?_
    exact Cd.rv r0 [] (.bool false) fun W S => ⟨by have q0 := of_decide_eq_true hb; have q1 := of_decide_eq_true hb1; have q2 := of_decide_eq_false hb2; unfold sayB; rw [hc0]; first | rw [decide_eq_false (by omega : ¬ 0 < bs.length)]; rfl | (rw [decide_eq_false (by omega : ¬ 81 ≤ c0)]; simp) | (rw [decide_eq_false (by omega : ¬ c0 < 84)]; simp), S.below⟩
  next =>
   refine At.eqv 12 (.bool (decide (((c0 : Nat) : Int) ≥ 81))) (.bool false) (congrArg _ hb1) ?_
   refine At.run 4 [] [(16, undef)] ?_
   refine At.run 2 [] [(2, .bool false)] ?_
   refine At.nx ?_
   exact Cd.rv r0 [] (.bool false) fun W S => ⟨by have q0 := of_decide_eq_true hb; have q1 := of_decide_eq_false hb1; unfold sayB; rw [hc0]; first | rw [decide_eq_false (by omega : ¬ 0 < bs.length)]; rfl | (rw [decide_eq_false (by omega : ¬ 81 ≤ c0)]; simp) | (rw [decide_eq_false (by omega : ¬ c0 < 84)]; simp), S.below⟩
 next =>
  refine At.eqv 6 (.bool (decide (((bs.length : Nat) : Int) > 0))) (.bool false) (congrArg _ hb) ?_
  refine At.run 10 [] [(12, .bool false), (16, undef)] ?_
  refine At.run 2 [] [(2, .bool false)] ?_
  refine At.nx ?_
  exact Cd.rv r0 [] (.bool false) fun W S => ⟨by have q0 := of_decide_eq_false hb; unfold sayB; rw [hc0]; first | rw [decide_eq_false (by omega : ¬ 0 < bs.length)]; rfl | (rw [decide_eq_false (by omega : ¬ 81 ≤ c0)]; simp) | (rw [decide_eq_false (by omega : ¬ c0 < 84)]; simp), S.below⟩
section
variable {k : Int} {nm vl rd : ByteArray} {cm : List Nat}
theorem add3 {a b c : ByteArray} (h : ((a ++ b ++ c).toList == (⟨#[]⟩ : ByteArray).toList) = true) : a.size = 0 ∧ b.size = 0 ∧ c.size = 0 := by
  have e := toList_inj'.1 h
  have e2 := congrArg ByteArray.size e
  rw [ByteArray.size_append, ByteArray.size_append] at e2
  have e3 : (⟨#[]⟩ : ByteArray).size = 0 := rfl
  omega
theorem right1 (hk : (k == 1) = true) (h : ((nm ++ rd ++ vl).toList == (⟨#[]⟩ : ByteArray).toList) = true) : (⟨k, nm, vl, rd, cm⟩ : Dd).right := by
  have := add3 h
  exact Or.inr (Or.inl ⟨beq_iff_eq.1 hk, this.1, this.2.2, this.2.1⟩)
theorem right0 (hl : cm.length = 20) (hk : (k == 0) = true) (hc : cmz cm = true) (h : ((nm ++ rd ++ vl).toList == (⟨#[]⟩ : ByteArray).toList) = true) : (⟨k, nm, vl, rd, cm⟩ : Dd).right := by
  have := add3 h
  exact Or.inl ⟨beq_iff_eq.1 hk, this.1, this.2.2, this.2.1, cmz_eq hl hc⟩
theorem right2 (hl : cm.length = 20) (hk : (k == 2) = true) (h1 : wiB nm 1 64 = true) (h2 : wiB rd 1 32 = true) (h3 : wiB vl 0 200 = true) (hc : cmz cm = true) : (⟨k, nm, vl, rd, cm⟩ : Dd).right := by
  have := wiB_le h1; have := wiB_le h2; have := wiB_le h3
  refine Or.inr (Or.inr (Or.inl ⟨beq_iff_eq.1 hk, ?_, ?_, ?_, ?_, ?_, cmz_eq hl hc⟩)) <;> (simp only; omega)
theorem right3 (hl : cm.length = 20) (hn : (!(k == 2 || k == 3)) = false) (hk : (k == 2) = false) (h1 : wiB nm 1 64 = true) (h2 : wiB rd 0 0 = true) (h3 : wiB vl 0 200 = true) (hc : cmz cm = true) : (⟨k, nm, vl, rd, cm⟩ : Dd).right := by
  rw [hk] at hn
  have hk3 : (k == 3) = true := by simpa using hn
  have := wiB_le h1; have := wiB_le h2; have := wiB_le h3
  refine Or.inr (Or.inr (Or.inr ⟨beq_iff_eq.1 hk3, ?_, ?_, ?_, ?_, cmz_eq hl hc⟩)) <;> (simp only; omega)
end
set_option maxHeartbeats 4000000 in
set_option maxRecDepth 100000 in
theorem right_k (k : Int) (nm vl rd : ByteArray) (cm : List Nat) (hl : cm.length = 20) (hz : nm.size + rd.size + vl.size ≤ 9223372036854775807) (w : World) : Calls Try.prog 8 #[.agg (deed5 k (.string nm) (.string vl) (.string rd) cm)] w fun e w' => ∃ b : Bool, e = .returned (.bool b) ∧ (b = true → (⟨k, nm, vl, rd, cm⟩ : Dd).right) ∧ Below w.heap.size w w' := by
 refine enterQ 59 (fun q => .seq (q 0) (.seq (.seq (q 1) (.cond (.tmp 8) (.seq (q 2) (.seq (q 3) .ret)) .skip)) (.seq (q 4) (.seq (.seq (q 5) (.cond (.tmp 37) (q 6) .skip)) (.seq (q 7) .ret))))) (Sx.nil w) Try.func8 ?_
 refine Cd.sr ?_
 refine At.new 0 [] 1 (deed5 k (.string nm) (.string vl) (.string rd) cm) 25 fun g1 h1 => ?_
 refine At.run 1 [] [] ?_
 refine At.nx ?_
 refine Cd.seq ?_
 refine Cd.sr ?_
 refine At.call 1 [] 7 (fun W S => named_k k nm vl rd cm W) ?_
 refine At.run 1 [] [(8, .bool (!(k == 2 || k == 3)))] ?_
 refine At.nx ?_
 rcases Bool.eq_false_or_eq_true (!(k == 2 || k == 3)) with hb | hb
 next =>
  refine Cd.eqv 8 (.bool (!(k == 2 || k == 3))) (.bool true) (congrArg _ hb) ?_
  refine Cd.ct ?_
  refine Cd.sr ?_
  refine At.run 4 [] [(12, .bool (k == 1))] ?_
  rcases Bool.eq_false_or_eq_true (k == 1) with hb1 | hb1
  next =>
   refine At.eqv 12 (.bool (k == 1)) (.bool true) (congrArg _ hb1) ?_
   refine At.run 11 [] [(3, .bool true)] ?_
   refine At.nx ?_
   refine Cd.sr ?_
   refine At.run 6 [] [(24, .bool true), (26, .string nm), (28, .string rd)] ?_
   refine At.sem 0 [] 29 (do eqGuard .add 9 (.tmp 26) (.tmp 28) (.string nm) (.string rd); binOp .add 9 (.string nm) (.string rd)) (.string (nm ++ rd)) (fun W S => addst 9 (.tmp 26) (.tmp 28) (by omega) W) ?_
   refine At.sem 2 [] 32 (do eqGuard .add 9 (.tmp 29) (.tmp 31) (.string (nm ++ rd)) (.string vl); binOp .add 9 (.string (nm ++ rd)) (.string vl)) (.string (nm ++ rd ++ vl)) (fun W S => addst 9 (.tmp 29) (.tmp 31) (by rw [ByteArray.size_append]; omega) W) ?_
   refine At.ar 1 [] 33 (.bool ((nm ++ rd ++ vl).toList == (⟨#[]⟩ : ByteArray).toList)) (.bool ((nm ++ rd ++ vl).toList == (⟨#[]⟩ : ByteArray).toList)) (rfl) ?_
   refine At.run 2 [] [(2, .bool ((nm ++ rd ++ vl).toList == (⟨#[]⟩ : ByteArray).toList))] ?_
   refine At.nx ?_
   exact Cd.rv (rt r0) [] (.bool ((nm ++ rd ++ vl).toList == (⟨#[]⟩ : ByteArray).toList)) fun W S => ⟨_, rfl, fun h => right1 hb1 h, S.below⟩
  next =>
   refine At.eqv 12 (.bool (k == 1)) (.bool false) (congrArg _ hb1) ?_
   refine At.run 4 [] [(16, .bool (k == 0))] ?_
   rcases Bool.eq_false_or_eq_true (k == 0) with hb2 | hb2
   next =>
    refine At.eqv 16 (.bool (k == 0)) (.bool true) (congrArg _ hb2) ?_
    refine At.ar 4 [] 20 (.bool (cmz cm)) (.bool (cmz cm)) (rfl) ?_
    refine At.run 3 [] [(3, .bool (cmz cm))] ?_
    refine At.nx ?_
    refine Cd.sr ?_
    refine At.run 2 [] [(24, .bool (cmz cm))] ?_
    rcases Bool.eq_false_or_eq_true (cmz cm) with hb3 | hb3
    next =>
     refine At.eqv 24 (.bool (cmz cm)) (.bool true) (congrArg _ hb3) ?_
     refine At.sem 4 [] 29 (do eqGuard .add 9 (.tmp 26) (.tmp 28) (.string nm) (.string rd); binOp .add 9 (.string nm) (.string rd)) (.string (nm ++ rd)) (fun W S => addst 9 (.tmp 26) (.tmp 28) (by omega) W) ?_
     refine At.sem 2 [] 32 (do eqGuard .add 9 (.tmp 29) (.tmp 31) (.string (nm ++ rd)) (.string vl); binOp .add 9 (.string (nm ++ rd)) (.string vl)) (.string (nm ++ rd ++ vl)) (fun W S => addst 9 (.tmp 29) (.tmp 31) (by rw [ByteArray.size_append]; omega) W) ?_
     refine At.ar 1 [] 33 (.bool ((nm ++ rd ++ vl).toList == (⟨#[]⟩ : ByteArray).toList)) (.bool ((nm ++ rd ++ vl).toList == (⟨#[]⟩ : ByteArray).toList)) (rfl) ?_
     refine At.run 2 [] [(2, .bool ((nm ++ rd ++ vl).toList == (⟨#[]⟩ : ByteArray).toList))] ?_
     refine At.nx ?_
     exact Cd.rv (rt r0) [] (.bool ((nm ++ rd ++ vl).toList == (⟨#[]⟩ : ByteArray).toList)) fun W S => ⟨_, rfl, fun h => right0 hl hb2 hb3 h, S.below⟩
    next =>
     refine At.eqv 24 (.bool (cmz cm)) (.bool false) (congrArg _ hb3) ?_
     refine At.run 11 [] [(2, .bool false)] ?_
     refine At.nx ?_
     exact Cd.rv (rt r0) [] (.bool false) fun W S => ⟨false, rfl, fun h => (by cases h), S.below⟩
   next =>
    refine At.eqv 16 (.bool (k == 0)) (.bool false) (congrArg _ hb2) ?_
    refine At.run 7 [] [(3, .bool false)] ?_
    refine At.nx ?_
    refine Cd.sr ?_
    refine At.run 13 [] [(2, .bool false)] ?_
    refine At.nx ?_
    exact Cd.rv (rt r0) [] (.bool false) fun W S => ⟨false, rfl, fun h => (by cases h), S.below⟩
 next =>
  refine Cd.eqv 8 (.bool (!(k == 2 || k == 3))) (.bool false) (congrArg _ hb) ?_
  refine Cd.cf ?_
  refine Cd.sk ?_
  show Cd _ _ _ _ _ _ _ _
  refine Cd.sr ?_
  refine At.run 2 [] [(4, .int .i64 0), (5, .int .i64 0)] ?_
  refine At.nx ?_
  refine Cd.seq ?_
  refine Cd.sr ?_
  refine At.run 3 [] [(37, .bool (k == 2))] ?_
  refine At.nx ?_
  rcases Bool.eq_false_or_eq_true (k == 2) with hb1 | hb1
  next =>
   refine Cd.eqv 37 (.bool (k == 2)) (.bool true) (congrArg _ hb1) ?_
   refine Cd.ct ?_
   refine Cd.rg ?_
   refine At.run 2 [] [(4, .int .i64 1), (5, .int .i64 32)] ?_
   refine At.fin ?_
   show Cd _ _ _ _ _ _ _ _
   refine Cd.sr ?_
   refine At.call 2 [] 40 (fun W S => within_k nm 1 64 W) ?_
   refine At.run 1 [] [(41, .bool (wiB nm 1 64))] ?_
   rcases Bool.eq_false_or_eq_true (wiB nm 1 64) with hb2 | hb2
   next =>
    refine At.eqv 41 (.bool (wiB nm 1 64)) (.bool true) (congrArg _ hb2) ?_
    refine At.call 4 [] 46 (fun W S => within_k rd 1 32 W) ?_
    refine At.run 2 [] [(48, .bool (wiB rd 1 32))] ?_
    rcases Bool.eq_false_or_eq_true (wiB rd 1 32) with hb3 | hb3
    next =>
     refine At.eqv 48 (.bool (wiB rd 1 32)) (.bool true) (congrArg _ hb3) ?_
     refine At.call 2 [] 51 (fun W S => within_k vl 0 200 W) ?_
     refine At.run 2 [] [(53, .bool (wiB vl 0 200))] ?_
     rcases Bool.eq_false_or_eq_true (wiB vl 0 200) with hb4 | hb4
     next =>
      refine At.eqv 53 (.bool (wiB vl 0 200)) (.bool true) (congrArg _ hb4) ?_
      refine At.ar 4 [] 57 (.bool (cmz cm)) (.bool (cmz cm)) (rfl) ?_
      refine At.run 2 [] [(2, .bool (cmz cm))] ?_
      refine At.nx ?_
      exact Cd.rv r0 [] (.bool (cmz cm)) fun W S => ⟨_, rfl, fun h => right2 hl hb1 hb2 hb3 hb4 h, S.below⟩
     next =>
      refine At.eqv 53 (.bool (wiB vl 0 200)) (.bool false) (congrArg _ hb4) ?_
      refine At.run 6 [] [(2, .bool false)] ?_
      refine At.nx ?_
      exact Cd.rv r0 [] (.bool false) fun W S => ⟨false, rfl, fun h => (by cases h), S.below⟩
    next =>
     refine At.eqv 48 (.bool (wiB rd 1 32)) (.bool false) (congrArg _ hb3) ?_
     refine At.run 11 [] [(2, .bool false)] ?_
     refine At.nx ?_
     exact Cd.rv r0 [] (.bool false) fun W S => ⟨false, rfl, fun h => (by cases h), S.below⟩
   next =>
    refine At.eqv 41 (.bool (wiB nm 1 64)) (.bool false) (congrArg _ hb2) ?_
    refine At.run 18 [] [(2, .bool false)] ?_
    refine At.nx ?_
    exact Cd.rv r0 [] (.bool false) fun W S => ⟨false, rfl, fun h => (by cases h), S.below⟩
  next =>
   refine Cd.eqv 37 (.bool (k == 2)) (.bool false) (congrArg _ hb1) ?_
   refine Cd.cf ?_
   refine Cd.sk ?_
   show Cd _ _ _ _ _ _ _ _
   refine Cd.sr ?_
   refine At.call 2 [] 40 (fun W S => within_k nm 1 64 W) ?_
   refine At.run 1 [] [(41, .bool (wiB nm 1 64))] ?_
   rcases Bool.eq_false_or_eq_true (wiB nm 1 64) with hb2 | hb2
   next =>
    refine At.eqv 41 (.bool (wiB nm 1 64)) (.bool true) (congrArg _ hb2) ?_
    refine At.call 4 [] 46 (fun W S => within_k rd 0 0 W) ?_
    refine At.run 2 [] [(48, .bool (wiB rd 0 0))] ?_
    rcases Bool.eq_false_or_eq_true (wiB rd 0 0) with hb3 | hb3
    next =>
     refine At.eqv 48 (.bool (wiB rd 0 0)) (.bool true) (congrArg _ hb3) ?_
     refine At.call 2 [] 51 (fun W S => within_k vl 0 200 W) ?_
     refine At.run 2 [] [(53, .bool (wiB vl 0 200))] ?_
     rcases Bool.eq_false_or_eq_true (wiB vl 0 200) with hb4 | hb4
     next =>
      refine At.eqv 53 (.bool (wiB vl 0 200)) (.bool true) (congrArg _ hb4) ?_
      refine At.ar 4 [] 57 (.bool (cmz cm)) (.bool (cmz cm)) (rfl) ?_
      refine At.run 2 [] [(2, .bool (cmz cm))] ?_
      refine At.nx ?_
      exact Cd.rv r0 [] (.bool (cmz cm)) fun W S => ⟨_, rfl, fun h => right3 hl hb hb1 hb2 hb3 hb4 h, S.below⟩
     next =>
      refine At.eqv 53 (.bool (wiB vl 0 200)) (.bool false) (congrArg _ hb4) ?_
      refine At.run 6 [] [(2, .bool false)] ?_
      refine At.nx ?_
      exact Cd.rv r0 [] (.bool false) fun W S => ⟨false, rfl, fun h => (by cases h), S.below⟩
    next =>
     refine At.eqv 48 (.bool (wiB rd 0 0)) (.bool false) (congrArg _ hb3) ?_
     refine At.run 11 [] [(2, .bool false)] ?_
     refine At.nx ?_
     exact Cd.rv r0 [] (.bool false) fun W S => ⟨false, rfl, fun h => (by cases h), S.below⟩
   next =>
    refine At.eqv 41 (.bool (wiB nm 1 64)) (.bool false) (congrArg _ hb2) ?_
    refine At.run 18 [] [(2, .bool false)] ?_
    refine At.nx ?_
    exact Cd.rv r0 [] (.bool false) fun W S => ⟨false, rfl, fun h => (by cases h), S.below⟩
/-- What Lock answers, so that a nought says more. -/
structure LkA (d : Dd) (bs : List Nat) where
  e : Int
  a : Option Addr
  l : List Nat
  c : Nat
  le : l.length ≤ c
  h : e = 0 → d.right ∧ l = d.words ++ bs
theorem calls_words {w W : World} {L : List (Nat × Obj)} {X : List Xt} {d : Dd} (hr : d.right) (hl : d.cm.length = 20) (S : Sx w L X W) : Calls Try.prog 11 #[.agg (deedc d)] W fun e w' => ∃ y : {y : Lt // d.words.length ≤ y.c}, e = .returned (.slice y.1.a d.words.length y.1.c) ∧ Sx w L (xown w (.slice y.1.a d.words.length y.1.c) d.words :: X) w' := by
  have h0 := hr
  unfold Dd.right at h0
  exact calls_own S (lb_words d (by omega) (by omega) hl (by rw [sb_len]; omega) (by rw [sb_len]; omega) (by rw [sb_len]; omega) W)
theorem words_lek {d : Dd} (hr : d.right) (hl : d.cm.length = 20) : d.words.length ≤ 400 := by
  have h := Dd.words_le d hl
  unfold Dd.right at hr
  omega
set_option maxRecDepth 100000 in
theorem lock_k (k : Int) (nm vl rd : ByteArray) (cm : List Nat) (hl : cm.length = 20) (hz : nm.size + rd.size + vl.size ≤ 9223372036854775807) (v : Value) (bs : List Nat) (hb5 : bs.length ≤ 1000000) (w : World) (hp : PieceV w w.heap.size v bs) : Calls Try.prog 5 #[.agg (deed5 k (.string nm) (.string vl) (.string rd) cm), v] w fun e w' => ∃ z : LkA (⟨k, nm, vl, rd, cm⟩ : Dd) bs, e = .returned (.tuple #[.slice z.a z.l.length z.c, .int .i64 z.e]) ∧ PadR w (.slice z.a z.l.length z.c) z.l w' := by
 obtain ⟨A, c, rfl⟩ := hp.shape
 have S0 := Sx.ofpc hp
 clear hp
 refine enterQ 23 (fun q => .seq (q 0) (.seq (.seq (q 1) (.cond (.tmp 17) (.seq (q 2) .ret) .skip)) (.seq (q 3) .ret))) S0 Try.func5 ?_
 refine Cd.sr ?_
 refine At.new 0 [] 2 (deed5 k (.string nm) (.string vl) (.string rd) cm) 25 fun g2 h2 => ?_
 refine At.run 2 [] [] ?_
 refine At.nx ?_
 refine Cd.seq ?_
 refine Cd.sr ?_
 refine At.callX 1 [] 7 (fun W S => calls_bool S (right_k k nm vl rd cm hl hz W)) fun b1 => ?_
 refine At.run 2 [] [(9, .bool (!b1.1))] ?_
 rcases Bool.eq_false_or_eq_true (!b1.1) with hb | hb
 next =>
  refine At.eqv 9 (.bool (!b1.1)) (.bool true) (congrArg _ hb) ?_
  refine At.run 8 [] [(17, .bool true)] ?_
  refine At.nx ?_
  refine Cd.ct ?_
  refine Cd.sr ?_
  refine At.run 2 [] [(4, .slice none 0 0), (5, .int .i64 81)] ?_
  refine At.nx ?_
  exact Cd.rv (rt r0) [] (.tuple #[.slice none 0 0, .int .i64 81]) fun W S => ⟨⟨81, none, [], 0, Nat.le_refl _, fun h => (by cases h)⟩, rfl, PadR.nil' S.below rfl⟩
 next =>
  refine At.eqv 9 (.bool (!b1.1)) (.bool false) (congrArg _ hb) ?_
  refine At.run 4 [] [(13, .bool (k == 0))] ?_
  rcases Bool.eq_false_or_eq_true (k == 0) with hb1 | hb1
  next =>
   refine At.eqv 13 (.bool (k == 0)) (.bool true) (congrArg _ hb1) ?_
   refine At.call 1 [] 15 (fun W S => says_k _ bs W (S.pc 0 rfl)) ?_
   refine At.run 2 [] [(17, .bool (sayB bs))] ?_
   refine At.nx ?_
   rcases Bool.eq_false_or_eq_true (sayB bs) with hb2 | hb2
   next =>
    refine Cd.eqv 17 (.bool (sayB bs)) (.bool true) (congrArg _ hb2) ?_
    refine Cd.ct ?_
    refine Cd.sr ?_
    refine At.run 2 [] [(4, .slice none 0 0), (5, .int .i64 81)] ?_
    refine At.nx ?_
    exact Cd.rv (rt r0) [] (.tuple #[.slice none 0 0, .int .i64 81]) fun W S => ⟨⟨81, none, [], 0, Nat.le_refl _, fun h => (by cases h)⟩, rfl, PadR.nil' S.below rfl⟩
   next =>
    refine Cd.eqv 17 (.bool (sayB bs)) (.bool false) (congrArg _ hb2) ?_
    refine Cd.cf ?_
    refine Cd.sk ?_
    show Cd _ _ _ _ _ _ _ _
    have hr := b1.2 (by simpa using hb)
    have hwl := words_lek hr hl
    refine Cd.sr ?_
    refine At.callX 1 [] 19 (fun W S => calls_words (d := (⟨k, nm, vl, rd, cm⟩ : Dd)) hr hl S) fun y8 => ?_
    refine At.sli 1 [] 21 2 (#[.slice y8.1.a ((⟨k, nm, vl, rd, cm⟩ : Dd).words.length) y8.1.c, .slice A bs.length c]) 26 fun g21 h21 => ?_
    refine At.callX 0 [] 22 (fun W S => calls_own (bs := ((⟨k, nm, vl, rd, cm⟩ : Dd).words ++ bs)) S (by have h := concat_c (.slice (some ⟨g21, 0, none⟩) 2 2) [(⟨k, nm, vl, rd, cm⟩ : Dd).words, bs] W (pcs2 (S.at 0 rfl) (S.ownpc 0 rfl) (S.pc 1 rfl)) (by simp only [List.flatten_cons, List.flatten_nil, List.length_append, List.length_nil]; omega) (by simp); rw [show [(⟨k, nm, vl, rd, cm⟩ : Dd).words, bs].flatten = ((⟨k, nm, vl, rd, cm⟩ : Dd).words ++ bs) by simp] at h; exact h)) fun y9 => ?_
    refine At.run 2 [] [(4, .slice y9.1.a (((⟨k, nm, vl, rd, cm⟩ : Dd).words ++ bs).length) y9.1.c), (5, .int .i64 0)] ?_
    refine At.nx ?_
    exact Cd.rv r0 [] (.tuple #[.slice y9.1.a (((⟨k, nm, vl, rd, cm⟩ : Dd).words ++ bs).length) y9.1.c, .int .i64 0]) fun W S => ⟨⟨0, y9.1.a, (⟨k, nm, vl, rd, cm⟩ : Dd).words ++ bs, y9.1.c, by have := y9.2; omega, fun _ => ⟨hr, rfl⟩⟩, rfl, S.padr 0 rfl⟩
  next =>
   refine At.eqv 13 (.bool (k == 0)) (.bool false) (congrArg _ hb1) ?_
   refine At.run 4 [] [(17, .bool false)] ?_
   refine At.nx ?_
   refine Cd.cf ?_
   refine Cd.sk ?_
   show Cd _ _ _ _ _ _ _ _
   have hr := b1.2 (by simpa using hb)
   have hwl := words_lek hr hl
   refine Cd.sr ?_
   refine At.callX 1 [] 19 (fun W S => calls_words (d := (⟨k, nm, vl, rd, cm⟩ : Dd)) hr hl S) fun y8 => ?_
   refine At.sli 1 [] 21 2 (#[.slice y8.1.a ((⟨k, nm, vl, rd, cm⟩ : Dd).words.length) y8.1.c, .slice A bs.length c]) 26 fun g21 h21 => ?_
   refine At.callX 0 [] 22 (fun W S => calls_own (bs := ((⟨k, nm, vl, rd, cm⟩ : Dd).words ++ bs)) S (by have h := concat_c (.slice (some ⟨g21, 0, none⟩) 2 2) [(⟨k, nm, vl, rd, cm⟩ : Dd).words, bs] W (pcs2 (S.at 0 rfl) (S.ownpc 0 rfl) (S.pc 1 rfl)) (by simp only [List.flatten_cons, List.flatten_nil, List.length_append, List.length_nil]; omega) (by simp); rw [show [(⟨k, nm, vl, rd, cm⟩ : Dd).words, bs].flatten = ((⟨k, nm, vl, rd, cm⟩ : Dd).words ++ bs) by simp] at h; exact h)) fun y9 => ?_
   refine At.run 2 [] [(4, .slice y9.1.a (((⟨k, nm, vl, rd, cm⟩ : Dd).words ++ bs).length) y9.1.c), (5, .int .i64 0)] ?_
   refine At.nx ?_
   exact Cd.rv r0 [] (.tuple #[.slice y9.1.a (((⟨k, nm, vl, rd, cm⟩ : Dd).words ++ bs).length) y9.1.c, .int .i64 0]) fun W S => ⟨⟨0, y9.1.a, (⟨k, nm, vl, rd, cm⟩ : Dd).words ++ bs, y9.1.c, by have := y9.2; omega, fun _ => ⟨hr, rfl⟩⟩, rfl, S.padr 0 rfl⟩
end Go.Proofs.Ytljcaegcbcikiaa
namespace Go.Proofs.Ytljcaegcbcikiaa
open Go.RowKit
set_option maxRecDepth 100000 in
theorem pushed_0 (A : Option Addr) (c : Nat) (w : World) : Calls Try.prog 16 #[.slice A 0 c, .int .i64 1] w fun e w' => e = .returned (.tuple #[.slice none 0 0, .slice none 0 0, .bool false]) ∧ Below w.heap.size w w' := by
 refine enterQ 34 (fun q => .seq (q 0) (.seq (q 1) (.seq (.seq (q 2) (.block 0 (.loop (.seq (q 3) (.seq (.cond (.tmp 14) .skip (.exit 0)) (.seq (.block 1 (.seq (q 4) (.seq (.seq (q 5) (.cond (.tmp 23) (.seq (q 6) .ret) .skip)) (.seq (q 7) (q 8))))) (q 9))))))) (.seq (q 10) .ret)))) (Sx.nil w) Try.func16 ?_
 refine Cd.sr ?_
 refine At.run 3 [] [] ?_
 refine At.nx ?_
 refine Cd.sr ?_
 refine At.run 1 [] [(7, .slice none 0 0)] ?_
 refine At.nx ?_
 refine Cd.seq ?_
 refine Cd.sr ?_
 refine At.run 2 [] [(12, .int .i64 1), (13, .int .i64 0)] ?_
 refine At.nx ?_
 refine Cd.blk ?_
 refine Cd.loop (ι := Unit) (fun _ => 0) (fun _ => [(0, .slice A 0 c), (1, .int .i64 1), (7, .slice none 0 0), (12, .int .i64 1), (13, .int .i64 0)]) (fun _ => []) (fun _ => []) () (fun _ S => S) (fun _ => ?_) 
 refine Cd.sr ?_
 refine At.run 1 [] [(14, .bool true)] ?_
 refine At.nx ?_
 refine Cd.seq ?_
 refine Cd.ct ?_
 refine Cd.sk ?_
 show Cd _ _ _ _ _ _ _ _
 refine Cd.seq ?_
 refine Cd.blk ?_
 refine Cd.sr ?_
 refine At.call 1 [] 17 (fun W S => wnext0 (bs := []) (nxt_nil [] rfl) (next_k (.slice A 0 c) [] W (Or.inl ⟨⟨A, c, rfl⟩, rfl⟩) (fun a n c' h => by cases h; exact Nat.zero_le _) (fun y h => by cases h) (by decide))) ?_
 refine At.run 9 [] [(9, .slice none 0 0), (10, .int .i64 0), (11, .int .i64 71)] ?_
 refine At.nx ?_
 refine Cd.seq ?_
 refine Cd.sr ?_
 refine At.run 2 [] [(23, .bool true)] ?_
 refine At.nx ?_
 refine Cd.ct ?_
 refine Cd.sr ?_
 refine At.run 3 [] [(4, .slice none 0 0), (5, .slice none 0 0), (6, .bool false)] ?_
 refine At.nx ?_
 exact Cd.rv (rt (rb (rt (rt (rb (rt r0)))))) [] (.tuple #[.slice none 0 0, .slice none 0 0, .bool false]) fun W S => ⟨rfl, S.below⟩
theorem boolv {b b2 : Bool} {P : Program} {fid : FuncId} {vs : Array Value} {w : World} (h : b = b2) (hc : Calls P fid vs w fun e w' => e = .returned (.bool b) ∧ Below w.heap.size w w') : Calls P fid vs w fun e w' => e = .returned (.bool b2) ∧ Below w.heap.size w w' := by subst h; exact hc
theorem cut1_run {g : Nat} (W : World) : ∃ a', (Instr.sliceAt 26 (.slice (some ⟨g, 0, none⟩) 1 1) (some (.int .i64 1)) none none).run Try.prog W = .ok (.slice a' 0 0) W := by
  rw [run_sliceAt_slice _ _ _ _ _ _ bytes_slice, run_slice_l W 26 _ 1 1 bytes_slice .i64 1 (by decide) (by decide), byte_size]
  exact ⟨_, rfl⟩
set_option maxRecDepth 100000 in
theorem split_84 (g : Nat) (w : World) (hp : PieceV w w.heap.size (.slice (some ⟨g, 0, none⟩) 1 1) [84]) : Calls Try.prog 7 #[.slice (some ⟨g, 0, none⟩) 1 1] w fun e w' => ∃ y : Lt, e = .returned (.tuple #[.agg (deed5 0 (.string ⟨#[]⟩) (.string ⟨#[]⟩) (.string ⟨#[]⟩) noCm), .slice y.a ([84] : List Nat).length y.c, .int .i64 0]) ∧ PadR w (.slice y.a ([84] : List Nat).length y.c) [84] w' := by
 have S0 := Sx.ofpc hp
 refine enterQ 116 (fun q => .seq (q 0) (.seq (.seq (q 1) (.cond (.tmp 12) (.seq (q 2) .ret) .skip)) (.seq (q 3) (.seq (q 4) (.seq (.seq (q 5) (.cond (.tmp 35) (.seq (q 6) .ret) .skip)) (.seq (.block 0 (.seq (q 8) (.cond (.tmp 38) (q 9) (.seq (q 10) (.cond (.tmp 55) (q 11) (.seq (q 12) (.cond (.tmp 74) (q 13) (.seq (q 7) .ret)))))))) (.seq (q 14) (.seq (.seq (q 15) (.cond (.tmp 108) (.seq (q 16) .ret) .skip)) (.seq (q 17) .ret))))))))) S0 Try.func7 ?_
 refine Cd.sr ?_
 refine At.new 0 [] 2 (deed5 0 (.string ⟨#[]⟩) (.string ⟨#[]⟩) (.string ⟨#[]⟩) noCm) 25 fun g2 h2 => ?_
 refine At.run 2 [] [] ?_
 refine At.nx ?_
 refine Cd.seq ?_
 refine Cd.sr ?_
 refine At.call 1 [] 11 (fun W S => boolv (b := sayB [84]) rfl (says_k _ [84] W (S.pc 0 rfl))) ?_
 refine At.run 1 [] [(12, .bool true)] ?_
 refine At.nx ?_
 refine Cd.ct ?_
 refine Cd.sr ?_
 refine At.run 2 [] [(13, .agg (deed5 0 (.string ⟨#[]⟩) (.string ⟨#[]⟩) (.string ⟨#[]⟩) noCm)), (14, .slice (some ⟨g, 0, none⟩) 1 1)] ?_
 refine At.callX 0 [] 15 (fun W S => calls_own (bs := [84]) S (clone_c _ [84] W (S.pc 0 rfl) (by decide))) fun y => ?_
 refine At.st 0 [] 0 (deed5 0 (.string ⟨#[]⟩) (.string ⟨#[]⟩) (.string ⟨#[]⟩) noCm) h2 ?_
 refine At.run 2 [] [(3, .slice y.1.a (([84] : List Nat).length) y.1.c), (4, .int .i64 0)] ?_
 refine At.nx ?_
 exact Cd.rv (rt r0) [] (.tuple #[.agg (deed5 0 (.string ⟨#[]⟩) (.string ⟨#[]⟩) (.string ⟨#[]⟩) noCm), .slice y.1.a (([84] : List Nat).length) y.1.c, .int .i64 0]) fun W S => ⟨y.1, rfl, S.padr 0 rfl⟩
set_option maxRecDepth 100000 in
theorem split_81 (g : Nat) (w : World) (hp : PieceV w w.heap.size (.slice (some ⟨g, 0, none⟩) 1 1) [81]) : Calls Try.prog 7 #[.slice (some ⟨g, 0, none⟩) 1 1] w fun e w' => e = .returned (.tuple #[.agg (deed5 0 (.string ⟨#[]⟩) (.string ⟨#[]⟩) (.string ⟨#[]⟩) noCm), .slice none 0 0, .int .i64 81]) ∧ Below w.heap.size w w' := by
 have S0 := Sx.ofpc hp
 refine enterQ 116 (fun q => .seq (q 0) (.seq (.seq (q 1) (.cond (.tmp 12) (.seq (q 2) .ret) .skip)) (.seq (q 3) (.seq (q 4) (.seq (.seq (q 5) (.cond (.tmp 35) (.seq (q 6) .ret) .skip)) (.seq (.block 0 (.seq (q 8) (.cond (.tmp 38) (q 9) (.seq (q 10) (.cond (.tmp 55) (q 11) (.seq (q 12) (.cond (.tmp 74) (q 13) (.seq (q 7) .ret)))))))) (.seq (q 14) (.seq (.seq (q 15) (.cond (.tmp 108) (.seq (q 16) .ret) .skip)) (.seq (q 17) .ret))))))))) S0 Try.func7 ?_
 refine Cd.sr ?_
 refine At.new 0 [] 2 (deed5 0 (.string ⟨#[]⟩) (.string ⟨#[]⟩) (.string ⟨#[]⟩) noCm) 25 fun g2 h2 => ?_
 refine At.run 2 [] [] ?_
 refine At.nx ?_
 refine Cd.seq ?_
 refine Cd.sr ?_
 refine At.call 1 [] 11 (fun W S => boolv (b := sayB [81]) rfl (says_k _ [81] W (S.pc 0 rfl))) ?_
 refine At.run 1 [] [(12, .bool false)] ?_
 refine At.nx ?_
 refine Cd.cf ?_
 refine Cd.sk ?_
 show Cd _ _ _ _ _ _ _ _
 refine Cd.sr ?_
 refine At.ixs 1 [] 17 1 g 0 1 1 .i64 0 (by decide) ?_
 refine At.ld 0 [] 18 g (0 + 0 * 1) (.int .u8 81) (fun W S => (S.pcS 0 rfl).at 0 _ (by decide) (by omega)) ?_
 refine At.run 4 [] [(22, .agg (deed5 1 (.string ⟨#[]⟩) (.string ⟨#[]⟩) (.string ⟨#[]⟩) noCm))] ?_
 refine At.new 0 [] 5 (deed5 0 (.string ⟨#[]⟩) (.string ⟨#[]⟩) (.string ⟨#[]⟩) noCm) 25 fun g5 h5 => ?_
 refine At.st 0 [] 0 (deed5 1 (.string ⟨#[]⟩) (.string ⟨#[]⟩) (.string ⟨#[]⟩) noCm) h5 ?_
 refine At.nx ?_
 refine Cd.seq ?_
 refine Cd.dr 13 [] [(6, .tuple #[.slice none 0 0, .slice none 0 0, .bool false])] [] [(1, fun y => .slice y.a 0 0, fun _ _ => True)] [(2, .agg #[.int .i64 0, .int .i64 1, .int .i64 3, .int .i64 2], .agg #[.int .i64 0, .int .i64 1, .int .i64 3, .int .i64 2]), (5, .int .i64 1, .int .i64 1)] (fun u4 => [(33, .bool false), (6, .slice none 0 0)]) (fun u4 => [(g5, .cells (deed5 1 (.string ⟨#[]⟩) (.string ⟨#[]⟩) (.string ⟨#[]⟩) noCm) 25 (0, 0)), (g2, .cells (deed5 0 (.string ⟨#[]⟩) (.string ⟨#[]⟩) (.string ⟨#[]⟩) noCm) 25 (0, 0))]) (fun u4 => [xpc w.heap.size (.slice (some ⟨g, 0, none⟩) 1 1) [81]]) (stays_cons (fun _ _ _ _ _ => trivial) stays_nil) (eqs_cons (rfl) (eqs_cons (rfl) eqs_nil)) (.cons 1 (fun u4 W S h => (by obtain ⟨a', e⟩ := cut1_run (g := g) W; exact sem_obL (V := fun y => .slice y.a 0 0) (R := fun _ _ => True) (lt0 a' 0 0) e trivial (Below.refl _ _))) <| .cons 6 (fun u4 W S h => pushed_0 ((u4 1).a) 0 W) <| .nil) (fun u4 W S h => S) fun u4 hu4 => ?_
 refine At.run 1 [] [(8, .bool false)] ?_
 refine At.nx ?_
 refine Cd.seq ?_
 refine Cd.sr ?_
 refine At.run 2 [] [(35, .bool true)] ?_
 refine At.nx ?_
 refine Cd.ct ?_
 refine Cd.sr ?_
 refine At.st 1 [] 1 (deed5 0 (.string ⟨#[]⟩) (.string ⟨#[]⟩) (.string ⟨#[]⟩) noCm) h2 ?_
 refine At.run 2 [] [(3, .slice none 0 0), (4, .int .i64 81)] ?_
 refine At.nx ?_
 exact Cd.rv (rt r0) [1] (.tuple #[.agg (deed5 0 (.string ⟨#[]⟩) (.string ⟨#[]⟩) (.string ⟨#[]⟩) noCm), .slice none 0 0, .int .i64 81]) fun W S => ⟨rfl, S.below⟩
theorem calls_84 {w W : World} {L : List (Nat × Obj)} {X : List Xt} {fid : FuncId} {vs : Array Value} {bs : List Nat} {V : Lt → Value} (S : Sx w L X W) (hc : Calls Try.prog fid vs W fun e w' => ∃ y : Lt, e = .returned (V y) ∧ PadR W (.slice y.a bs.length y.c) bs w') : Calls Try.prog fid vs W fun e w' => ∃ y : Lt, e = .returned (V y) ∧ Sx w L (xown w (.slice y.a bs.length y.c) bs :: X) w' :=
  hc.mono fun e w' ⟨y, he, hp⟩ => ⟨y, he, S.gave hp⟩
set_option maxRecDepth 100000 in
theorem lalive_k (w : World) : Calls Try.prog 4 #[] w fun e w' => e = .returned (.bool true) ∧ Below w.heap.size w w' := by
 refine enterQ 35 (fun q => .seq (q 0) (.seq (q 1) (.seq (q 2) (.seq (q 3) .ret)))) (Sx.nil w) Try.func4 ?_
 refine Cd.sr ?_
 refine At.run 1 [] [] ?_
 refine At.nx ?_
 refine Cd.sr ?_
 refine At.sli 0 [] 8 1 (#[.int .u8 81]) 5 fun g8 h8 => ?_
 refine At.call 0 [] 9 (fun W S => split_81 g8 W (row_pcz (S.at 0 rfl) rfl rfl)) ?_
 refine At.run 4 [] [(10, .agg (deed5 0 (.string ⟨#[]⟩) (.string ⟨#[]⟩) (.string ⟨#[]⟩) noCm)), (11, .slice none 0 0), (12, .int .i64 81)] ?_
 refine At.new 0 [] 1 (deed5 0 (.string ⟨#[]⟩) (.string ⟨#[]⟩) (.string ⟨#[]⟩) noCm) 25 fun g1 h1 => ?_
 refine At.st 0 [] 0 (deed5 0 (.string ⟨#[]⟩) (.string ⟨#[]⟩) (.string ⟨#[]⟩) noCm) h1 ?_
 refine At.run 2 [] [(3, .int .i64 81)] ?_
 refine At.nx ?_
 refine Cd.sr ?_
 refine At.sli 0 [] 14 1 (#[.int .u8 84]) 5 fun g14 h14 => ?_
 refine At.callX 0 [] 15 (fun W S => calls_84 (bs := [84]) (V := fun y => .tuple #[.agg (deed5 0 (.string ⟨#[]⟩) (.string ⟨#[]⟩) (.string ⟨#[]⟩) noCm), .slice y.a ([84] : List Nat).length y.c, .int .i64 0]) S (split_84 g14 W (row_pcz (S.at 0 rfl) rfl rfl))) fun y => ?_
 refine At.run 4 [] [(16, .agg (deed5 0 (.string ⟨#[]⟩) (.string ⟨#[]⟩) (.string ⟨#[]⟩) noCm)), (17, .slice y.a (([84] : List Nat).length) y.c), (18, .int .i64 0)] ?_
 refine At.new 0 [] 4 (deed5 0 (.string ⟨#[]⟩) (.string ⟨#[]⟩) (.string ⟨#[]⟩) noCm) 25 fun g4 h4 => ?_
 refine At.st 0 [] 0 (deed5 0 (.string ⟨#[]⟩) (.string ⟨#[]⟩) (.string ⟨#[]⟩) noCm) h4 ?_
 refine At.run 2 [] [(5, .slice y.a (([84] : List Nat).length) y.c), (6, .int .i64 0)] ?_
 refine At.nx ?_
 refine Cd.sr ?_
 refine At.run 9 [] [(25, .bool true), (26, .agg (deed5 0 (.string ⟨#[]⟩) (.string ⟨#[]⟩) (.string ⟨#[]⟩) noCm)), (27, .agg (deed5 0 (.string ⟨#[]⟩) (.string ⟨#[]⟩) (.string ⟨#[]⟩) noCm))] ?_
 refine At.ar 1 [] 28 (.bool true) (.bool true) (rfl) ?_
 refine At.run 3 [] [(30, .bool true), (31, .slice y.a (([84] : List Nat).length) y.c)] ?_
 refine At.sem 0 [] 32 (convert 26 9 (.slice y.a ([84] : List Nat).length y.c)) (.string (nst [84])) (fun W S => run_str (S.ownpc 0 rfl)) ?_
 refine At.ar 1 [] 33 (.bool true) (.bool true) (rfl) ?_
 refine At.run 2 [] [(0, .bool true)] ?_
 refine At.nx ?_
 exact Cd.rv r0 [] (.bool true) fun W S => ⟨rfl, S.below⟩
end Go.Proofs.Ytljcaegcbcikiaa
namespace Go.Proofs.Ytljcaegcbcikiaa
open Go.RowKit
theorem opens_plain {sg : List Nat → List Nat → Bool} {d : Dd} {us rs l : List Nat} (hr : d.right) (hl : d.cm.length = 20) (h5 : rs.length ≤ 2000) (e : l = d.words ++ rs) : Sc.run sg us rs = Sc.run sg us l ∨ Sc.run sg us l = 73 := by
  have g : Sc.run sg us l = Sc.run sg us rs ∨ Sc.run sg us l = 73 := by
    subst e
    obtain ⟨k, nm, vl, rd, cm⟩ := d
    unfold Dd.right at hr
    unfold Dd.words
    simp only at hr hl ⊢
    have z1 := sb_len nm; have z2 := sb_len vl; have z3 := sb_len rd
    rcases hr with h | h | h | h
    · obtain rfl : k = 0 := h.1
      exact Or.inl rfl
    · obtain rfl : k = 1 := h.1
      exact run_lead h5 fun st => lead1 (by omega)
    · obtain rfl : k = 2 := h.1
      exact run_lead h5 fun st => lead2 (by omega) (by omega) (by omega)
    · obtain rfl : k = 3 := h.1
      exact run_lead h5 fun st => lead3 (by omega) (by omega)
  exact g.imp Eq.symm id
theorem words_lt {d : Dd} (hcb : ∀ y, y ∈ d.cm → y < 256) : ∀ y, y ∈ d.words → y < 256 := by
  have h1 := pws_lt [d.cm] (fun x hx => by rw [List.mem_singleton.1 hx]; exact hcb)
  have h2 := pws_lt [sb d.nm, sb d.rd, sb d.vl] (fun x hx => by
    simp only [List.mem_cons, List.not_mem_nil, or_false] at hx
    rcases hx with rfl | rfl | rfl <;> exact sb_lt _)
  have h3 := pws_lt [sb d.nm, sb d.vl] (fun x hx => by
    simp only [List.mem_cons, List.not_mem_nil, or_false] at hx
    rcases hx with rfl | rfl <;> exact sb_lt _)
  intro y hy
  unfold Dd.words at hy
  split at hy
  · simp only [List.mem_append, List.mem_singleton] at hy
    rcases hy with (h | h) | h
    · omega
    · exact h1 y h
    · omega
  · split at hy
    · simp only [List.mem_append, List.mem_cons, List.not_mem_nil, or_false] at hy
      rcases hy with (h | h) | h
      · omega
      · exact h2 y h
      · omega
    · split at hy
      · simp only [List.mem_append, List.mem_cons, List.not_mem_nil, or_false] at hy
        rcases hy with (h | h) | h
        · omega
        · exact h3 y h
        · omega
      · cases hy
theorem calls_lock {w W : World} {L : List (Nat × Obj)} {X : List Xt} {fid : FuncId} {vs : Array Value} {d : Dd} {bs : List Nat} (S : Sx w L X W) (hc : Calls Try.prog fid vs W fun e w' => ∃ z : LkA d bs, e = .returned (.tuple #[.slice z.a z.l.length z.c, .int .i64 z.e]) ∧ PadR W (.slice z.a z.l.length z.c) z.l w') : Calls Try.prog fid vs W fun e w' => ∃ z : LkA d bs, e = .returned (.tuple #[.slice z.a z.l.length z.c, .int .i64 z.e]) ∧ Sx w L (xown w (.slice z.a z.l.length z.c) z.l :: X) w' :=
  hc.mono fun e w' ⟨z, he, hp⟩ => ⟨z, he, S.gave hp⟩
theorem runv {q : Nat} {us ls : List Nat} {P : Program} {fid : FuncId} {vs : Array Value} {w : World} (h : q = Sc.run sgq us ls) (hc : Calls P fid vs w fun e w' => e = .returned (.int .i64 ((Sc.run (sgv fun _ => 0) us ls : Nat) : Int)) ∧ Below w.heap.size w w') : Calls P fid vs w fun e w' => e = .returned (.int .i64 ((q : Nat) : Int)) ∧ Below w.heap.size w w' := by subst h; exact hc
set_option maxHeartbeats 4000000 in
set_option maxRecDepth 100000 in
theorem lopens_w (k : Int) (nm vl rd : ByteArray) (cm : List Nat) (v : Value) (us : List Nat) (v2 : Value) (rs : List Nat) (hd : cm.length = 20 ∧ (∀ y, y ∈ cm → y < 256) ∧ nm.size + rd.size + vl.size ≤ 9223372036854775807) (hbb : (∀ y, y ∈ us → y < 256) ∧ us.length ≤ 9223372036854775807) (hxb : (∀ y, y ∈ rs → y < 256) ∧ rs.length ≤ 9223372036854775807) (w : World) (hp : PieceV w w.heap.size v us) (hca0 : ∀ a n c, v = .slice a n c → n ≤ c) (hq : PieceV w w.heap.size v2 rs) (hca2 : ∀ a n c, v2 = .slice a n c → n ≤ c) : Calls Try.prog 3 #[.agg (deed5 k (.string nm) (.string vl) (.string rd) cm), v, v2] w fun e w' => e = .returned (.bool true) ∧ Below w.heap.size w w' := by
 obtain ⟨A, c, rfl⟩ := hp.shape
 obtain ⟨A2, c2, rfl⟩ := hq.shape
 have huc : us.length ≤ c := hca0 _ _ _ rfl
 have hrc : rs.length ≤ c2 := hca2 _ _ _ rfl
 have S0 := Sx.ofpcz hp hq
 clear hp hq hca0 hca2
 have hu8 := hbb.1
 have hr8 := hxb.1
 obtain ⟨-, hu9⟩ := hbb
 obtain ⟨-, hr9⟩ := hxb
 obtain ⟨hl, hcb, hz⟩ := hd
 refine enterQ 63 (fun q => .seq (q 0) (.seq (.seq (q 1) (.cond (.tmp 14) (.seq (q 2) .ret) .skip)) (.seq (.seq (q 3) (.cond (.tmp 22) (.seq (q 4) .ret) .skip)) (.seq (.seq (q 5) (.block 0 (.loop (.seq (q 6) (.seq (.cond (.tmp 30) .skip (.exit 0)) (.seq (.block 1 (.seq (q 7) (.seq (q 8) (.cond (.tmp 38) (.seq (q 9) .ret) .skip)))) (q 10))))))) (.seq (q 11) (.seq (.seq (q 12) (.cond (.tmp 47) (.seq (q 13) .ret) .skip)) (.seq (q 14) (.seq (q 15) .ret)))))))) S0 Try.func3 ?_
 refine Cd.sr ?_
 refine At.new 0 [] 3 (deed5 k (.string nm) (.string vl) (.string rd) cm) 25 fun g3 h3 => ?_
 refine At.run 1 [] [] ?_
 refine At.nx ?_
 refine Cd.seq ?_
 refine Cd.sr ?_
 refine At.call 0 [] 13 (fun W S => lalive_k W) ?_
 refine At.run 1 [] [(14, .bool false)] ?_
 refine At.nx ?_
 refine Cd.cf ?_
 refine Cd.sk ?_
 show Cd _ _ _ _ _ _ _ _
 refine Cd.seq ?_
 refine Cd.sr ?_
 refine At.run 4 [] [(18, .bool (decide (((us.length : Nat) : Int) > 500)))] ?_
 rcases Bool.eq_false_or_eq_true (decide (((us.length : Nat) : Int) > 500)) with hb | hb
 next =>
  refine At.eqv 18 (.bool (decide (((us.length : Nat) : Int) > 500))) (.bool true) (congrArg _ hb) ?_
  refine At.run 4 [] [(22, .bool true)] ?_
  refine At.nx ?_
  refine Cd.ct ?_
  refine Cd.sr ?_
  refine At.run 1 [] [(6, .bool true)] ?_
  refine At.nx ?_
  exact Cd.rv (rt r0) [] (.bool true) fun W S => ⟨rfl, S.below⟩
 next =>
  refine At.eqv 18 (.bool (decide (((us.length : Nat) : Int) > 500))) (.bool false) (congrArg _ hb) ?_
  refine At.run 4 [] [(22, .bool (decide (((rs.length : Nat) : Int) > 500)))] ?_
  refine At.nx ?_
  rcases Bool.eq_false_or_eq_true (decide (((rs.length : Nat) : Int) > 500)) with hb1 | hb1
  next =>
   refine Cd.eqv 22 (.bool (decide (((rs.length : Nat) : Int) > 500))) (.bool true) (congrArg _ hb1) ?_
   refine Cd.ct ?_
   refine Cd.sr ?_
   refine At.run 1 [] [(6, .bool true)] ?_
   refine At.nx ?_
   exact Cd.rv (rt r0) [] (.bool true) fun W S => ⟨rfl, S.below⟩
  next =>
   refine Cd.eqv 22 (.bool (decide (((rs.length : Nat) : Int) > 500))) (.bool false) (congrArg _ hb1) ?_
   refine Cd.cf ?_
   refine Cd.sk ?_
   show Cd _ _ _ _ _ _ _ _
   refine Cd.seq ?_
   refine Cd.sr ?_
   have hle : us.length ≤ 500 ∧ rs.length ≤ 500 := by have q0 := of_decide_eq_false hb; have q1 := of_decide_eq_false hb1; omega
   refine At.sli 0 [] 23 0 ((bcells []).toArray) 5 fun g23 h23 => ?_
   refine At.as (L' := [(g3, .cells (deed5 k (.string nm) (.string vl) (.string rd) cm) 25 (0, 0))]) (X' := xog 5 w (.slice (some ⟨g23, 0, none⟩) 0 0) (bcells []) :: [xpc w.heap.size (.slice A us.length c) us, xpc w.heap.size (.slice A2 rs.length c2) rs]) (fun _ S => (S.ogrow h23 rfl)) ?_
   refine At.appb 1 [] 25 (v := .slice (some ⟨g23, 0, none⟩) 0 0) (xv := .slice A us.length c) (l := []) (m := us) 0 rfl (fun W S => S.pc 1 rfl) (by simp only [List.length_append, List.length_nil]; omega) fun y1 hy1 => ?_
   refine At.appb 1 [] 27 (v := y1.sl) (xv := .slice A2 rs.length c2) (l := ([] ++ us)) (m := rs) 0 rfl (fun W S => S.pc 2 rfl) (by simp only [List.length_append, List.length_nil]; omega) fun y2 hy2 => ?_
   obtain ⟨ya, yn, yc, yp, yq⟩ := y2
   obtain ⟨al, eal⟩ : ∃ l, l = [] ++ us ++ rs := ⟨_, rfl⟩
   rw [← eal] at hy2 ⊢
   have hal : al.length = us.length + rs.length := by rw [eal]; simp only [List.length_append, List.length_nil]; omega
   obtain rfl : yn = al.length := hy2
   refine At.run 2 [] [(28, .int .i64 ((al.length : Nat) : Int)), (29, .int .i64 0)] ?_
   refine At.nx ?_
   refine Cd.blk ?_
   refine Cd.loop (ι := Nat) (fun i => al.length - i) (fun i => [(0, .agg (deed5 k (.string nm) (.string vl) (.string rd) cm)), (1, .slice A us.length c), (2, .slice A2 rs.length c2), (3, pt g3), (13, .bool true), (14, .bool false), (18, .bool false), (22, .bool false), (23, .slice (some ⟨g23, 0, none⟩) 0 0), (25, y1.sl), (27, .slice ya al.length yc), (28, .int .i64 ((al.length : Nat) : Int)), (29, .int .i64 ((i : Nat) : Int))]) (fun i => [(g3, .cells (deed5 k (.string nm) (.string vl) (.string rd) cm) 25 (0, 0))]) (fun i => [xog 5 w (.slice ya al.length yc) (bcells al), xpc w.heap.size (.slice A us.length c) us, xpc w.heap.size (.slice A2 rs.length c2) rs]) 0 (fun _ S => S) (fun i => ?_) 
   refine Cd.sr ?_
   refine At.run 1 [] [(30, .bool (decide (((i : Nat) : Int) < ((al.length : Nat) : Int))))] ?_
   refine At.nx ?_
   refine Cd.seq ?_
   rcases Bool.eq_false_or_eq_true (decide (((i : Nat) : Int) < ((al.length : Nat) : Int))) with hb2 | hb2
   next =>
    refine Cd.eqv 30 (.bool (decide (((i : Nat) : Int) < ((al.length : Nat) : Int)))) (.bool true) (congrArg _ hb2) ?_
    refine Cd.ct ?_
    refine Cd.sk ?_
    show Cd _ _ _ _ _ _ _ _
    refine Cd.seq ?_
    refine Cd.blk ?_
    refine Cd.sr ?_
    have him : i < al.length := by have q := of_decide_eq_true hb2; omega
    refine At.fact (p := ∃ b o, ya = some ⟨b, o, none⟩) (fun W S => (S.og 0 rfl).based (by rw [bcells_len]; omega)) (fun ⟨b, o, eA⟩ => ?_)
    subst eA
    refine At.ixs 0 [] 31 1 b o al.length yc .i64 i him ?_
    refine At.ld 0 [] 32 b (o + i * 1) (.int .u8 ((nth al i : Nat) : Int)) (fun W S => (S.og 0 rfl).at i _ _ (bcells_get al i him) (by omega)) ?_
    refine At.run 1 [] [(8, .int .u8 ((nth al i : Nat) : Int))] ?_
    refine At.nx ?_
    refine Cd.sr ?_
    refine At.run 3 [] [(35, .bool (((nth al i : Nat) : Int) == 172))] ?_
    rcases Bool.eq_false_or_eq_true (((nth al i : Nat) : Int) == 172) with hb3 | hb3
    next =>
     refine At.eqv 35 (.bool (((nth al i : Nat) : Int) == 172)) (.bool true) (congrArg _ hb3) ?_
     refine At.run 3 [] [(38, .bool true)] ?_
     refine At.nx ?_
     refine Cd.ct ?_
     refine Cd.sr ?_
     refine At.run 1 [] [(6, .bool true)] ?_
     refine At.nx ?_
     exact Cd.rv (rb (rt (rt (rb (rt r0))))) [] (.bool true) fun W S => ⟨rfl, S.below⟩
    next =>
     refine At.eqv 35 (.bool (((nth al i : Nat) : Int) == 172)) (.bool false) (congrArg _ hb3) ?_
     refine At.run 3 [] [(38, .bool (((nth al i : Nat) : Int) == 173))] ?_
     refine At.nx ?_
     rcases Bool.eq_false_or_eq_true (((nth al i : Nat) : Int) == 173) with hb4 | hb4
     next =>
      refine Cd.eqv 38 (.bool (((nth al i : Nat) : Int) == 173)) (.bool true) (congrArg _ hb4) ?_
      refine Cd.ct ?_
      refine Cd.sr ?_
      refine At.run 1 [] [(6, .bool true)] ?_
      refine At.nx ?_
      exact Cd.rv (rb (rt (rt (rb (rt r0))))) [] (.bool true) fun W S => ⟨rfl, S.below⟩
     next =>
      refine Cd.eqv 38 (.bool (((nth al i : Nat) : Int) == 173)) (.bool false) (congrArg _ hb4) ?_
      refine Cd.cf ?_
      refine Cd.sk ?_
      show Cd _ _ _ _ _ _ _ _
      refine Cd.rg ?_
      refine At.ar 1 [] 39 (.int .i64 (IntKind.i64.wrap (((i : Nat) : Int) + 1))) (.int .i64 ((i + 1 : Nat) : Int)) (congrArg _ (wri64 (by omega) (by omega))) ?_
      refine At.run 1 [] [(29, .int .i64 ((i + 1 : Nat) : Int))] ?_
      refine At.fin ?_
      exact again_of (i + 1) (by have q := of_decide_eq_true hb2; omega) (fun _ S => S)
   next =>
    refine Cd.eqv 30 (.bool (decide (((i : Nat) : Int) < ((al.length : Nat) : Int)))) (.bool false) (congrArg _ hb2) ?_
    refine Cd.cf ?_
    refine Cd.ex ?_
    show Cd _ _ _ _ _ _ _ _
    refine Cd.sr ?_
    refine At.callX 2 [] 43 (fun W S => calls_lock (d := (⟨k, nm, vl, rd, cm⟩ : Dd)) S (lock_k k nm vl rd cm hl hz _ rs (by omega) W (S.pc 2 rfl))) fun z => ?_
    refine At.run 5 [] [(9, .slice z.a z.l.length z.c), (10, .int .i64 z.e)] ?_
    refine At.nx ?_
    refine Cd.seq ?_
    refine Cd.sr ?_
    refine At.run 2 [] [(47, .bool (z.e != 0))] ?_
    refine At.nx ?_
    rcases Bool.eq_false_or_eq_true (z.e != 0) with hb3 | hb3
    next =>
     refine Cd.eqv 47 (.bool (z.e != 0)) (.bool true) (congrArg _ hb3) ?_
     refine Cd.ct ?_
     refine Cd.sr ?_
     refine At.run 1 [] [(6, .bool true)] ?_
     refine At.nx ?_
     exact Cd.rv (rt r0) [] (.bool true) fun W S => ⟨rfl, S.below⟩
    next =>
     refine Cd.eqv 47 (.bool (z.e != 0)) (.bool false) (congrArg _ hb3) ?_
     refine Cd.cf ?_
     refine Cd.sk ?_
     show Cd _ _ _ _ _ _ _ _
     refine Cd.sr ?_
     have hz0 : z.e = 0 := by simpa using hb3
     have hzl := z.h hz0
     have hz8 : ∀ y, y ∈ z.l → y < 256 := by rw [hzl.2]; exact fun y hy => (List.mem_append.1 hy).elim (words_lt (d := (⟨k, nm, vl, rd, cm⟩ : Dd)) hcb y) (hr8 y)
     obtain ⟨r1, er1⟩ : ∃ r, r = Sc.run sgq us rs := ⟨_, rfl⟩
     obtain ⟨r2, er2⟩ : ∃ r, r = Sc.run sgq us z.l := ⟨_, rfl⟩
     have hfin : r1 = r2 ∨ r2 = 73 := by rw [er1, er2]; exact opens_plain hzl.1 hl (by omega) hzl.2
     refine At.call 3 [] 51 (fun W S => runv er1 (srun_c (ua := A) (uc := c) (us := us) (la := A2) (lc := c2) (ls := rs) zeroh8 huc hrc hu8 hr8 W (S.pc 2 rfl) (S.pc 3 rfl))) ?_
     refine At.call 3 [] 55 (fun W S => runv er2 (srun_c (ua := A) (uc := c) (us := us) (la := z.a) (lc := z.c) (ls := z.l) zeroh8 huc z.le hu8 hz8 W (S.pc 2 rfl) (S.ownpc 0 rfl))) ?_
     refine At.run 2 [] [(11, .int .i64 ((r1 : Nat) : Int)), (12, .int .i64 ((r2 : Nat) : Int))] ?_
     refine At.nx ?_
     refine Cd.sr ?_
     refine At.run 4 [] [(59, .bool (((r1 : Nat) : Int) == ((r2 : Nat) : Int)))] ?_
     rcases Bool.eq_false_or_eq_true (((r1 : Nat) : Int) == ((r2 : Nat) : Int)) with hb4 | hb4
     next =>
      refine At.eqv 59 (.bool (((r1 : Nat) : Int) == ((r2 : Nat) : Int))) (.bool true) (congrArg _ hb4) ?_
      refine At.run 4 [] [(6, .bool true)] ?_
      refine At.nx ?_
      exact Cd.rv r0 [] (.bool true) fun W S => ⟨rfl, S.below⟩
     next =>
      refine At.eqv 59 (.bool (((r1 : Nat) : Int) == ((r2 : Nat) : Int))) (.bool false) (congrArg _ hb4) ?_
      refine At.run 4 [] [(6, .bool (((r2 : Nat) : Int) == 73))] ?_
      refine At.nx ?_
      exact Cd.rv r0 [] (.bool (((r2 : Nat) : Int) == 73)) fun W S => ⟨congrArg (fun b => Ending.returned (.bool b)) (by have q := beq_eq_false_iff_ne.1 hb4; exact beq_iff_eq.2 (by omega)), S.below⟩
end Go.Proofs.Ytljcaegcbcikiaa
namespace Go.Proofs.Ytljcaegcbcikiaa
open Go.ChangeShapes Go.WideShapes Go.ChangeAt Go.RowKit
theorem own_c : ownKnob Try.prog.godebug = none := by kernel_rfl
theorem laid_c : laidOutB Try.prog = true := by kernel_rfl
theorem trodAll_stays {H : Type} {enc : TypeId × Value → H} {P : Program} (hl : laidOutB P = true) {W W' : World} (hb : Below W.heap.size W W') : ∀ (ts : List TypeId) (args : List Value) (ds : List (DataW H)) (p : List MemPlace),
    (∀ t, t ∈ ts → P.readableRec t = true ∧ t < P.types.size) → DataW.TrodAll enc P W 0 (fun _ => true) true ts args ds p → (∀ x ∈ p, x.block < W.heap.size) →
    DataW.TrodAll enc P W' 0 (fun b => decide (b < W.heap.size)) true ts args ds p
  | [], args, ds, p, _, h, _ => by
    obtain ⟨rfl, rfl, rfl⟩ := trodAll_nil h
    exact rfl
  | t :: ts, args, ds, p, ht, h, hp => by
    obtain ⟨v, vs, d, ds', p1, p2, rfl, rfl, rfl, h1, h2⟩ := trodAll_cons h
    exact trodAll_cons_mk (Below.trod hl (ht t (by simp)).1 (ht t (by simp)).2 h1 hb (fun x hx => hp x (by simp [hx]))) (trodAll_stays hl hb ts vs ds' p2 (fun t h => ht t (by simp [h])) h2 (fun x hx => hp x (by simp [hx])))
/-- A law that has answered true. -/
theorem law_post {H : Type} {enc : TypeId × Value → H} {f : Func} {s : ChangeSpec} {W W' : World} {args : Array Value} {ds gs : List (DataW H)} {before : List MemPlace} {apart fresh handsOn : Bool} (hv : s.vars = [])
    (hr : f.resultTypes = #[4]) (hf : ∀ t, t ∈ f.params.toList → Try.prog.readableRec t = true ∧ t < Try.prog.types.size)
    (hW : DataW.Whole enc Try.prog f.params.toList s.vars apart W args.toList ds gs before) (h1 : (s.fn H (ds ++ gs)).results = [.lit (.bool true)]) (h2 : (s.fn H (ds ++ gs)).args = ds) (h3 : (s.fn H (ds ++ gs)).vars = [])
    (hb : Below W.heap.size W W') : s.post enc Try.prog f apart fresh handsOn false W args (.bool true) W' := by
  have hW' := hW
  obtain ⟨p, q, hA, hV, rfl, hfz, hnd⟩ := hW
  rw [hv] at hV
  obtain ⟨rfl, rfl⟩ := trodVars_none hV
  refine ⟨ds, [], _, [], p, [], hW', ?_, ?_, ?_, hb.frame _, fun h => by cases h⟩
  · rw [h1, hr]; exact trodAll_mk1 (shut_bool Try.underlying4 _)
  · rw [h2]
    exact trodAll_stays laid_c hb _ _ _ _ hf hA (fun x hx => hW'.lt x (by simp [hx]))
  · rw [h3, hv]; exact rfl
end Go.Proofs.Ytljcaegcbcikiaa
namespace Go.Proofs.Ytljcaegcbcikiaa
open Go.ChangeShapes Go.WideShapes Go.ChangeAt Go.RowKit
theorem byte_of_wf {x : Int} (h : (Lit.int .u8 x).wf = true) : 0 ≤ x ∧ x < 256 := by
  simp [Lit.wf, IntKind.min, IntKind.max, IntKind.signed, IntKind.bits] at h
  exact ⟨by omega, by omega⟩
theorem lt_of_cell {W : World} {b o : Nat} {v : Value} (h : W.cell? ⟨b, o, none⟩ = some v) : b < W.heap.size := by
  unfold World.cell? at h
  rcases Nat.lt_or_ge b W.heap.size with h' | h'
  · exact h'
  · simp [Array.getElem?_eq_none h'] at h
/-- A slice of bytes as numbers, out of the reading. -/
theorem ints_piece {W : World} {a : Addr} {len cap : Nat} {zs : List Int} (hle : len ≤ zs.length) (hcell : ∀ i, i < zs.length → W.cell? (a.add i) = some (.int .u8 (zs.getD i 0))) (hwf : ∀ n ∈ zs, (Lit.int .u8 n).wf = true) :
    ∃ bs : List Nat, bs.length = len ∧ (∀ y, y ∈ bs → y < 256) ∧ PieceV W W.heap.size (.slice (some a) len cap) bs := by
  refine ⟨(zs.take len).map Int.toNat, by simp; omega, fun y hy => ?_, ?_⟩
  · simp only [List.mem_map] at hy
    obtain ⟨z, hz, rfl⟩ := hy
    have := byte_of_wf (hwf z (List.mem_of_mem_take hz)); omega
  · by_cases h0 : len = 0
    · exact Or.inl ⟨⟨_, _, by rw [h0]⟩, by simp [h0]⟩
    · obtain ⟨b, off, rfl, hc⟩ := ints_at hcell (by omega)
      have hl : ((zs.take len).map Int.toNat).length = len := by simp; omega
      refine Or.inr ⟨b, off, cap, lt_of_cell (hc 0 (by omega)), by rw [hl], fun i hi => ?_⟩
      rw [hl] at hi
      rw [hc i (by omega)]
      have hi2 : i < zs.length := by omega
      have hw := byte_of_wf (hwf _ (List.getElem_mem hi2))
      have e : nth ((zs.take len).map Int.toNat) i = (zs[i]'hi2).toNat := by
        unfold nth
        rw [List.getD_eq_getElem?_getD, List.getElem?_map, List.getElem?_take, if_pos hi, List.getElem?_eq_getElem hi2]; rfl
      rw [e, List.getD_eq_getElem?_getD, List.getElem?_eq_getElem hi2]
      simp only [Option.getD_some]
      rw [Int.toNat_of_nonneg hw.1]
set_option maxRecDepth 100000 in
theorem open_bytesc {H : Type} {enc : TypeId × Value → H} {W : World} {r : Reach} {base : Nat} {sp : Nat → Bool} {held : Bool} {b0 : Nat} {v : Value} {d : DataW H} {p : List MemPlace} (hv : Value.okWide Try.prog W r base 26 v) (h : DataW.Trod enc Try.prog W b0 sp held 26 v d p) :
    ∃ bs : List Nat, ((∀ y, y ∈ bs → y < 256) ∧ bs.length ≤ 9223372036854775807) ∧ PieceV W W.heap.size v bs ∧ ∀ a n c, v = .slice a n c → n ≤ c := by
  obtain ⟨a0, len, cap, rfl⟩ := okWide_slice Try.underlying26 hv
  obtain ⟨fuel, hf⟩ := h
  have hc1 : Try.prog.cellsOf 5 = 1 := by kernel_rfl
  rcases open_ints Try.underlying26 Try.underlying5 hc1 hf with ⟨hcs, -⟩ | ⟨a, len', cap', zs, hcs, -, hl, hm, hz, -, hcell, hwf⟩
  · have e : (Value.slice a0 len cap) = .slice none 0 0 := by simpa [Value.cells] using hcs
    injection e with e1 e2 e3
    subst e1 e2 e3
    exact ⟨[], ⟨by simp, by simp⟩, Or.inl ⟨⟨_, _, rfl⟩, rfl⟩, fun a n c h => by injection h with h1 h2 h3; omega⟩
  · have e : (Value.slice a0 len cap) = .slice (some a) len' cap' := by simpa [Value.cells] using hcs
    injection e with e1 e2 e3
    subst e1 e2 e3
    have hle : len ≤ zs.length := by rw [hz]; split <;> omega
    obtain ⟨bs, h1, h2, h3⟩ := ints_piece (cap := cap) hle hcell hwf
    simp only [maxLen] at hm
    exact ⟨bs, ⟨h2, by omega⟩, h3, fun a n c h => by injection h with h1 h2 h3; omega⟩
end Go.Proofs.Ytljcaegcbcikiaa
namespace Go.Proofs.Ytljcaegcbcikiaa
open Go.ChangeShapes Go.WideShapes Go.ChangeAt Go.RowKit
/-- The number in a cell. -/
def numOf : Option Value → Int
  | some (.int _ a) => a
  | _ => 0
theorem u8_of_wf {x : Int} (h : (Lit.int .u8 x).wf = true) : 0 ≤ x ∧ x < 256 := by
  simp [Lit.wf, IntKind.min, IntKind.max, IntKind.signed, IntKind.bits] at h
  exact ⟨by omega, by omega⟩
end Go.Proofs.Ytljcaegcbcikiaa
namespace Go.Proofs.Ytljcaegcbcikiaa
open Go.ChangeShapes Go.WideShapes Go.ChangeAt Go.RowKit
set_option maxRecDepth 100000 in
theorem open_deedz {H : Type} {enc : TypeId × Value → H} {W : World} {r : Reach} {base : Nat} {sp : Nat → Bool} {held : Bool} {b0 : Nat} {v : Value} {d : DataW H} {p : List MemPlace} (hv : Value.okWide Try.prog W r base 25 v) (h : DataW.Trod enc Try.prog W b0 sp held 25 v d p) :
    ∃ D : Dd, v = .agg (deedc D) ∧ D.cm.length = 20 ∧ (∀ y, y ∈ D.cm → y < 256) ∧ ∃ x0 x4, d = .agg [x0, .lit (.string D.nm.data.toList), .lit (.string D.vl.data.toList), .lit (.string D.rd.data.toList), x4] := by
  obtain ⟨cs, rfl, hsz⟩ := okWide_struct Try.underlying25 hv
  have hC : Try.prog.cellsOf 25 = 24 := by kernel_rfl
  have k1 : Try.prog.cellsOf 3 = 1 := by kernel_rfl
  have k2 : Try.prog.cellsOf 9 = 1 := by kernel_rfl
  have k3 : Try.prog.cellsOf 23 = 20 := by kernel_rfl
  have k4 : Try.prog.cellsOf 5 = 1 := by kernel_rfl
  rw [hC] at hsz
  obtain ⟨fuel, hf⟩ := h
  obtain ⟨xs, n, -, hxe, -, hlen, hg⟩ := DataW.trod_struct Try.underlying25 hf
  have hcells : (Value.agg cs).cells.toList = cs.toList := rfl
  rw [hcells] at hg
  have one : ∀ i, (hi : i < 24) → (cs.toList.drop i).take 1 = [cs[i]'(by omega)] := by
    intro i hi
    rw [List.drop_eq_getElem_cons (by simpa using (by omega : i < cs.size))]
    simp
  have g0 : DataW.trod enc Try.prog W b0 sp held n 3 ((cs.toList.drop 0).take (Try.prog.cellsOf 3)) = xs[0]? := hg 0 _ rfl
  have g1 : DataW.trod enc Try.prog W b0 sp held n 9 ((cs.toList.drop 1).take (Try.prog.cellsOf 9)) = xs[1]? := hg 1 _ rfl
  have g2 : DataW.trod enc Try.prog W b0 sp held n 9 ((cs.toList.drop 2).take (Try.prog.cellsOf 9)) = xs[2]? := hg 2 _ rfl
  have g3 : DataW.trod enc Try.prog W b0 sp held n 9 ((cs.toList.drop 3).take (Try.prog.cellsOf 9)) = xs[3]? := hg 3 _ rfl
  have g4 : DataW.trod enc Try.prog W b0 sp held n 23 ((cs.toList.drop 4).take (Try.prog.cellsOf 23)) = xs[4]? := hg 4 _ rfl
  rw [k1, one 0 (by decide), List.getElem?_eq_getElem (by rw [hlen]; decide)] at g0
  rw [k2, one 1 (by decide), List.getElem?_eq_getElem (by rw [hlen]; decide)] at g1
  rw [k2, one 2 (by decide), List.getElem?_eq_getElem (by rw [hlen]; decide)] at g2
  rw [k2, one 3 (by decide), List.getElem?_eq_getElem (by rw [hlen]; decide)] at g3
  rw [k3, List.getElem?_eq_getElem (by rw [hlen]; decide)] at g4
  obtain ⟨kd, e0, -, -⟩ := DataW.trod_int Try.underlying3 g0
  obtain ⟨nm, e1, f1, -⟩ := DataW.trod_string Try.underlying9 g1
  obtain ⟨vl, e2, f2, -⟩ := DataW.trod_string Try.underlying9 g2
  obtain ⟨rd, e3, f3, -⟩ := DataW.trod_string Try.underlying9 g3
  obtain ⟨ys, m, -, -, -, hlen4, hat⟩ := DataW.trod_array Try.underlying23 g4
  have k1' : xs[1]? = some (.lit (.string nm.data.toList), []) := by rw [List.getElem?_eq_getElem (by rw [hlen]; decide), f1]
  have k2' : xs[2]? = some (.lit (.string vl.data.toList), []) := by rw [List.getElem?_eq_getElem (by rw [hlen]; decide), f2]
  have k3' : xs[3]? = some (.lit (.string rd.data.toList), []) := by rw [List.getElem?_eq_getElem (by rw [hlen]; decide), f3]
  have hl5 : xs.length = 5 := hlen
  have hxs : ∃ x0 x4, xs.map (·.1) = [x0, .lit (.string nm.data.toList), .lit (.string vl.data.toList), .lit (.string rd.data.toList), x4] := by
    clear hg g0 g1 g2 g3 g4 hxe
    match xs, hl5, k1', k2', k3' with
    | [a, b, c, d, e], _, f1, f2, f3 =>
      simp only [List.getElem?_cons_succ, List.getElem?_cons_zero, Option.some.injEq] at f1 f2 f3
      subst f1 f2 f3
      exact ⟨_, _, rfl⟩
  have key : ∀ i, i < 20 → ∃ a : Nat, cs[4 + i]? = some (.int .u8 (a : Int)) ∧ a < 256 := by
    intro i hi
    have h1 := hat i hi
    rw [k4, Nat.mul_one] at h1
    have hs : (((cs.toList.drop 4).take 20).drop i).take 1 = [cs[4 + i]'(by omega)] := by
      rw [List.drop_take, List.take_take, Nat.min_eq_left (by omega), List.drop_drop, one (4 + i) (by omega)]
    rw [hs, List.getElem?_eq_getElem (by omega)] at h1
    obtain ⟨a, e, -, hw⟩ := DataW.trod_int Try.underlying5 h1
    have hb := u8_of_wf hw
    refine ⟨a.toNat, ?_, by omega⟩
    rw [Array.getElem?_eq_getElem (by omega), show ((a.toNat : Nat) : Int) = a by omega]
    simpa using e
  have hex : ∀ i, i < 20 → (numOf cs[4 + i]?).toNat < 256 := by
    intro i hi
    obtain ⟨a, e, hb⟩ := key i hi
    rw [e]; simpa [numOf] using hb
  refine ⟨⟨kd, nm, vl, rd, (List.range 20).map fun i => (numOf cs[4 + i]?).toNat⟩, ?_, by simp, ?_, ?_⟩
  · congr 1
    have hat : ∀ i, (hi : i < 24) → cs[i]? = some (cs[i]'(by omega)) := fun i hi => Array.getElem?_eq_getElem (by omega)
    have hcm : ∀ i, i < 20 → cs[4 + i]? = some (.int .u8 ((nth ((List.range 20).map fun i => (numOf cs[4 + i]?).toNat) i : Nat) : Int)) := by
      intro i hi
      obtain ⟨a, e, hb⟩ := key i hi
      have h2 : nth ((List.range 20).map fun i => (numOf cs[4 + i]?).toNat) i = a := by
        unfold nth
        rw [List.getD_eq_getElem?_getD, List.getElem?_map, List.getElem?_range hi]
        simp only [Option.map_some, Option.getD_some, e, numOf]; omega
      rw [h2, e]
    apply Array.ext_getElem?
    intro i
    by_cases hi : i < 24
    · rcases Nat.lt_or_ge i 4 with h4 | h4
      · match i, h4 with
        | 0, _ => rw [hat 0 (by decide)]; simpa using e0
        | 1, _ => rw [hat 1 (by decide)]; simpa using e1
        | 2, _ => rw [hat 2 (by decide)]; simpa using e2
        | 3, _ => rw [hat 3 (by decide)]; simpa using e3
      · obtain ⟨j, rfl⟩ : ∃ j, i = 4 + j := ⟨i - 4, by omega⟩
        have hj : j < 20 := by omega
        rw [hcm j hj]
        match j, hj with
        | 0, _ => rfl
        | 1, _ => rfl
        | 2, _ => rfl
        | 3, _ => rfl
        | 4, _ => rfl
        | 5, _ => rfl
        | 6, _ => rfl
        | 7, _ => rfl
        | 8, _ => rfl
        | 9, _ => rfl
        | 10, _ => rfl
        | 11, _ => rfl
        | 12, _ => rfl
        | 13, _ => rfl
        | 14, _ => rfl
        | 15, _ => rfl
        | 16, _ => rfl
        | 17, _ => rfl
        | 18, _ => rfl
        | 19, _ => rfl
        | j + 20, h => exact absurd h (by omega)
    · rw [Array.getElem?_eq_none (by omega), Array.getElem?_eq_none (by show 24 ≤ i; omega)]
  · intro y hy
    obtain ⟨i, hi, rfl⟩ := List.mem_map.1 hy
    exact hex i (List.mem_range.1 hi)
  · obtain ⟨x0, x4, e⟩ := hxs
    exact ⟨x0, x4, by rw [(Prod.mk.inj hxe).1, e]⟩
set_option maxRecDepth 100000 in
theorem deed_weights {H : Type} (x0 x4 : DataW H) (a b c : List UInt8) : DataW.weights Try.prog 25 (.agg [x0, .lit (.string a), .lit (.string b), .lit (.string c), x4]) = x0.weights Try.prog 3 ++ ([a.length] ++ ([b.length] ++ ([c.length] ++ (x4.weights Try.prog 23 ++ [])))) := by
  rw [DataW.weights, Try.underlying25]
  rfl
set_option maxRecDepth 100000 in
theorem deed_sizes {H : Type} {x0 x4 : DataW H} {a b c : List UInt8} {ts : List TypeId} {r : List (DataW H)} (h : (DataW.weightsEach Try.prog (25 :: ts) (.agg [x0, .lit (.string a), .lit (.string b), .lit (.string c), x4] :: r)).all (· ≤ reachBytes) = true) : a.length ≤ reachBytes ∧ b.length ≤ reachBytes ∧ c.length ≤ reachBytes := by
  rw [DataW.weightsEach, deed_weights] at h
  simp only [List.all_append, List.all_cons, List.all_nil, Bool.and_eq_true, decide_eq_true_eq] at h
  exact ⟨h.1.2.1.1, h.1.2.2.1.1, h.1.2.2.2.1.1⟩
end Go.Proofs.Ytljcaegcbcikiaa
