/-
  Slices of one's own whose elements have one cell each (strings, slices, booleans): append.
-/
import Derived.Test.YtbjcigokimieoaaSp
namespace Go.Proofs.Ytbjcigokimieoaa
open Go.RowKit

/-- A slice that may be appended to: where it lies. -/
def RestG (E : TypeId) (W : World) (v : Value) (cs : List Value) : Prop :=
  (v = .slice none 0 0 ∧ cs = []) ∨ ∃ g off cap cur, v = .slice (some ⟨g, off, none⟩) cs.length cap ∧ W.heap[g]? = some (.cells cur E (0, 0)) ∧ cs.length ≤ cap ∧ off + cap ≤ cur.size ∧ (∀ i, i < cs.length → cur[off + i]? = cs[i]?)
theorem RestG.shape {E : TypeId} {W : World} {v : Value} {cs : List Value} (h : RestG E W v cs) : ∃ a c, v = .slice a cs.length c := by
  rcases h with ⟨rfl, rfl⟩ | ⟨g, off, cap, cur, rfl, -⟩
  · exact ⟨_, _, rfl⟩
  · exact ⟨_, _, rfl⟩
theorem RestG.stays {E : TypeId} {W W' : World} {v : Value} {cs : List Value} (h : RestG E W v cs) (hk : ∀ b, v.ownBlock = some b → b < W.heap.size → W'.heap[b]? = W.heap[b]?) : RestG E W' v cs := by
  rcases h with h | ⟨g, off, cap, cur, rfl, hg, h1, h2, h3⟩
  · exact Or.inl h
  · exact Or.inr ⟨g, off, cap, cur, rfl, (hk g rfl (lt_of_block hg)).trans hg, h1, h2, h3⟩
theorem RestG.lt {E : TypeId} {W : World} {v : Value} {cs : List Value} (h : RestG E W v cs) : ∀ b, v.ownBlock = some b → b < W.heap.size := fun b hb => by
  rcases h with ⟨rfl, -⟩ | ⟨g, off, cap, cur, rfl, hg, -⟩
  · cases hb
  · simp [Value.ownBlock] at hb; subst hb; exact lt_of_block hg
theorem RestG.at {E : TypeId} {W : World} {g off n c : Nat} {cs : List Value} (h : RestG E W (.slice (some ⟨g, off, none⟩) n c) cs) (i a : Nat) (x : Value) (hi : cs[i]? = some x) (ha : a = off + i) : W.cell? ⟨g, a, none⟩ = some x := by
  subst ha
  have hlt : i < cs.length := (List.getElem?_eq_some_iff.1 hi).1
  rcases h with ⟨h1, -⟩ | ⟨g', off', cap, cur, h1, hg, -, -, h3⟩
  · cases h1
  · injection h1 with e; injection e with e; injection e with e1 e2; subst e1 e2
    exact (cell_of_row _ _ _ _ _ _ hg).trans ((h3 i hlt).trans hi)
theorem RestG.based {E : TypeId} {W : World} {A : Option Addr} {n c : Nat} {cs : List Value} (h : RestG E W (.slice A n c) cs) (h0 : 0 < cs.length) : ∃ b o, A = some ⟨b, o, none⟩ := by
  rcases h with ⟨-, h1⟩ | ⟨g, off, cap, cur, h1, -⟩
  · rw [h1] at h0; simp at h0
  · injection h1 with e; exact ⟨g, off, e⟩
theorem RestG.caple {E : TypeId} {W : World} {A : Option Addr} {n c : Nat} {cs : List Value} (h : RestG E W (.slice A n c) cs) : cs.length ≤ c ∧ n = cs.length := by
  rcases h with ⟨h1, h2⟩ | ⟨g, off, cap, cur, h1, -, h2, -⟩
  · injection h1 with e1 e2 e3; subst h2 e2 e3; exact ⟨Nat.le_refl _, rfl⟩
  · injection h1 with e1 e2 e3; subst e3; exact ⟨h2, e2⟩
/-- A slice of one's own. -/
def xog (E : TypeId) (w : World) (v : Value) (cs : List Value) : Xt := ⟨true, fun b => v.ownBlock = some b, fun W => RestG E W v cs ∧ ∀ b, v.ownBlock = some b → w.heap.size ≤ b, fun _ _ hk _ h => ⟨RestG.stays h.1 hk, h.2⟩⟩
theorem Sx.og {w W : World} {L : List (Nat × Obj)} {X : List Xt} (h : Sx w L X W) (i : Nat) {E : TypeId} {v : Value} {cs : List Value} (hi : X[i]? = some (xog E w v cs)) : RestG E W v cs := (show RestG E W v cs ∧ _ from h.x i hi).1
theorem Sx.ogown {w W : World} {L : List (Nat × Obj)} {X : List Xt} (h : Sx w L X W) (i : Nat) {E : TypeId} {v : Value} {cs : List Value} (hi : X[i]? = some (xog E w v cs)) : ∀ b, v.ownBlock = some b → w.heap.size ≤ b := (show RestG E W v cs ∧ _ from h.x i hi).2
/-- The nil slice. -/
theorem Sx.nilog {w W : World} {L : List (Nat × Obj)} {X : List Xt} (h : Sx w L X W) (E : TypeId) : Sx w L (xog E w (.slice none 0 0) [] :: X) W :=
  h.addX _ ⟨Or.inl ⟨rfl, rfl⟩, fun b hb => by cases hb⟩ (fun _ _ hb => by cases hb) (fun _ hb => by cases hb) (fun _ _ _ _ hb => by cases hb)
/-- A row made for it. -/
theorem Sx.rowog {w W : World} {L : List (Nat × Obj)} {X : List Xt} (h : Sx w L X W) (E : TypeId) (cs : List Value) (n : Nat) (hn : n = cs.length) : Sx w L (xog E w (.slice (some ⟨W.heap.size, 0, none⟩) n n) cs :: X) (W.alloc (.cells cs.toArray E)) := by
  subst hn
  refine h.madeX ((Below.refl _ _).alloc (Nat.le_refl _) _) _ ⟨Or.inr ⟨W.heap.size, 0, cs.length, _, rfl, lastH _ _ _ rfl, Nat.le_refl _, by simp, fun i hi => by simp⟩, fun b hb => ?_⟩ (fun b hb => ?_) (fun b hb => ?_)
  · simp [Value.ownBlock] at hb; have := h.below.size; omega
  · have hb : some W.heap.size = some b := hb
    injection hb with hb; omega
  · have hb : some W.heap.size = some b := hb
    injection hb with hb; simp; omega
theorem Sx.appg {w W W' : World} {L : List (Nat × Obj)} {X : List Xt} (h : Sx w L X W) (i : Nat) {E : TypeId} {v v' : Value} {cs zs : List Value} (hi : X[i]? = some (xog E w v cs)) (R : RestG E W' v' zs) (K : Keeps (fun b => v.ownBlock = some b) W W') (Nn : ∀ b, v'.ownBlock = some b → v.ownBlock = some b ∨ b = W.heap.size) : Sx w L (X.set i (xog E w v' zs)) W' := by
  have ho : RestG E W v cs ∧ ∀ b, v.ownBlock = some b → w.heap.size ≤ b := h.x i hi
  refine h.writeX i hi rfl rfl ⟨R, fun b hb => ?_⟩ (fun b hb => ?_) (fun b hb => R.lt b hb) (fun b hb => ho.2 b hb) K.os K.tape K.output K.size K.block
  · rcases Nn b hb with h1 | h1
    · exact ho.2 b h1
    · rw [h1]; exact h.below.size
  · rcases Nn b hb with h1 | h1
    · exact Or.inl h1
    · exact Or.inr (by omega)

theorem runG_room {T E : TypeId} (hT : Try.prog.underlying T = some (.slice E)) (ty : TypeId) (i : TypeInfo) (hi : Try.prog.info? E = some i) (h1 : i.size = 1) (W : World) (g off n cap : Nat) (cur : Array Value) (hg : W.heap[g]? = some (.cells cur E (0, 0))) (x : Value) (m : Nat) (news : List Value) (hs : Src Try.prog 1 T x m news W)
    (hroom : n + m ≤ cap) (hfit : off + cap ≤ cur.size) :
    (Builtin.append_ #[T, T] ty #[.slice (some ⟨g, off, none⟩) n cap, x]).run Try.prog W = .ok (.slice (some ⟨g, off, none⟩) (n + m) cap) (W.setRow g (cur.toList.take (off + n) ++ news ++ cur.toList.drop (off + n + news.length)).toArray) := by
  have hl := hs.newsLen
  have hst := run_storeCells_at Try.prog g (off + n) E news 0 cur W hg (by omega) hs.one
  simp only [Nat.add_zero] at hst
  rcases hs.kind with ⟨e', hk⟩ | hk <;> simp [Builtin.append_, run_underlying hT, sizeOf, typeInfo, hi, h1, hs.len, hroom, hs.cells, Addr.add_lit, hst]
theorem runG_nothing {T E : TypeId} (hT : Try.prog.underlying T = some (.slice E)) (ty : TypeId) (i : TypeInfo) (hi : Try.prog.info? E = some i) (h1 : i.size = 1) (W : World) (base : Option Addr) (n cap : Nat) (hle : n ≤ cap) (x : Value) (hs : Src Try.prog 1 T x 0 [] W) :
    (Builtin.append_ #[T, T] ty #[.slice base n cap, x]).run Try.prog W = .ok (.slice base n cap) W := by
  rcases hs.kind with ⟨e', hk⟩ | hk <;> cases base <;> simp [Builtin.append_, run_underlying hT, sizeOf, typeInfo, hi, h1, hs.len, hle, hs.cells, storeCells]
theorem runG_app {T E : TypeId} (hT : Try.prog.underlying T = some (.slice E)) {z : Value} {sb' : Nat} (hE : (Try.prog.info? E).map (fun i => (i.zero, i.size, i.bytes)) = some (some z, 1, sb')) (hzs : z.cells.size = 1) (ty : TypeId) (W : World) (v x : Value) (cs ys : List Value) (hv : RestG E W v cs) (hs : Src Try.prog 1 T x ys.length ys W) (hn : (cs.length + ys.length) * sb' ≤ 70368744177664) (hn2 : cs.length + ys.length ≤ 1000000000000) :
    ∃ v' W', (Builtin.append_ #[T, T] ty #[v, x]).run Try.prog W = .ok v' W' ∧ RestG E W' v' (cs ++ ys) ∧ Keeps (fun b => v.ownBlock = some b) W W' ∧ (∀ b, v'.ownBlock = some b → v.ownBlock = some b ∨ b = W.heap.size) := by
  obtain ⟨i, hi, hz, h1, h2⟩ := info_parts hE
  have hsm : ∀ k, k = cs.length + ys.length → ((k : Nat) : Int) ≤ 9223372036854775807 := fun k hk => by omega
  have grow : ∀ (base : Option Addr) (cap : Nat), v = .slice base cs.length cap → cap < cs.length + ys.length → (Builtin.firstCells i.size cs.length (.slice base cs.length cap)).run Try.prog W.drew = .ok cs.toArray W.drew →
      ∃ v' W', (Builtin.append_ #[T, T] ty #[v, x]).run Try.prog W = .ok v' W' ∧ RestG E W' v' (cs ++ ys) ∧ Keeps (fun b => v.ownBlock = some b) W W' ∧ (∀ b, v'.ownBlock = some b → v.ownBlock = some b ∨ b = W.heap.size) := by
    rintro base cap rfl hlt hold
    have hfit : Builtin.nextslicecap (cs.length + ys.length) cap * i.bytes ≤ 281474976710656 := growslice_fits (by omega) (by rw [h2]; omega)
    have hr := run_append_grow_src (P := Try.prog) (w := W) T T ty E i z hT hi hz base cs.length cap cs hold x ys.length ys (by rw [h1]; exact hs) hlt (hsm _ rfl) hfit
    have hge := grownCap_ge W (cs.length + ys.length) cap E
    generalize grownCap W (cs.length + ys.length) cap E = gc at hr hge
    refine ⟨_, _, hr, Or.inr ⟨W.heap.size, 0, gc, _, by rw [List.length_append], heap_alloc_new W.drew _, by rw [List.length_append]; exact hge, ?_, ?_⟩, ?_, ?_⟩
    · simp only [Array.size_append, List.size_toArray, List.length_append, size_zeroCells, hzs]
      omega
    · intro k hk
      rw [Nat.zero_add, Array.getElem?_append_left (by simpa using hk), List.getElem?_toArray]
    · exact Keeps.of_below ((Below.refl _ _).drew.alloc (Nat.le_refl _) _)
    · intro b hb; simp [Value.ownBlock] at hb; exact Or.inr hb.symm
  rcases hv with ⟨rfl, rfl⟩ | ⟨g, off, cap, cur, rfl, hg, hc1', hc2, hc3⟩
  · by_cases hm : ys.length = 0
    · obtain rfl : ys = [] := List.eq_nil_of_length_eq_zero hm
      have hr := runG_nothing hT ty i hi h1 W none 0 0 (Nat.le_refl _) x hs
      exact ⟨_, _, hr, Or.inl ⟨rfl, rfl⟩, Keeps.refl _ _, fun b hb => Or.inl hb⟩
    · exact grow none 0 rfl (by simp; omega) (run_firstCells_none (P := Try.prog) W.drew i.size 0 0 0)
  · by_cases hroom : cs.length + ys.length ≤ cap
    · have hr := runG_room hT ty i hi h1 W g off cs.length cap cur hg x ys.length ys hs hroom hc2
      refine ⟨_, _, hr, Or.inr ⟨g, off, cap, _, by rw [List.length_append], setRow_heap W g cur _ _ _ hg, by rw [List.length_append]; exact hroom, ?_, ?_⟩, ?_, ?_⟩
      · simp only [List.size_toArray, List.length_append, List.length_take, List.length_drop, Array.length_toList]; omega
      · intro k hk
        rw [List.getElem?_toArray]
        have htl : (List.take (off + cs.length) cur.toList).length = off + cs.length := by simp; omega
        by_cases hkb : k < cs.length
        · rw [List.append_assoc, List.getElem?_append_left (by rw [htl]; omega), List.getElem?_take, if_pos (by omega), List.getElem?_append_left hkb]
          have := hc3 k hkb
          simpa using this
        · rw [List.length_append] at hk
          rw [List.append_assoc, List.getElem?_append_right (by rw [htl]; omega), htl, List.getElem?_append_left (by omega), show off + k - (off + cs.length) = k - cs.length by omega, List.getElem?_append_right (by omega)]
      · exact (Keeps.refl _ W).setRow _ (Or.inl rfl)
      · intro b hb; exact Or.inl hb
    · refine grow (some ⟨g, off, none⟩) cap rfl (by omega) ?_
      rw [h1]
      exact run_firstCells_some (P := Try.prog) W.drew 1 cs.length ⟨g, off, none⟩ cs.length cap cs (by rw [Nat.mul_one]) (fun j u hj => by
        have hl : j < cs.length := (List.getElem?_eq_some_iff.1 hj).1
        have hadd : (⟨g, off, none⟩ : Addr).add j = ⟨g, off + j, none⟩ := by unfold Addr.add; split <;> simp_all
        rw [hadd, ← hj]
        exact (cell_of_row W g (off + j) cur _ _ hg).trans (hc3 j hl))
/-- append(s, x...), as a step; x: a row that lies whole. -/
theorem wp_appg {o : Oper} {a : Act} {K : Act → World → Prop} {Q : Exit → Act → World → Prop} {w W : World} {L : List (Nat × Obj)} {X : List Xt} (S : Sx w L X W) (i : Nat) {T E : TypeId} (hT : Try.prog.underlying T = some (.slice E)) {z : Value} {sb' : Nat} (hE : (Try.prog.info? E).map (fun i => (i.zero, i.size, i.bytes)) = some (some z, 1, sb')) (hzs : z.cells.size = 1) (s x : Operand)
    (ho : o.op = .call { callee := .builtin .append, args := #[s, x], argTypes := #[T, T] }) {v : Value} {b n c : Nat} (hsv : a.eval s = v) (hxv : a.eval x = .slice (some ⟨b, 0, none⟩) n c) {cs ys : List Value} (hi : X[i]? = some (xog E w v cs)) (hrow : W.heap[b]? = some (.cells ys.toArray E (0, 0))) (hn0 : n = ys.length) (h1 : ∀ u ∈ ys, u.oneCell' = true)
    (hn : (cs.length + ys.length) * sb' ≤ 70368744177664) (hn2 : cs.length + ys.length ≤ 1000000000000)
    (h : ∀ v' W', Sx w L (X.set i (xog E w v' (cs ++ ys))) W' → K (a.put o.dst v') W') : o.wp Try.prog a W K Q := by
  subst hn0
  have hs : Src Try.prog 1 T (.slice (some ⟨b, 0, none⟩) ys.length c) ys.length ys W := Src.ofSlice (w := W) hT ⟨b, 0, none⟩ _ c _ (by rw [Nat.mul_one]) (fun j u hj => by
    have hadd : (⟨b, 0, none⟩ : Addr).add j = ⟨b, 0 + j, none⟩ := by unfold Addr.add; split <;> simp_all
    rw [hadd, cell_of_row _ _ _ _ _ _ hrow, Nat.zero_add, List.getElem?_toArray]; exact hj) h1
  obtain ⟨v', W', hr, h2, h3, h4⟩ := runG_app hT hE hzs o.type W v _ cs ys (S.og i hi) hs hn hn2
  unfold Oper.wp execOp
  simp only [ho, resolve, invoke, builtin, Sem.run_bind, Sem.run_pure, Result.andThen_ok, List.map_toArray, List.map_cons, List.map_nil, hsv, hxv, hr]
  exact h _ _ (S.appg i hi h2 h3 h4)
/-- Two facts become one: pieces, and one more. -/
theorem Sx.merge {w W : World} {L : List (Nat × Obj)} {X : List Xt} {q1 q2 : Xt} (h : Sx w L (q1 :: q2 :: X) W) (q' : Xt) (hex : q'.ex = false) (hf : ∀ b, q'.foot b → q1.foot b ∨ q2.foot b) (hq' : q'.holds W) : Sx w L (q' :: X) W := by
  have m1 : q1 ∈ q1 :: q2 :: X := List.mem_cons_self ..
  have m2 : q2 ∈ q1 :: q2 :: X := List.mem_cons_of_mem _ (List.mem_cons_self ..)
  obtain ⟨e1, e2⟩ := List.pairwise_cons.1 h.excl
  obtain ⟨e3, e4⟩ := List.pairwise_cons.1 e2
  have h0 : Sx w L X W := ⟨h.below, h.rows, h.apart, fun q hq => h.ext q (List.mem_cons_of_mem _ (List.mem_cons_of_mem _ hq)), fun p hp q hq => h.sep p hp q (List.mem_cons_of_mem _ (List.mem_cons_of_mem _ hq)), fun q hq => h.bound q (List.mem_cons_of_mem _ (List.mem_cons_of_mem _ hq)), e4⟩
  refine h0.addX q' hq' (fun p hp hb => ?_) (fun b hb => ?_) (fun r hr hrx b hb hrb => ?_)
  · rcases hf _ hb with hb | hb
    · exact h.sep p hp q1 m1 hb
    · exact h.sep p hp q2 m2 hb
  · rcases hf _ hb with hb | hb
    · exact h.bound q1 m1 b hb
    · exact h.bound q2 m2 b hb
  · rw [hex, Bool.false_or] at hrx
    rcases hf _ hb with hb | hb
    · exact e1 r (List.mem_cons_of_mem _ hr) (by rw [hrx]; simp) b hb hrb
    · exact e3 r hr (by rw [hrx]; simp) b hb hrb
/-- Values that read as pieces, in blocks of S. -/
def xpl (S : Nat → Prop) (vs : List Value) (pss : List (List Nat)) : Xt := ⟨false, S, fun W => (∀ b, S b → b < W.heap.size) ∧ ∀ (i : Nat) v ps, vs[i]? = some v → pss[i]? = some ps → PieceS W S v ps, fun _ _ hk hs h => ⟨fun b hb => Nat.lt_of_lt_of_le (h.1 b hb) hs, fun i v ps hv hp => PieceS.stays (h.2 i v ps hv hp) h.1 hk⟩⟩
theorem Sx.nilpl {w W : World} {L : List (Nat × Obj)} {X : List Xt} (h : Sx w L X W) : Sx w L (xpl (fun _ => False) [] [] :: X) W :=
  h.addX _ ⟨fun _ hb => hb.elim, fun i v ps hv => by simp at hv⟩ (fun _ _ hb => hb) (fun _ hb => hb.elim) (fun _ _ _ _ hb => hb.elim)
theorem Sx.snocpl {w W : World} {L : List (Nat × Obj)} {X : List Xt} {S : Nat → Prop} {vs : List Value} {pss : List (List Nat)} {v : Value} {bs : List Nat} (h : Sx w L (xown w v bs :: xpl S vs pss :: X) W) (hl : vs.length = pss.length) : Sx w L (xpl (fun b => S b ∨ v.ownBlock = some b) (vs ++ [v]) (pss ++ [bs]) :: X) W := by
  have h1 : RestV W v bs ∧ _ := h.ext _ (List.mem_cons_self ..)
  have h2 : (∀ b, S b → b < W.heap.size) ∧ ∀ (i : Nat) v ps, vs[i]? = some v → pss[i]? = some ps → PieceS W S v ps := h.ext _ (List.mem_cons_of_mem _ (List.mem_cons_self ..))
  refine h.merge _ rfl (fun b hb => Or.symm hb) ⟨fun b hb => ?_, fun i u ps hu hps => ?_⟩
  · rcases hb with hb | hb
    · exact h2.1 b hb
    · exact h1.1.lt b hb
  · by_cases hi : i < vs.length
    · rw [List.getElem?_append_left hi] at hu
      rw [List.getElem?_append_left (by omega)] at hps
      exact (h2.2 i u ps hu hps).mono (fun _ hb => Or.inl hb)
    · rw [List.getElem?_append_right (by omega)] at hu
      rw [List.getElem?_append_right (by omega), ← hl] at hps
      have hz : i - vs.length = 0 := by
        have := (List.getElem?_eq_some_iff.1 hu).1; simp at this; omega
      rw [hz] at hu hps
      simp at hu hps
      subst hu hps
      rcases h1.1 with ⟨rfl, rfl⟩ | ⟨g, off, cap, cur, rfl, hg, a1, a2, a3⟩
      · exact Or.inl ⟨⟨_, _, rfl⟩, rfl⟩
      · exact Or.inr ⟨g, off, cap, Or.inr rfl, rfl, fun j hj => (cell_of_row _ _ _ _ _ _ hg).trans (a3 j hj)⟩
/-- A list of slices of one's own, and what they read as. -/
theorem Sx.topcs {w W : World} {L : List (Nat × Obj)} {X : List Xt} (h : Sx w L X W) (i j : Nat) {S : Nat → Prop} {E : TypeId} {v : Value} {vs : List Value} {pss : List (List Nat)} (hi : X[i]? = some (xog E w v vs)) (hj : X[j]? = some (xpl S vs pss)) (hl : vs.length = pss.length) : PcsS W (fun b => b < W.heap.size) v pss := by
  have h1 := h.og i hi
  have h2 : (∀ b, S b → b < W.heap.size) ∧ ∀ (i : Nat) v ps, vs[i]? = some v → pss[i]? = some ps → PieceS W S v ps := h.x j hj
  refine ⟨fun _ h => h, ?_⟩
  rcases h1 with ⟨rfl, rfl⟩ | ⟨g, off, cap, cur, rfl, hg, a1, a2, a3⟩
  · exact Or.inl ⟨⟨_, _, rfl⟩, List.eq_nil_of_length_eq_zero hl.symm⟩
  · refine Or.inr ⟨g, off, cap, lt_of_block hg, by rw [hl], fun k ys hk => ?_⟩
    have hkl : k < vs.length := by rw [hl]; exact (List.getElem?_eq_some_iff.1 hk).1
    obtain ⟨x, hx⟩ : ∃ x, vs[k]? = some x := ⟨_, List.getElem?_eq_getElem hkl⟩
    exact ⟨x, (cell_of_row _ _ _ _ _ _ hg).trans ((a3 k hkl).trans hx), (h2.2 k x ys hx hk).mono h2.1⟩
end Go.Proofs.Ytbjcigokimieoaa
