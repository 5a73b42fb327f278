/-
  Texts Sq, Sw, Sv, Su, Va, Yb, Tb, Dg, Dw, Dp, Do, Da, Ds, De, Dx, Fa, Fb, Fc, Fd, Fe, Mp, Pn of the claim, merged. (Printed by shake.py.)
-/
import Derived.Test.YtbaifchbpnmkpaaZv2
namespace Go.Proofs.Ytbaifchbpnmkpaa
open Go.RowKit
/-- A slice that may be appended to: where it lies. -/
def RestG (E : TypeId) (W : World) (v : Value) (cs : List Value) : Prop :=
  (v = .slice none 0 0 ∧ cs = []) ∨ ∃ g off cap cur, v = .slice (some ⟨g, off, none⟩) cs.length cap ∧ W.heap[g]? = some (.cells cur E (0, 0)) ∧ cs.length ≤ cap ∧ off + cap ≤ cur.size ∧ (∀ i, i < cs.length → cur[off + i]? = cs[i]?)
theorem RestG.shape {E : TypeId} {W : World} {v : Value} {cs : List Value} (h : RestG E W v cs) : ∃ a c, v = .slice a cs.length c := by
  rcases h with ⟨rfl, rfl⟩ | ⟨g, off, cap, cur, rfl, -⟩
  · exact ⟨_, _, rfl⟩
  · exact ⟨_, _, rfl⟩
theorem RestG.stays {E : TypeId} {W W' : World} {v : Value} {cs : List Value} (h : RestG E W v cs) (hk : ∀ b, v.ownBlock = some b → b < W.heap.size → W'.heap[b]? = W.heap[b]?) : RestG E W' v cs := by
  rcases h with h | ⟨g, off, cap, cur, rfl, hg, h1, h2, h3⟩
  · exact Or.inl h
  · exact Or.inr ⟨g, off, cap, cur, rfl, (hk g rfl (lt_of_block hg)).trans hg, h1, h2, h3⟩
theorem RestG.lt {E : TypeId} {W : World} {v : Value} {cs : List Value} (h : RestG E W v cs) : ∀ b, v.ownBlock = some b → b < W.heap.size := fun b hb => by
  rcases h with ⟨rfl, -⟩ | ⟨g, off, cap, cur, rfl, hg, -⟩
  · cases hb
  · simp [Value.ownBlock] at hb; subst hb; exact lt_of_block hg
theorem RestG.at {E : TypeId} {W : World} {g off n c : Nat} {cs : List Value} (h : RestG E W (.slice (some ⟨g, off, none⟩) n c) cs) (i a : Nat) (x : Value) (hi : cs[i]? = some x) (ha : a = off + i) : W.cell? ⟨g, a, none⟩ = some x := by
  subst ha
  have hlt : i < cs.length := (List.getElem?_eq_some_iff.1 hi).1
  rcases h with ⟨h1, -⟩ | ⟨g', off', cap, cur, h1, hg, -, -, h3⟩
  · cases h1
  · injection h1 with e; injection e with e; injection e with e1 e2; subst e1 e2
    exact (cell_of_row _ _ _ _ _ _ hg).trans ((h3 i hlt).trans hi)
theorem RestG.based {E : TypeId} {W : World} {A : Option Addr} {n c : Nat} {cs : List Value} (h : RestG E W (.slice A n c) cs) (h0 : 0 < cs.length) : ∃ b o, A = some ⟨b, o, none⟩ := by
  rcases h with ⟨-, h1⟩ | ⟨g, off, cap, cur, h1, -⟩
  · rw [h1] at h0; simp at h0
  · injection h1 with e; exact ⟨g, off, e⟩
theorem RestG.caple {E : TypeId} {W : World} {A : Option Addr} {n c : Nat} {cs : List Value} (h : RestG E W (.slice A n c) cs) : cs.length ≤ c ∧ n = cs.length := by
  rcases h with ⟨h1, h2⟩ | ⟨g, off, cap, cur, h1, -, h2, -⟩
  · injection h1 with e1 e2 e3; subst h2 e2 e3; exact ⟨Nat.le_refl _, rfl⟩
  · injection h1 with e1 e2 e3; subst e3; exact ⟨h2, e2⟩
/-- A slice of one's own. -/
def xog (E : TypeId) (w : World) (v : Value) (cs : List Value) : Xt := ⟨true, fun b => v.ownBlock = some b, fun W => RestG E W v cs ∧ ∀ b, v.ownBlock = some b → w.heap.size ≤ b, fun _ _ hk _ h => ⟨RestG.stays h.1 hk, h.2⟩⟩
theorem Sx.og {w W : World} {L : List (Nat × Obj)} {X : List Xt} (h : Sx w L X W) (i : Nat) {E : TypeId} {v : Value} {cs : List Value} (hi : X[i]? = some (xog E w v cs)) : RestG E W v cs := (show RestG E W v cs ∧ _ from h.x i hi).1
theorem Sx.ogown {w W : World} {L : List (Nat × Obj)} {X : List Xt} (h : Sx w L X W) (i : Nat) {E : TypeId} {v : Value} {cs : List Value} (hi : X[i]? = some (xog E w v cs)) : ∀ b, v.ownBlock = some b → w.heap.size ≤ b := (show RestG E W v cs ∧ _ from h.x i hi).2
/-- The nil slice. -/
theorem Sx.nilog {w W : World} {L : List (Nat × Obj)} {X : List Xt} (h : Sx w L X W) (E : TypeId) : Sx w L (xog E w (.slice none 0 0) [] :: X) W :=
  h.addX _ ⟨Or.inl ⟨rfl, rfl⟩, fun b hb => by cases hb⟩ (fun _ _ hb => by cases hb) (fun _ hb => by cases hb) (fun _ _ _ _ hb => by cases hb)
theorem Sx.appg {w W W' : World} {L : List (Nat × Obj)} {X : List Xt} (h : Sx w L X W) (i : Nat) {E : TypeId} {v v' : Value} {cs zs : List Value} (hi : X[i]? = some (xog E w v cs)) (R : RestG E W' v' zs) (K : Keeps (fun b => v.ownBlock = some b) W W') (Nn : ∀ b, v'.ownBlock = some b → v.ownBlock = some b ∨ b = W.heap.size) : Sx w L (X.set i (xog E w v' zs)) W' := by
  have ho : RestG E W v cs ∧ ∀ b, v.ownBlock = some b → w.heap.size ≤ b := h.x i hi
  refine h.writeX i hi rfl rfl ⟨R, fun b hb => ?_⟩ (fun b hb => ?_) (fun b hb => R.lt b hb) (fun b hb => ho.2 b hb) K.os K.tape K.output K.size K.block
  · rcases Nn b hb with h1 | h1
    · exact ho.2 b h1
    · rw [h1]; exact h.below.size
  · rcases Nn b hb with h1 | h1
    · exact Or.inl h1
    · exact Or.inr (by omega)
theorem runG_room {T E : TypeId} (hT : Try.prog.underlying T = some (.slice E)) (ty : TypeId) (i : TypeInfo) (hi : Try.prog.info? E = some i) (h1 : i.size = 1) (W : World) (g off n cap : Nat) (cur : Array Value) (hg : W.heap[g]? = some (.cells cur E (0, 0))) (x : Value) (m : Nat) (news : List Value) (hs : Src Try.prog 1 T x m news W)
    (hroom : n + m ≤ cap) (hfit : off + cap ≤ cur.size) :
    (Builtin.append_ #[T, T] ty #[.slice (some ⟨g, off, none⟩) n cap, x]).run Try.prog W = .ok (.slice (some ⟨g, off, none⟩) (n + m) cap) (W.setRow g (cur.toList.take (off + n) ++ news ++ cur.toList.drop (off + n + news.length)).toArray) := by
  have hl := hs.newsLen
  have hst := run_storeCells_at Try.prog g (off + n) E news 0 cur W hg (by omega) hs.one
  simp only [Nat.add_zero] at hst
  rcases hs.kind with ⟨e', hk⟩ | hk <;> simp [Builtin.append_, run_underlying hT, sizeOf, typeInfo, hi, h1, hs.len, hroom, hs.cells, Addr.add_lit, hst]
theorem runG_nothing {T E : TypeId} (hT : Try.prog.underlying T = some (.slice E)) (ty : TypeId) (i : TypeInfo) (hi : Try.prog.info? E = some i) (h1 : i.size = 1) (W : World) (base : Option Addr) (n cap : Nat) (hle : n ≤ cap) (x : Value) (hs : Src Try.prog 1 T x 0 [] W) :
    (Builtin.append_ #[T, T] ty #[.slice base n cap, x]).run Try.prog W = .ok (.slice base n cap) W := by
  rcases hs.kind with ⟨e', hk⟩ | hk <;> cases base <;> simp [Builtin.append_, run_underlying hT, sizeOf, typeInfo, hi, h1, hs.len, hle, hs.cells, storeCells]
/-- A slice that begins where its block begins. -/
def Z0 (v : Value) : Prop := ∀ b o m n c, v = .slice (some ⟨b, o, m⟩) n c → o = 0
theorem runG_app {T E : TypeId} (hT : Try.prog.underlying T = some (.slice E)) {z : Value} {sb' : Nat} (hE : (Try.prog.info? E).map (fun i => (i.zero, i.size, i.bytes)) = some (some z, 1, sb')) (hzs : z.cells.size = 1) (ty : TypeId) (W : World) (v x : Value) (cs ys : List Value) (hv : RestG E W v cs) (hs : Src Try.prog 1 T x ys.length ys W) (hn : (cs.length + ys.length) * sb' ≤ 70368744177664) (hn2 : cs.length + ys.length ≤ 1000000000000) :
    ∃ v' W', (Builtin.append_ #[T, T] ty #[v, x]).run Try.prog W = .ok v' W' ∧ RestG E W' v' (cs ++ ys) ∧ Keeps (fun b => v.ownBlock = some b) W W' ∧ (∀ b, v'.ownBlock = some b → v.ownBlock = some b ∨ b = W.heap.size) ∧ (Z0 v → Z0 v') := by
  obtain ⟨i, hi, hz, h1, h2⟩ := info_parts hE
  have hsm : ∀ k, k = cs.length + ys.length → ((k : Nat) : Int) ≤ 9223372036854775807 := fun k hk => by omega
  have grow : ∀ (base : Option Addr) (cap : Nat), v = .slice base cs.length cap → cap < cs.length + ys.length → (Builtin.firstCells i.size cs.length (.slice base cs.length cap)).run Try.prog W.drew = .ok cs.toArray W.drew →
      ∃ v' W', (Builtin.append_ #[T, T] ty #[v, x]).run Try.prog W = .ok v' W' ∧ RestG E W' v' (cs ++ ys) ∧ Keeps (fun b => v.ownBlock = some b) W W' ∧ (∀ b, v'.ownBlock = some b → v.ownBlock = some b ∨ b = W.heap.size) ∧ (Z0 v → Z0 v') := by
    rintro base cap rfl hlt hold
    have hfit : Builtin.nextslicecap (cs.length + ys.length) cap * i.bytes ≤ 281474976710656 := growslice_fits (by omega) (by rw [h2]; omega)
    have hr := run_append_grow_src (P := Try.prog) (w := W) T T ty E i z hT hi hz base cs.length cap cs hold x ys.length ys (by rw [h1]; exact hs) hlt (hsm _ rfl) hfit
    have hge := grownCap_ge W (cs.length + ys.length) cap E
    generalize grownCap W (cs.length + ys.length) cap E = gc at hr hge
    refine ⟨_, _, hr, Or.inr ⟨W.heap.size, 0, gc, _, by rw [List.length_append], heap_alloc_new W.drew _, by rw [List.length_append]; exact hge, ?_, ?_⟩, ?_, ?_⟩
    · simp only [Array.size_append, List.size_toArray, List.length_append, size_zeroCells, hzs]
      omega
    · intro k hk
      rw [Nat.zero_add, Array.getElem?_append_left (by simpa using hk), List.getElem?_toArray]
    · exact Keeps.of_below ((Below.refl _ _).drew.alloc (Nat.le_refl _) _)
    · exact ⟨fun b hb => by simp [Value.ownBlock] at hb; exact Or.inr hb.symm, fun _ b o m n c e => by cases e; rfl⟩
  rcases hv with ⟨rfl, rfl⟩ | ⟨g, off, cap, cur, rfl, hg, hc1', hc2, hc3⟩
  · by_cases hm : ys.length = 0
    · obtain rfl : ys = [] := List.eq_nil_of_length_eq_zero hm
      have hr := runG_nothing hT ty i hi h1 W none 0 0 (Nat.le_refl _) x hs
      exact ⟨_, _, hr, Or.inl ⟨rfl, rfl⟩, Keeps.refl _ _, fun b hb => Or.inl hb, id⟩
    · exact grow none 0 rfl (by simp; omega) (run_firstCells_none (P := Try.prog) W.drew i.size 0 0 0)
  · by_cases hroom : cs.length + ys.length ≤ cap
    · have hr := runG_room hT ty i hi h1 W g off cs.length cap cur hg x ys.length ys hs hroom hc2
      refine ⟨_, _, hr, Or.inr ⟨g, off, cap, _, by rw [List.length_append], setRow_heap W g cur _ _ _ hg, by rw [List.length_append]; exact hroom, ?_, ?_⟩, ?_, ?_⟩
      · simp only [List.size_toArray, List.length_append, List.length_take, List.length_drop, Array.length_toList]; omega
      · intro k hk
        rw [List.getElem?_toArray]
        have htl : (List.take (off + cs.length) cur.toList).length = off + cs.length := by simp; omega
        by_cases hkb : k < cs.length
        · rw [List.append_assoc, List.getElem?_append_left (by rw [htl]; omega), List.getElem?_take, if_pos (by omega), List.getElem?_append_left hkb]
          have := hc3 k hkb
          simpa using this
        · rw [List.length_append] at hk
          rw [List.append_assoc, List.getElem?_append_right (by rw [htl]; omega), htl, List.getElem?_append_left (by omega), show off + k - (off + cs.length) = k - cs.length by omega, List.getElem?_append_right (by omega)]
      · exact (Keeps.refl _ W).setRow _ (Or.inl rfl)
      · exact ⟨fun b hb => Or.inl hb, fun h b o m n c e => by cases e; exact h _ _ _ _ _ rfl⟩
    · refine grow (some ⟨g, off, none⟩) cap rfl (by omega) ?_
      rw [h1]
      exact run_firstCells_some (P := Try.prog) W.drew 1 cs.length ⟨g, off, none⟩ cs.length cap cs (by rw [Nat.mul_one]) (fun j u hj => by
        have hl : j < cs.length := (List.getElem?_eq_some_iff.1 hj).1
        have hadd : (⟨g, off, none⟩ : Addr).add j = ⟨g, off + j, none⟩ := by unfold Addr.add; split <;> simp_all
        rw [hadd, ← hj]
        exact (cell_of_row W g (off + j) cur _ _ hg).trans (hc3 j hl))
/-- Two facts become one: pieces, and one more. -/
theorem Sx.merge {w W : World} {L : List (Nat × Obj)} {X : List Xt} {q1 q2 : Xt} (h : Sx w L (q1 :: q2 :: X) W) (q' : Xt) (hex : q'.ex = false) (hf : ∀ b, q'.foot b → q1.foot b ∨ q2.foot b) (hq' : q'.holds W) : Sx w L (q' :: X) W := by
  have m1 : q1 ∈ q1 :: q2 :: X := List.mem_cons_self ..
  have m2 : q2 ∈ q1 :: q2 :: X := List.mem_cons_of_mem _ (List.mem_cons_self ..)
  obtain ⟨e1, e2⟩ := List.pairwise_cons.1 h.excl
  obtain ⟨e3, e4⟩ := List.pairwise_cons.1 e2
  have h0 : Sx w L X W := ⟨h.below, h.rows, h.apart, fun q hq => h.ext q (List.mem_cons_of_mem _ (List.mem_cons_of_mem _ hq)), fun p hp q hq => h.sep p hp q (List.mem_cons_of_mem _ (List.mem_cons_of_mem _ hq)), fun q hq => h.bound q (List.mem_cons_of_mem _ (List.mem_cons_of_mem _ hq)), e4⟩
  refine h0.addX q' hq' (fun p hp hb => ?_) (fun b hb => ?_) (fun r hr hrx b hb hrb => ?_)
  · rcases hf _ hb with hb | hb
    · exact h.sep p hp q1 m1 hb
    · exact h.sep p hp q2 m2 hb
  · rcases hf _ hb with hb | hb
    · exact h.bound q1 m1 b hb
    · exact h.bound q2 m2 b hb
  · rw [hex, Bool.false_or] at hrx
    rcases hf _ hb with hb | hb
    · exact e1 r (List.mem_cons_of_mem _ hr) (by rw [hrx]; simp) b hb hrb
    · exact e3 r hr (by rw [hrx]; simp) b hb hrb
/-- Values that read as pieces, in blocks of S. -/
def xpl (S : Nat → Prop) (vs : List Value) (pss : List (List Nat)) : Xt := ⟨false, S, fun W => (∀ b, S b → b < W.heap.size) ∧ ∀ (i : Nat) v ps, vs[i]? = some v → pss[i]? = some ps → PieceS W S v ps, fun _ _ hk hs h => ⟨fun b hb => Nat.lt_of_lt_of_le (h.1 b hb) hs, fun i v ps hv hp => PieceS.stays (h.2 i v ps hv hp) h.1 hk⟩⟩
theorem Sx.nilpl {w W : World} {L : List (Nat × Obj)} {X : List Xt} (h : Sx w L X W) : Sx w L (xpl (fun _ => False) [] [] :: X) W :=
  h.addX _ ⟨fun _ hb => hb.elim, fun i v ps hv => by simp at hv⟩ (fun _ _ hb => hb) (fun _ hb => hb.elim) (fun _ _ _ _ hb => hb.elim)
end Go.Proofs.Ytbaifchbpnmkpaa
namespace Go.Proofs.Ytbaifchbpnmkpaa
open Go.RowKit
section walkapp
variable {f : Func} {r i N : Nat} {Q : Exit → Act → World → Prop} {F : List (Nat × Value)} {w : World} {L : List (Nat × Obj)} {X : List Xt}
/-- What an operation appends to what. -/
def appB (T : Array Value) (F : List (Nat × Value)) (o : Oper) : Option (Nat × TypeId × TypeId × Value × Value) := match o.dst, o.op with
  | some d, .call c => match c.callee, c.args.toList, c.argTypes.toList with
    | .builtin .append, [s, x], [t1, t2] => some (d, t1, t2, opd F T s, opd F T x)
    | _, _, _ => none
  | _, _ => none
theorem toList_two {α : Type} {a : Array α} {x y : α} (h : a.toList = [x, y]) : a = #[x, y] := by
  cases a; simp only at h; rw [h]
theorem At.app (n : Nat) (hs : List Nat) (d : Nat) {TT E : TypeId} {z : Value} {sb' : Nat} {v xv : Value} {cs ys : List Value} (j : Nat) (hj : X[j]? = some (xog E w v cs)) (hsrc : ∀ W, Sx w L X W → Src Try.prog 1 TT xv ys.length ys W) (hn : (cs.length + ys.length) * sb' ≤ 70368744177664) (hn2 : cs.length + ys.length ≤ 1000000000000)
    (k : ∀ y : Lt, y.n = (cs ++ ys).length → (Z0 v → Z0 y.sl) → At Try.prog f r (i + n + 1) Q N ((d, y.sl) :: F) w L (X.set j (xog E w y.sl (cs ++ ys))))
    (hT : Try.prog.underlying TT = some (.slice E) := by kernel_rfl) (hE : (Try.prog.info? E).map (fun i => (i.zero, i.size, i.bytes)) = some (some z, 1, sb') := by kernel_rfl) (hzs : z.cells.size = 1 := by rfl)
    (hk : ∀ T T', opL Try.prog f r i n L F hs T (appB T') = opR Try.prog f r i n L F hs T (d, TT, TT, v, xv) := by intro T T'; kernel_rfl) : At Try.prog f r i Q N F w L X := by
  intro hN T W hF hS
  refine op_run hN hF hS hk (fun T' F1 o hF' hF1 hb hw hdN => ?_)
  refine wpSeq_step fun K hK => ?_
  rw [if_pos hw]
  unfold appB at hb
  split at hb
  · rename_i d' c e1 e2
    obtain ⟨callee, args, argTypes⟩ := c
    split at hb
    · rename_i s x t1 t2 h1 h2 h3
      simp only at h1 h2 h3
      have h2 := toList_two h2
      have h3 := toList_two h3
      subst h1 h2 h3
      simp only [Option.some.injEq, Prod.mk.injEq] at hb
      obtain ⟨rfl, rfl, rfl, rfl, rfl⟩ := hb
      obtain ⟨v', W', hr, h4, h5, h6, h7⟩ := runG_app hT hE hzs o.type W _ _ cs ys (hS.og j hj) (hsrc W hS) hn hn2
      unfold Oper.wp
      rw [opd_eq hF1]
      unfold execOp
      simp only [e2, resolve, invoke, builtin, Sem.run_bind, Sem.run_pure, Result.andThen_ok, List.map_toArray, List.map_cons, List.map_nil, hr]
      obtain ⟨a, c, rfl⟩ := h4.shape
      show K ((⟨T', []⟩ : Act).put o.dst (.slice a (cs ++ ys).length c)) W'
      rw [e1]
      exact hK _ _ (k (lt0 a (cs ++ ys).length c) rfl h7 hN _ W' (hF'.put _ _ (hdN _ e1)) (hS.appg j hj h4 h5 h6))
    · cases hb
  · cases hb
end walkapp
/-- A row that a function has made, as what is appended. -/
theorem Sx.srcg {w W : World} {L : List (Nat × Obj)} {X : List Xt} (S : Sx w L X W) {TT E : TypeId} {ys : List Value} {g m c : Nat} (j : Nat) (hj : L[j]? = some (g, .cells ys.toArray E (0, 0))) (hm : m = ys.length) (hT : Try.prog.underlying TT = some (.slice E) := by kernel_rfl) (h1 : ys.all (·.oneCell') = true := by rfl) : Src Try.prog 1 TT (.slice (some ⟨g, 0, none⟩) m c) ys.length ys W := by
  subst hm
  have hrw : W.heap[g]? = some (.cells ys.toArray E (0, 0)) := S.rows _ (List.mem_of_getElem? hj)
  exact Src.ofSlice (w := W) hT ⟨g, 0, none⟩ _ c _ (by rw [Nat.mul_one]) (fun j u hj => by
    have hadd : (⟨g, 0, none⟩ : Addr).add j = ⟨g, 0 + j, none⟩ := by unfold Addr.add; split <;> simp_all
    rw [hadd, cell_of_row _ _ _ _ _ _ hrw, Nat.zero_add, List.getElem?_toArray]; exact hj) (fun u hu => List.all_eq_true.1 h1 u hu)
theorem Sx.tl {w W : World} {p : Nat × Obj} {L : List (Nat × Obj)} {X : List Xt} (h : Sx w (p :: L) X W) : Sx w L X W := ⟨h.below, fun p hp => h.rows p (List.mem_cons_of_mem _ hp), (List.pairwise_cons.1 h.apart).2, h.ext, fun p hp => h.sep p (List.mem_cons_of_mem _ hp), h.bound, h.excl⟩
end Go.Proofs.Ytbaifchbpnmkpaa
namespace Go.Proofs.Ytbaifchbpnmkpaa
open Go.RowKit
section late
variable {P : Program} {K K' : Act → World → Prop} {Q : Exit → Act → World → Prop}
theorem upon_halt {o : Oper} {a : Act} {f : Halt} {W : World} (hQ : ∀ c a W, ¬ Q (.panic c) a W) : ¬ o.upon P a K Q (.halt f W) := fun h => by
  unfold Oper.upon at h
  cases f <;> first | exact hQ _ _ _ h | exact h
end late
def slotNot (d : Nat) : Operand → Bool
  | .tmp k => !(Nat.beq k d)
  | _ => true
section
variable {P : Program} {l : List Oper} {N n1 q : Nat} {F : List (Nat × Value)} {w : World} {L : List (Nat × Obj)} {X : List Xt} {D : Dw} {E : (Nat → Lt) → List (Nat × Value)} {T0 : Array Value} {Q : Exit → Act → World → Prop}
theorem slot_eval {d : Nat} {x : Operand} {T : Array Value} {v : Value} (h : slotNot d x = true) : (⟨T, []⟩ : Act).eval x = (⟨T.setIfInBounds d v, []⟩ : Act).eval x := by
  cases x with
  | tmp k =>
    simp only [slotNot, Bool.not_eq_true'] at h
    have : k ≠ d := fun e => by subst e; simp at h
    show T.getD k undef = (T.setIfInBounds d v).getD k undef
    rw [Array.getD_eq_getD_getElem?, Array.getD_eq_getD_getElem?, Array.getElem?_setIfInBounds, if_neg (Ne.symm this)]
  | _ => rfl
variable {f : Func} {r : Nat}
/-- How a region ends. -/
def endsU (N : Nat) (w : World) (p : (Nat → Lt) → Prop) (F2 : (Nat → Lt) → List (Nat × Value)) (L2 : (Nat → Lt) → List (Nat × Obj)) (X2 : (Nat → Lt) → List Xt) (e : Exit) (a : Act) (W : World) : Prop := e = .normal ∧ ∃ u, p u ∧ ∃ T, a = ⟨T, []⟩ ∧ Fq N T (F2 u) ∧ Sx w (L2 u) (X2 u) W
theorem endsU_of {p : (Nat → Lt) → Prop} {F2 : (Nat → Lt) → List (Nat × Value)} {L2 : (Nat → Lt) → List (Nat × Obj)} {X2 : (Nat → Lt) → List Xt} (u : Nat → Lt) (hu : p u) (hk : (F2 u).map (fun p => look F p.1) = (F2 u).map (fun p => some p.2) := by kernel_rfl) (hS : ∀ W, Sx w L X W → Sx w (L2 u) (X2 u) W := by exact fun _ S => S) : ∀ T W, Fq N T F → Sx w L X W → endsU N w p F2 L2 X2 .normal ⟨T, []⟩ W :=
  fun T W hF h => ⟨rfl, u, hu, T, rfl, hF.sub hk, hS W h⟩
end
end Go.Proofs.Ytbaifchbpnmkpaa
namespace Go.Proofs.Ytbaifchbpnmkpaa
open Go.RowKit
section sem
variable {P : Program} {f : Func} {r i N : Nat} {Q : Exit → Act → World → Prop} {F : List (Nat × Value)} {w : World} {L : List (Nat × Obj)} {X : List Xt}
def semB (T : Array Value) (F : List (Nat × Value)) (o : Oper) : Option (Nat × Sem Next) := match o.dst with
  | some d => some (d, execOp (opd F T) o)
  | none => none
/-- An operation that answers one of many values, each with what it says of the world. -/
theorem At.semX {ι : Type} (n : Nat) (hs : List Nat) (d : Nat) (s : Sem Value) {V : ι → Value} {L' : ι → List (Nat × Obj)} {X' : ι → List Xt} (hv : ∀ W, Sx w L X W → ∃ y W', s.run P W = .ok (V y) W' ∧ Sx w (L' y) (X' y) W') (k : ∀ y, At P f r (i + n + 1) Q N ((d, V y) :: F) w (L' y) (X' y))
    (hk : ∀ T T', opL P f r i n L F hs T (semB T') = opR P f r i n L F hs T (d, (do pure (.value (← s)))) := by intro T T'; kernel_rfl) : At P f r i Q N F w L X := by
  intro hN T W hF hS
  refine op_run hN hF hS hk (fun T' F1 o hF' hF1 hb hw hdN => ?_)
  refine wpSeq_step fun K hK => ?_
  rw [if_pos hw]
  unfold semB at hb
  split at hb
  · rename_i d' e1
    simp only [Option.some.injEq, Prod.mk.injEq] at hb
    obtain ⟨rfl, hb⟩ := hb
    obtain ⟨y, W', hr, hS'⟩ := hv W hS
    unfold Oper.wp
    rw [opd_eq hF1, hb]
    simp only [Sem.run_bind, Sem.run_pure, hr, Result.andThen_ok]
    show K ((⟨T', []⟩ : Act).put o.dst (V y)) W'
    rw [e1]
    exact hK _ _ (k y hN _ W' (hF'.put _ _ (hdN _ e1)) hS')
  · cases hb
/-- .. one value, the world as it was. -/
theorem At.sem (n : Nat) (hs : List Nat) (d : Nat) (s : Sem Value) (v : Value) (hv : ∀ W, Sx w L X W → s.run P W = .ok v W) (k : At P f r (i + n + 1) Q N ((d, v) :: F) w L X)
    (hk : ∀ T T', opL P f r i n L F hs T (semB T') = opR P f r i n L F hs T (d, (do pure (.value (← s)))) := by intro T T'; kernel_rfl) : At P f r i Q N F w L X :=
  At.semX (ι := Unit) (V := fun _ => v) (L' := fun _ => L) (X' := fun _ => X) n hs d s (fun W hS => ⟨(), W, hv W hS, hS⟩) (fun _ => k) hk
end sem
section cutat
variable {f : Func} {r i N : Nat} {Q : Exit → Act → World → Prop} {F : List (Nat × Value)} {w : World} {L : List (Nat × Obj)} {X : List Xt}
/-- b[lo:] of a piece handed in. -/
theorem At.cutl (n : Nat) (hs : List Nat) (d : Nat) (j : Nat) {B m c lo : Nat} {A : Option Addr} {bs : List Nat} (hj : X[j]? = some (xpc B (.slice A m c) bs)) (hm : m = bs.length) (h1 : lo ≤ bs.length) (hc : bs.length ≤ c)
    (k : ∀ y : Lt, y.n = bs.length - lo → y.c = c - lo → At Try.prog f r (i + n + 1) Q N ((d, y.sl) :: F) w L (xpc B y.sl (bs.drop lo) :: X))
    (hk : ∀ T T', opL Try.prog f r i n L F hs T (semB T') = opR Try.prog f r i n L F hs T (d, (do pure (.value (← Instr.sliceAt 22 (.slice A m c) (some (.int .i64 (lo : Int))) none none)))) := by intro T T'; kernel_rfl) : At Try.prog f r i Q N F w L X := by
  subst hm
  refine At.semX (ι := {y : Lt // y.n = bs.length - lo ∧ y.c = c - lo}) (V := fun y => y.1.sl) (L' := fun _ => L) (X' := fun y => xpc B y.1.sl (bs.drop lo) :: X) n hs d _ (fun W hS => ?_) (fun y => k y.1 y.2.1 y.2.2) hk
  obtain ⟨a', e, h⟩ := piece_cut (hS.pcS j hj) lo bs.length h1 (Nat.le_refl _) hc
  rw [show (bs.drop lo).take (bs.length - lo) = bs.drop lo from List.take_of_length_le (by rw [List.length_drop]; omega)] at h
  refine ⟨⟨lt0 a' (bs.length - lo) (c - lo), rfl, rfl⟩, W, ?_, hS.cutpc j hj h⟩
  rw [run_sliceAt_slice _ _ _ _ _ _ bytes_slice, run_slice_l W 22 A bs.length c bytes_slice .i64 (lo : Int) (Int.natCast_nonneg _) (by omega), byte_size]
  simp only [Result.andThen_ok, Int.toNat_natCast, e]
/-- [32]byte(b): the address, then what stands there. -/
theorem At.arr32 (n : Nat) (hs : List Nat) (d : Nat) {b o m c : Nat} (hm : 32 ≤ m)
    (k : At Try.prog f r (i + n + 1) Q N ((d, po b o) :: F) w L X)
    (hk : ∀ T T', opL Try.prog f r i n L F hs T (semB T') = opR Try.prog f r i n L F hs T (d, (do pure (.value (← Instr.arrayAt 25 (.slice (some ⟨b, o, none⟩) m c))))) := by intro T T'; kernel_rfl) : At Try.prog f r i Q N F w L X :=
  At.sem n hs d _ _ (fun W _ => run_arrayAt W 25 _ 32 _ m c Try.underlying25 hm) k hk
/-- b[lo:] where something is left: its place. -/
theorem At.cutb (n : Nat) (hs : List Nat) (d : Nat) (j : Nat) {B m c lo : Nat} {A : Option Addr} {bs : List Nat} (hj : X[j]? = some (xpc B (.slice A m c) bs)) (hm : m = bs.length) (h1 : lo < bs.length) (hc : bs.length ≤ c)
    (k : ∀ b o, At Try.prog f r (i + n + 1) Q N ((d, .slice (some ⟨b, o, none⟩) (m - lo) (c - lo)) :: F) w L (xpc B (.slice (some ⟨b, o, none⟩) (m - lo) (c - lo)) (bs.drop lo) :: X))
    (hk : ∀ T T', opL Try.prog f r i n L F hs T (semB T') = opR Try.prog f r i n L F hs T (d, (do pure (.value (← Instr.sliceAt 22 (.slice A m c) (some (.int .i64 (lo : Int))) none none)))) := by intro T T'; kernel_rfl) : At Try.prog f r i Q N F w L X := by
  subst hm
  refine At.cutl n hs d j hj rfl (Nat.le_of_lt h1) hc (fun y hn hy => At.fact (p := ∃ b o, y.a = some ⟨b, o, none⟩) (fun W S => ?_) (fun ⟨b, o, e⟩ => ?_)) hk
  · exact S.lies 0 rfl rfl (by rw [List.length_drop]; omega)
  · have := k b o
    unfold Lt.sl
    rw [e, hn, hy]; exact this
/-- The bytes of a piece. -/
def bfn (bs : List Nat) (i : Nat) : Int := ((nth bs i : Nat) : Int)
theorem At.ld32 (n : Nat) (hs : List Nat) (d : Nat) (j : Nat) {B b o m c : Nat} {bs : List Nat} (hj : X[j]? = some (xpc B (.slice (some ⟨b, o, none⟩) m c) bs)) (h1 : 32 ≤ bs.length)
    (k : At Try.prog f r (i + n + 1) Q N ((d, .agg (row32 (bfn bs))) :: F) w L X)
    (hk : ∀ T T', opL Try.prog f r i n L F hs T (semB T') = opR Try.prog f r i n L F hs T (d, (do pure (.value (← Instr.loadAt 25 (po b o))))) := by intro T T'; kernel_rfl) : At Try.prog f r i Q N F w L X := by
  refine At.sem n hs d _ _ (fun W S => ?_) k hk
  have hl : (row32 (bfn bs)).toList.length = 32 := by unfold row32; rw [cells32_eq]; simp
  have := run_loadAt_mid (P := Try.prog) W b o 25 (row32 (bfn bs)).toList _ (fun q v hq => ?_) Try.underlying25 rfl (by rw [hl]; kernel_rfl)
  · rw [Array.toArray_toList] at this; exact this
  · have hq2 : q < 32 := by have := (List.getElem?_eq_some_iff.1 hq).1; omega
    rw [(S.pcS j hj).at q _ (by omega) rfl, ← hq, Array.getElem?_toList, row32_get _ _ hq2]; rfl
end cutat
/-- What is asked of an operation by its instruction, in a region that draws: a known value, the world as it was. -/
theorem sem_ob {P : Program} {s : Sem Value} {v : Value} {W : World} (h : s.run P W = .ok v W) : ∃ (e : Ending) (w' : World), (e = .returned v ∧ Below W.heap.size W w') ∧ ∃ v', e = .returned v' ∧ (do pure (.value (← s)) : Sem Next).run P W = .ok (.value v') w' :=
  ⟨_, W, ⟨rfl, Below.refl _ _⟩, v, rfl, by simp only [Sem.run_bind, Sem.run_pure, h, Result.andThen_ok]⟩
/-- Cuts whose place is known. -/
theorem cut_l_run {b o m c lo : Nat} (h1 : lo < m) (hc : m ≤ c) (W : World) : (Instr.sliceAt 22 (.slice (some ⟨b, o, none⟩) m c) (some (.int .i64 (lo : Int))) none none).run Try.prog W = .ok (.slice (some ⟨b, o + lo, none⟩) (m - lo) (c - lo)) W := by
  have hadd : (⟨b, o, none⟩ : Addr).add (lo * 1) = ⟨b, o + lo, none⟩ := by unfold Addr.add; split <;> simp_all
  have e : sliced (some ⟨b, o, none⟩) lo m c 1 = .slice (some ⟨b, o + lo, none⟩) (m - lo) (c - lo) := by
    unfold sliced
    rw [if_neg (by omega)]
    simp only [Option.map_some, hadd]
  rw [run_sliceAt_slice _ _ _ _ _ _ bytes_slice, run_slice_l W 22 _ m c bytes_slice .i64 (lo : Int) (Int.natCast_nonneg _) (by omega), byte_size]
  simp only [Result.andThen_ok, Int.toNat_natCast, e]
theorem cut_h_run {b o m c hi : Nat} (h0 : 0 < hi) (h1 : hi ≤ c) (W : World) : (Instr.sliceAt 22 (.slice (some ⟨b, o, none⟩) m c) none (some (.int .i64 (hi : Int))) none).run Try.prog W = .ok (.slice (some ⟨b, o, none⟩) hi c) W := by
  have hadd : (⟨b, o, none⟩ : Addr).add (0 * 1) = ⟨b, o, none⟩ := by unfold Addr.add; split <;> simp_all
  have e : sliced (some ⟨b, o, none⟩) 0 hi c 1 = .slice (some ⟨b, o, none⟩) hi c := by
    unfold sliced
    rw [if_neg (by omega)]
    simp only [Option.map_some, hadd, Nat.sub_zero]
  rw [run_sliceAt_slice _ _ _ _ _ _ bytes_slice, run_slice_h W 22 _ m c bytes_slice .i64 (hi : Int) (Int.natCast_nonneg _) (by omega), byte_size]
  simp only [Result.andThen_ok, Int.toNat_natCast, e]
section appn
variable {f : Func} {r i N : Nat} {Q : Exit → Act → World → Prop} {F : List (Nat × Value)} {w : World} {L : List (Nat × Obj)} {X : List Xt}
end appn
end Go.Proofs.Ytbaifchbpnmkpaa
namespace Go.Proofs.Ytbaifchbpnmkpaa
open Go.RowKit
/-- A function's walk, from any world. -/
theorem enterW {P : Program} {w W : World} {L : List (Nat × Obj)} {X : List Xt} {fid : FuncId} {fn : Func} {args : Array Value} {R : Ending → World → Prop} (N : Nat) (K : (Nat → Code) → Code) (hS : Sx w L X W) (hf : P.funcs[fid]? = some fn) (k : Cd P (K (rgn fn)) (bodyPost P fn R) N (args.toList.zipIdx.map fun p => (p.2, p.1)) w L X)
    (hb : fn.body = some (K (rgn fn)) := by kernel_rfl) (hN : args.size + (fn.ntmps - args.size) = N := by kernel_rfl) : Calls P fid args W R :=
  calls_of_wp hf hb (k _ W ⟨by rw [← hN]; simp, fun j v hj => by
    have hm := look_mem _ _ _ hj
    obtain ⟨p, hp, he⟩ := List.mem_map.1 hm
    cases he
    obtain ⟨h1, h2, h3⟩ := List.mem_zipIdx hp
    simp only [Nat.sub_zero] at h3
    have h2 : p.2 < args.size := by simpa using h2
    rw [Array.getD_eq_getD_getElem?, Array.getElem?_append_left h2, h3]
    simp [h2]⟩ hS)
section semu
variable {P : Program} {f : Func} {r i N : Nat} {Q : Exit → Act → World → Prop} {F : List (Nat × Value)} {w : World} {L : List (Nat × Obj)} {X : List Xt}
def semU (T : Array Value) (F : List (Nat × Value)) (o : Oper) : Option (Sem Next) := match o.dst with
  | none => some (execOp (opd F T) o)
  | some _ => none
/-- An operation that only writes. -/
theorem At.semU (n : Nat) (hs : List Nat) (s : Sem Unit) {L' : List (Nat × Obj)} {X' : List Xt} (hv : ∀ W, Sx w L X W → ∃ W', s.run P W = .ok () W' ∧ Sx w L' X' W') (k : At P f r (i + n + 1) Q N F w L' X')
    (hk : ∀ T T', opL P f r i n L F hs T (semU T') = opR P f r i n L F hs T (do s; pure .skip) := by intro T T'; kernel_rfl) : At P f r i Q N F w L X := by
  intro hN T W hF hS
  refine op_run hN hF hS hk (fun T' F1 o hF' hF1 hb hw hdN => ?_)
  refine wpSeq_step fun K hK => ?_
  rw [if_pos hw]
  unfold Go.Proofs.Ytbaifchbpnmkpaa.semU at hb
  split at hb
  · rename_i e1
    simp only [Option.some.injEq] at hb
    obtain ⟨W', hr, hS'⟩ := hv W hS
    unfold Oper.wp
    rw [opd_eq hF1, hb]
    simp only [Sem.run_bind, Sem.run_pure, hr, Result.andThen_ok]
    show K ((⟨T', []⟩ : Act).put o.dst undef) W'
    rw [e1]
    exact hK _ _ (k hN _ W' hF' hS')
  · cases hb
end semu
/-- One cell is read. -/
theorem run_load1 {P : Program} {W : World} {b o : Nat} {t : TypeId} {d : TypeDesc} {v : Value} (hu : P.underlying t = some d) (hd : (match d with | .struct _ | .array _ _ => false | _ => true) = true) (hc : W.cell? ⟨b, o, none⟩ = some v) : (Instr.loadAt t (po b o)).run P W = .ok v W := by
  have e : (loadVar t ⟨b, o, none⟩).run P W = .ok v W := by
    unfold loadVar isAgg
    cases d <;> simp [run_underlying hu, hc] at hd ⊢
  simp only [Instr.loadAt, Instr.sureAddr, Sem.run_bind, Sem.run_pure, Result.andThen_ok, e]
/-- One cell is written. -/
theorem run_store1 {P : Program} {W : World} {b o : Nat} {t : TypeId} {u v : Value} (hv : v.cells = #[v]) (h1 : v.oneCell' = true) (hi : (P.info? t).map (·.size) = some 1) (hc : W.cell? ⟨b, o, none⟩ = some u) (hz : W.frozen? ⟨b, o, none⟩ = false) : (Instr.storeAt t (po b o) v).run P W = .ok () (W.setCell ⟨b, o, none⟩ v) := by
  have := run_storeCells_cells (P := P) b o [v] 0 W (fun j hj => by
    have : j = 0 := by simpa using hj
    subst this; simpa using by rw [hc]; rfl) (fun j hj => by
    have : j = 0 := by simpa using hj
    subst this; simpa using hz) (fun x hx => by rw [List.mem_singleton.1 hx]; exact h1)
  cases hq : P.info? t with
  | none => simp [hq] at hi
  | some i =>
    have hs : i.size = 1 := by simpa [hq] using hi
    simp only [Nat.add_zero, World.setCells] at this
    simp [Instr.storeAt, Instr.sureAddr, storeVar, sizeOf, typeInfo, hq, hv, hs, this]
/-- One's own slice of bytes: what is read of it. -/
theorem RestV.at {W : World} {b o n c : Nat} {bs : List Nat} (h : RestV W (.slice (some ⟨b, o, none⟩) n c) bs) (i : Nat) (hi : i < bs.length) : W.cell? ⟨b, o + i, none⟩ = some (.int .u8 ((nth bs i : Nat) : Int)) := by
  rcases h with ⟨h, -⟩ | ⟨g, off, cap, cur, h, hg, -, -, h3⟩
  · cases h
  · injection h with e1 e2 e3
    injection e1 with e1; injection e1 with e1 e4
    subst e1 e4
    rw [cell_of_row _ _ _ _ _ _ hg]; exact h3 i hi
/-- .. what is written to it. -/
theorem RestV.put {W : World} {b n c i x : Nat} {bs : List Nat} (h : RestV W (.slice (some ⟨b, 0, none⟩) n c) bs) (hi : i < bs.length) : RestV (W.setCell ⟨b, i, none⟩ (.int .u8 ((x : Nat) : Int))) (.slice (some ⟨b, 0, none⟩) n c) (bs.set i x) := by
  rcases h with ⟨h, -⟩ | ⟨g, off, cap, cur, h, hg, h1, h2, h3⟩
  · cases h
  · injection h with e1 e2 e3
    injection e1 with e1; injection e1 with e1 e4
    subst e1 e4 e2 e3
    refine Or.inr ⟨b, 0, c, _, by rw [List.length_set], heap_setCell_same W b i cur _ _ hg, by rw [List.length_set]; exact h1, by simpa using h2, fun j hj => ?_⟩
    rw [List.length_set] at hj
    rw [Nat.zero_add, Array.getElem?_setIfInBounds, nth_set _ _ _ _ hi]
    by_cases e : i = j
    · subst e
      rw [if_pos rfl, if_pos rfl, if_pos (by omega)]
    · rw [if_neg e, if_neg e]
      have := h3 j hj
      rwa [Nat.zero_add] at this
theorem restv_of {W : World} {v : Value} {bs : List Nat} (h : RestG 5 W v (bcells bs)) : RestV W v bs := by
  rcases h with ⟨h1, h2⟩ | ⟨g, off, cap, cur, h1, hg, h2, h3, h4⟩
  · exact Or.inl ⟨h1, by simpa [bcells] using h2⟩
  · rw [bcells_len] at h1 h2 h4
    exact Or.inr ⟨g, off, cap, cur, h1, hg, h2, h3, fun i hi => by rw [h4 i hi, bcells_get bs i hi]⟩
/-- A row of bytes is a piece. -/
theorem row_pcz {W : World} {g n c : Nat} {cs : Array Value} {bs : List Nat} (h : W.heap[g]? = some (.cells cs 5 (0, 0))) (hn : n = bs.length) (hc : cs.toList = bcells bs) : PieceV W W.heap.size (.slice (some ⟨g, 0, none⟩) n c) bs := by
  subst hn
  refine Or.inr ⟨g, 0, c, lt_of_block h, rfl, fun i hi => ?_⟩
  rw [cell_of_row _ _ _ _ _ _ h, Nat.zero_add, ← Array.getElem?_toList, hc, bcells_get _ _ hi]
theorem capof {A : Option Addr} {m c : Nat} (h : m ≤ c) : ∀ a n k, Value.slice A m c = .slice a n k → n ≤ k := fun _ _ _ e => by cases e; exact h
end Go.Proofs.Ytbaifchbpnmkpaa
namespace Go.Proofs.Ytbaifchbpnmkpaa
open Go.RowKit
/-- The first row, the first fact let go. -/
theorem Sx.tlX {w W : World} {L : List (Nat × Obj)} {q : Xt} {X : List Xt} (h : Sx w L (q :: X) W) : Sx w L X W :=
  ⟨h.below, h.rows, h.apart, fun r hr => h.ext r (List.mem_cons_of_mem _ hr), fun p hp r hr => h.sep p hp r (List.mem_cons_of_mem _ hr), fun r hr => h.bound r (List.mem_cons_of_mem _ hr), (List.pairwise_cons.1 h.excl).2⟩
/-- A fact turned into another one on its blocks. -/
theorem Sx.mapX {w W : World} {L : List (Nat × Obj)} {X : List Xt} (h : Sx w L X W) (i : Nat) {q : Xt} (q' : Xt) (hi : X[i]? = some q) (hex : q'.ex = q.ex) (hf : ∀ b, q'.foot b → q.foot b) (hh : q.holds W → q'.holds W) : Sx w L (X.set i q') W := by
  have hlen : i < X.length := (List.getElem?_eq_some_iff.1 hi).1
  have e2 : X[i] = q := (List.getElem?_eq_some_iff.1 hi).2
  have hqm : q ∈ X := List.mem_of_getElem? hi
  have hmem : ∀ r, r ∈ X.set i q' → r = q' ∨ r ∈ X := fun r hr => by
    obtain ⟨j, hj⟩ := List.getElem?_of_mem hr
    rw [List.getElem?_set] at hj
    by_cases hij : i = j
    · subst hij; rw [if_pos rfl, if_pos hlen] at hj; cases hj; exact Or.inl rfl
    · rw [if_neg hij] at hj; exact Or.inr (List.mem_of_getElem? hj)
  refine ⟨h.below, h.rows, h.apart, fun r hr => ?_, fun p hp r hr => ?_, fun r hr b hb => ?_, ?_⟩
  · rcases hmem r hr with rfl | hr
    · exact hh (h.ext q hqm)
    · exact h.ext r hr
  · rcases hmem r hr with rfl | hr
    · exact fun e => h.sep p hp q hqm (hf _ e)
    · exact h.sep p hp r hr
  · rcases hmem r hr with rfl | hr
    · exact h.bound q hqm b (hf b hb)
    · exact h.bound r hr b hb
  · rw [List.pairwise_iff_getElem]
    intro a b ha hb hab
    have hal : a < X.length := by simpa using ha
    have hbl : b < X.length := by simpa using hb
    have hp := List.pairwise_iff_getElem.1 h.excl a b hal hbl hab
    rw [List.getElem_set, List.getElem_set]
    by_cases e1 : i = a
    · subst e1
      rw [if_pos rfl, if_neg (by omega)]
      rw [e2] at hp
      exact fun hx c hc => hp (by rw [← hex]; exact hx) c (hf c hc)
    · rw [if_neg e1]
      by_cases e3 : i = b
      · subst e3
        rw [if_pos rfl]; rw [e2] at hp
        exact fun hx c hc hc' => hp (by rw [← hex]; exact hx) c hc (hf c hc')
      · rw [if_neg e3]; exact hp
section og
variable {E : TypeId} {W : World} {b o k cap : Nat} {cs : List Value} {v : Value}
theorem RestG.cut (h : RestG E W (.slice (some ⟨b, o, none⟩) (k + 1) cap) (cs ++ [v])) (hk : cs.length = k) : RestG E W (.slice (some ⟨b, o, none⟩) k cap) cs := by
  rcases h with ⟨h, -⟩ | ⟨g, off, cp, cur, h, hg, h1, h2, h3⟩
  · cases h
  · injection h with e1 e2 e3
    rw [List.length_append] at h1 h3
    refine Or.inr ⟨g, off, cp, cur, by rw [e1, e3, hk], hg, by simp at h1; omega, h2, fun i hi => ?_⟩
    rw [h3 i (by omega), List.getElem?_append_left hi]
end og
/-- The last one is taken off. -/
theorem Sx.cutog {w W : World} {L : List (Nat × Obj)} {X : List Xt} {E : TypeId} {b o k cap : Nat} {cs : List Value} {v : Value} (h : Sx w L X W) (i : Nat) (hi : X[i]? = some (xog E w (.slice (some ⟨b, o, none⟩) (k + 1) cap) (cs ++ [v]))) (hk : cs.length = k) : Sx w L (X.set i (xog E w (.slice (some ⟨b, o, none⟩) k cap) cs)) W :=
  h.mapX i _ hi rfl (fun _ hb => hb) (fun ⟨h1, h2⟩ => ⟨h1.cut hk, h2⟩)
section pl
variable {w W : World} {L : List (Nat × Obj)} {X : List Xt} {S S' : Nat → Prop} {vs : List Value} {pss : List (List Nat)} {v : Value} {x : List Nat}
theorem Sx.plS (h : Sx w L X W) (i : Nat) (hi : X[i]? = some (xpl S vs pss)) : (∀ b, S b → b < W.heap.size) ∧ ∀ (i : Nat) v ps, vs[i]? = some v → pss[i]? = some ps → PieceS W S v ps := h.x i hi
/-- One of them, as a piece of its own. -/
theorem Sx.plat (h : Sx w L X W) (i : Nat) (hi : X[i]? = some (xpl S vs pss)) (j : Nat) (hv : vs[j]? = some v) (hx : pss[j]? = some x) : Sx w L (xps S v x :: X) W :=
  h.dup i hi rfl _ rfl (fun _ h => h) ⟨(h.plS i hi).1, (h.plS i hi).2 j v x hv hx⟩
theorem Sx.cutpl (h : Sx w L X W) (i : Nat) (hi : X[i]? = some (xpl S (vs ++ [v]) (pss ++ [x]))) (hl : vs.length = pss.length) : Sx w L (X.set i (xpl S vs pss)) W :=
  h.mapX i _ hi rfl (fun _ hb => hb) (fun ⟨h1, h2⟩ => ⟨h1, fun j u ps hu hp => h2 j u ps (by rw [List.getElem?_append_left (List.getElem?_eq_some_iff.1 hu).1]; exact hu) (by rw [List.getElem?_append_left (List.getElem?_eq_some_iff.1 hp).1]; exact hp)⟩)
/-- A piece more. -/
theorem Sx.addpl (h : Sx w L (xps S' v x :: xpl S vs pss :: X) W) (hl : vs.length = pss.length) : Sx w L (xpl (fun b => S b ∨ S' b) (vs ++ [v]) (pss ++ [x]) :: X) W := by
  have h1 : (∀ b, S' b → b < W.heap.size) ∧ PieceS W S' v x := h.ext _ (List.mem_cons_self ..)
  have h2 : (∀ b, S b → b < W.heap.size) ∧ ∀ (i : Nat) v ps, vs[i]? = some v → pss[i]? = some ps → PieceS W S v ps := h.ext _ (List.mem_cons_of_mem _ (List.mem_cons_self ..))
  refine h.merge _ rfl (fun b hb => Or.symm hb) ⟨fun b hb => hb.elim (h2.1 b) (h1.1 b), fun i u ps hu hps => ?_⟩
  by_cases hi : i < vs.length
  · rw [List.getElem?_append_left hi] at hu
    rw [List.getElem?_append_left (by omega)] at hps
    exact (h2.2 i u ps hu hps).mono (fun _ hb => Or.inl hb)
  · rw [List.getElem?_append_right (by omega)] at hu
    rw [List.getElem?_append_right (by omega), ← hl] at hps
    have hz : i - vs.length = 0 := by
      have := (List.getElem?_eq_some_iff.1 hu).1; simp at this; omega
    rw [hz] at hu hps
    simp at hu hps
    subst hu hps
    exact h1.2.mono (fun _ hb => Or.inr hb)
/-- A made row as a piece. -/
theorem Sx.rowps {g n c : Nat} {cs : Array Value} {t : TypeId} {fr : Nat × Nat} {bs : List Nat} (h : Sx w ((g, .cells cs t fr) :: L) X W) (hc : cs.toList = bcells bs) (hn : n = bs.length) : Sx w L (xps (fun b => b = g) (.slice (some ⟨g, 0, none⟩) n c) bs :: X) W := by
  have hg : W.heap[g]? = some (.cells cs t fr) := h.rows _ (List.mem_cons_self ..)
  have h0 : Sx w L X W := ⟨h.below, fun p hp => h.rows p (List.mem_cons_of_mem _ hp), (List.pairwise_cons.1 h.apart).2, h.ext, fun p hp => h.sep p (List.mem_cons_of_mem _ hp), h.bound, h.excl⟩
  refine h0.addX _ ⟨fun b hb => by rw [show b = g from hb]; exact lt_of_block hg, ?_⟩ (fun p hp e => (List.pairwise_cons.1 h.apart).1 p hp (show p.1 = g from e).symm) (fun b hb => by rw [show b = g from hb]; exact lt_of_block hg) (fun r hr _ b hb hrb => h.sep _ (List.mem_cons_self ..) r hr (by rw [show b = g from hb] at hrb; exact hrb))
  subst hn
  refine Or.inr ⟨g, 0, c, rfl, rfl, fun i hi => ?_⟩
  rw [cell_of_row _ _ _ _ _ _ hg, Nat.zero_add, ← Array.getElem?_toList, hc, bcells_get _ _ hi]
/-- A slice of one's own as a piece. -/
theorem Sx.ownps {bs : List Nat} (h : Sx w L (xown w v bs :: X) W) : Sx w L (xps (fun b => v.ownBlock = some b) v bs :: X) W := by
  have h1 : RestV W v bs ∧ _ := h.ext _ (List.mem_cons_self ..)
  refine h.tlX.addX _ ⟨fun b hb => h1.1.lt b hb, ?_⟩ (fun p hp hf => h.sep p hp _ (List.mem_cons_self ..) hf) (fun b hb => h.bound _ (List.mem_cons_self ..) b hb) (fun r hr _ b hb => (List.pairwise_cons.1 h.excl).1 r hr (by rfl) b hb)
  rcases h1.1 with ⟨rfl, rfl⟩ | ⟨g, off, cap, cur, rfl, hg, a1, a2, a3⟩
  · exact Or.inl ⟨⟨_, _, rfl⟩, rfl⟩
  · exact Or.inr ⟨g, off, cap, rfl, rfl, fun j hj => (cell_of_row _ _ _ _ _ _ hg).trans (a3 j hj)⟩
theorem Sx.psv (h : Sx w L X W) (i : Nat) {bs : List Nat} (hi : X[i]? = some (xps S v bs)) : PieceV W W.heap.size v bs := h.ps i hi
end pl
/-- A slice cut at its end, whatever it holds; elements of one cell. -/
theorem cut_hg_run {P : Program} {T E : TypeId} (hT : P.underlying T = some (.slice E)) (hE : (sizeOf E).run P = fun W => .ok 1 W) {b o m c hi : Nat} (hc : 0 < c) (h1 : hi ≤ c) (W : World) : (Instr.sliceAt T (.slice (some ⟨b, o, none⟩) m c) none (some (.int .i64 (hi : Int))) none).run P W = .ok (.slice (some ⟨b, o, none⟩) hi c) W := by
  have hadd : (⟨b, o, none⟩ : Addr).add (0 * 1) = ⟨b, o, none⟩ := by unfold Addr.add; split <;> simp_all
  have e : sliced (some ⟨b, o, none⟩) 0 hi c 1 = .slice (some ⟨b, o, none⟩) hi c := by
    unfold sliced
    rw [if_neg (by omega)]
    simp only [Option.map_some, hadd, Nat.sub_zero]
  have he : P.elem T = E := by unfold Program.elem; rw [hT]
  have hT' : P.underlying T = some (.slice (P.elem T)) := by rw [he]; exact hT
  rw [run_sliceAt_slice _ _ _ _ _ _ hT', run_slice_h W T _ m c hT' .i64 (hi : Int) (Int.natCast_nonneg _) (by omega), he, congrFun hE]
  simp only [Result.andThen_ok, Int.toNat_natCast, e]
theorem size_of1 {P : Program} {E : TypeId} (h : (P.info? E).map (·.size) = some 1) : (sizeOf E).run P = fun W => .ok 1 W := by
  funext W
  cases hq : P.info? E with
  | none => simp [hq] at h
  | some i =>
    have hs : i.size = 1 := by simpa [hq] using h
    simp [sizeOf, typeInfo, hq, hs]
/-- An element's address. -/
theorem ixg_run {P : Program} {T E : TypeId} (hT : P.underlying T = some (.slice E)) (hE : (sizeOf E).run P = fun W => .ok 1 W) {b o c n i : Nat} (h : i < n) (W : World) : (Instr.indexAt T (.slice (some ⟨b, o, none⟩) n c) (.int .i64 ((i : Nat) : Int))).run P W = .ok (po b (o + i)) W := by
  have hadd : (⟨b, o, none⟩ : Addr).add (i * 1) = ⟨b, o + i, none⟩ := by unfold Addr.add; split <;> simp_all
  rw [Nat.mul_one] at hadd
  simp [Instr.indexAt, asIntOf, run_underlying hT, congrFun hE, h, hadd]
/-- A cell of one's own slice is written. -/
theorem RestG.put {E : TypeId} {W : World} {b o n c i : Nat} {cs : List Value} {v : Value} (h : RestG E W (.slice (some ⟨b, o, none⟩) n c) cs) (hi : i < cs.length) : RestG E (W.setCell ⟨b, o + i, none⟩ v) (.slice (some ⟨b, o, none⟩) n c) (cs.set i v) := by
  rcases h with ⟨h, -⟩ | ⟨g, off, cap, cur, h, hg, h1, h2, h3⟩
  · cases h
  · injection h with e1 e2 e3
    injection e1 with e1; injection e1 with e1 e4
    subst e1 e4 e2 e3
    refine Or.inr ⟨b, o, c, _, by rw [List.length_set], heap_setCell_same W b (o + i) cur _ _ hg, by rw [List.length_set]; exact h1, by simpa using h2, fun j hj => ?_⟩
    rw [List.length_set] at hj
    rw [Array.getElem?_setIfInBounds, List.getElem?_set]
    by_cases e : i = j
    · subst e
      rw [if_pos rfl, if_pos rfl, if_pos (by omega), if_pos hi]
    · rw [if_neg (by omega), if_neg e]
      exact h3 j hj
theorem Sx.putog {P : Program} {w W : World} {L : List (Nat × Obj)} {X : List Xt} {E t : TypeId} (S : Sx w L X W) (j : Nat) {b o n c i : Nat} {cs : List Value} {v : Value} (hj : X[j]? = some (xog E w (.slice (some ⟨b, o, none⟩) n c) cs)) (hi : i < cs.length) (hv : v.cells = #[v]) (h1 : v.oneCell' = true) (hs : (P.info? t).map (·.size) = some 1) : ∃ W', (Instr.storeAt t (po b (o + i)) v).run P W = .ok () W' ∧ Sx w L (X.set j (xog E w (.slice (some ⟨b, o, none⟩) n c) (cs.set i v))) W' := by
  have ho : RestG E W (.slice (some ⟨b, o, none⟩) n c) cs ∧ ∀ b', (Value.slice (some ⟨b, o, none⟩) n c).ownBlock = some b' → w.heap.size ≤ b' := S.x j hj
  obtain ⟨u, hu⟩ : ∃ u, cs[i]? = some u := ⟨_, List.getElem?_eq_getElem hi⟩
  have hat := ho.1.at i (o + i) u hu rfl
  have hlt : b < W.heap.size := ho.1.lt b rfl
  have hz : W.frozen? ⟨b, o + i, none⟩ = false := by
    rcases ho.1 with ⟨h, -⟩ | ⟨g, off, cap, cur, h, hg, -⟩
    · cases h
    · injection h with e1; injection e1 with e1; injection e1 with e1 e4
      subst e1
      exact frozen_of_row W b (o + i) _ _ hg
  refine ⟨_, run_store1 hv h1 hs hat hz, ?_⟩
  have hb := Below.setCell (Below.refl 0 W) (p := ⟨b, o + i, none⟩) (Nat.zero_le _) v
  refine S.writeX j hj rfl rfl ⟨ho.1.put hi, ho.2⟩ (fun b' hb' => Or.inl hb') (fun b' hb' => ?_) ho.2 rfl rfl rfl hb.size (fun b' _ hn => heap_setCell_other W ⟨b, o + i, none⟩ b' _ (fun e => hn (by subst e; rfl)))
  have : b' = b := by
    have := hb'
    simp [xog, Value.ownBlock] at this; exact this.symm
  subst this
  exact Nat.lt_of_lt_of_le hlt hb.size
section callf
variable {P : Program} {f : Func} {r i N : Nat} {Q : Exit → Act → World → Prop} {F : List (Nat × Value)} {w : World} {L : List (Nat × Obj)} {X : List Xt}
/-- The function value that an operation calls, and with what. -/
def fvB (P : Program) (T : Array Value) (F : List (Nat × Value)) (o : Oper) : Option (Nat × FuncId × Array Value × Bool) := match o.dst, o.op with
  | some d, .call c => match c.callee with
    | .value x => match opd F T x with
      | .func (.func g) first captured => if first.size = 0 ∧ captured.size = 0 then some (d, g, c.args.map (opd F T), callableF P g) else none
      | _ => none
    | _ => none
  | _, _ => none
/-- A call of a function value. -/
theorem At.callF (n : Nat) (hs : List Nat) (d : Nat) {fid : FuncId} {vs : Array Value} {v : Value} (h : ∀ W, Sx w L X W → Calls P fid vs W (fun e w' => e = .returned v ∧ Below W.heap.size W w')) (k : At P f r (i + n + 1) Q N ((d, v) :: F) w L X)
    (hk : ∀ T T', opL P f r i n L F hs T (fvB P T') = opR P f r i n L F hs T (d, fid, vs, true) := by intro T T'; kernel_rfl) : At P f r i Q N F w L X := by
  intro hN T W hF hS
  refine op_run hN hF hS hk (fun T' F1 o hF' hF1 hb hw hdN => ?_)
  refine wpSeq_step fun K hK => ?_
  rw [if_pos hw]
  unfold fvB at hb
  split at hb
  · rename_i d' c e1 e2
    obtain ⟨callee, args, argTypes⟩ := c
    simp only at hb
    split at hb
    · rename_i x
      split at hb
      · rename_i g first captured e3
        split at hb
        · rename_i hz
          simp only [Option.some.injEq, Prod.mk.injEq] at hb
          obtain ⟨rfl, rfl, rfl, hc⟩ := hb
          obtain rfl : first = #[] := Array.eq_empty_of_size_eq_zero hz.1
          obtain rfl : captured = #[] := Array.eq_empty_of_size_eq_zero hz.2
          unfold callableF at hc
          split at hc
          · rename_i fn hfn
            simp only [callable, Bool.and_eq_true, Bool.not_eq_true', Option.isSome_iff_exists] at hc
            obtain ⟨h1, cb, h2⟩ := hc
            have h1' : ¬ fn.name = "runtime.NumGoroutine" := by simpa using h1
            unfold Oper.wp
            rw [opd_eq hF1]
            unfold execOp
            have e : (do let d ← resolve (opd F1 T') { callee := .value x, args := args, argTypes := argTypes } o.type; invoke d.target d.args : Sem Next).run P W = .ok (.enter g (args.map (opd F1 T'))) W := by
              simp [resolve, e3, Deferred.ofValue, invoke, callFunc, hfn, h1', h2]
            simp only [e2]
            rw [e]
            refine (h W hS).mono ?_
            rintro en w' ⟨rfl, hbl⟩
            show K ((⟨T', []⟩ : Act).put o.dst v) w'
            rw [e1]
            exact hK _ _ (k hN _ w' (hF'.put _ v (hdN _ e1)) (hS.keep hbl))
          · cases hc
        · cases hb
      · cases hb
    · cases hb
  · cases hb
end callf
/-- A function without results falls off its end. -/
theorem end_of {P : Program} {N : Nat} {F : List (Nat × Value)} {w : World} {L : List (Nat × Obj)} {X : List Xt} {fn : Func} {R : Ending → World → Prop} (v : Value) (h : ∀ W, Sx w L X W → R (.returned v) W)
    (hk : (resAll P F L [] fn.results.toList).map (fun q => (oneOf q.1, q.2.1)) = (resAll P F L [] fn.results.toList).map (fun q => (v, q.2.2)) := by kernel_rfl) (hs1 : (resAll P F L [] fn.results.toList).isSome = true := by kernel_rfl) : ∀ T W, Fq N T F → Sx w L X W → bodyPost P fn R .normal ⟨T, []⟩ W := by
  intro T W hF hS
  cases e : resAll P F L [] fn.results.toList with
  | none => rw [e] at hs1; cases hs1
  | some q =>
    obtain ⟨vs, l, g⟩ := q
    rw [e] at hk
    simp only [Option.map_some, Option.some.injEq, Prod.mk.injEq] at hk
    obtain ⟨h1, h2⟩ := hk
    exact ⟨rfl, _, results_run hF hS e h2, h1 ▸ h W hS⟩
/-- A loop's next round, out of a block. -/
theorem again_o {N : Nat} {F : List (Nat × Value)} {w : World} {L : List (Nat × Obj)} {X : List Xt} {ι : Type} {m : ι → Nat} {Fi : ι → List (Nat × Value)} {Li : ι → List (Nat × Obj)} {Xi : ι → List Xt} {i : ι} (j : ι) (hlt : m j < m i) (hS : ∀ W, Sx w L X W → Sx w (Li j) (Xi j) W) (hk : (Fi j).map (fun p => look F p.1) = (Fi j).map (fun p => some p.2) := by kernel_rfl) : ∀ T W, Fq N T F → Sx w L X W → again m Fi w Li Xi N i ⟨T, []⟩ W :=
  fun T W hF h => ⟨j, hlt, T, rfl, hF.sub hk, hS W h⟩
/-- A row, a fact put ahead. -/
theorem Sx.perm {w W : World} {L L' : List (Nat × Obj)} {X X' : List Xt} (h : Sx w L X W) (hL : L'.Perm L) (hX : X'.Perm X) : Sx w L' X' W :=
  ⟨h.below, fun p hp => h.rows p (hL.mem_iff.1 hp), (hL.pairwise_iff (fun h => Ne.symm h)).2 h.apart, fun q hq => h.ext q (hX.mem_iff.1 hq), fun p hp q hq => h.sep p (hL.mem_iff.1 hp) q (hX.mem_iff.1 hq), fun q hq => h.bound q (hX.mem_iff.1 hq), (hX.pairwise_iff (fun {p q} h hx b hb hb' => h (by rw [Bool.or_comm]; exact hx) b hb' hb)).2 h.excl⟩
theorem perm_front {α : Type} : ∀ {l : List α} {i : Nat} {x : α}, l[i]? = some x → (x :: l.eraseIdx i).Perm l
  | a :: l, 0, x, h => by
    have : a = x := by simpa using h
    subst this; exact List.Perm.refl _
  | a :: l, i + 1, x, h => (List.Perm.swap a x (l.eraseIdx i)).trans (List.Perm.cons a (perm_front (l := l) (i := i) (by simpa using h)))
theorem Sx.fL {w W : World} {L : List (Nat × Obj)} {X : List Xt} (h : Sx w L X W) (i : Nat) {p : Nat × Obj} (hi : L[i]? = some p) : Sx w (p :: L.eraseIdx i) X W := h.perm (perm_front hi) (List.Perm.refl _)
theorem Sx.fX {w W : World} {L : List (Nat × Obj)} {X : List Xt} (h : Sx w L X W) (j : Nat) {q : Xt} (hj : X[j]? = some q) : Sx w L (q :: X.eraseIdx j) W := h.perm (List.Perm.refl _) (perm_front hj)
theorem Sx.dL {w W : World} {L : List (Nat × Obj)} {X : List Xt} (h : Sx w L X W) (i : Nat) {p : Nat × Obj} (hi : L[i]? = some p) : Sx w (L.eraseIdx i) X W := (h.fL i hi).tl
theorem Sx.dX {w W : World} {L : List (Nat × Obj)} {X : List Xt} (h : Sx w L X W) (j : Nat) {q : Xt} (hj : X[j]? = some q) : Sx w L (X.eraseIdx j) W := (h.fX j hj).tlX
/-- A slice whose length is within its room. -/
def CapOk (v : Value) : Prop := ∀ a n c, v = .slice a n c → n ≤ c
end Go.Proofs.Ytbaifchbpnmkpaa
namespace Go.Proofs.Ytbaifchbpnmkpaa
open Go.RowKit
theorem PadR.nil' {w W : World} {bs : List Nat} (h : Below w.heap.size w W) (he : bs = []) : PadR w (.slice none 0 0) bs W := ⟨h, Or.inl ⟨rfl, he⟩, fun b hb => by cases hb⟩
theorem Sx.ofpc {w : World} {v : Value} {bs : List Nat} (h : PieceV w w.heap.size v bs) : Sx w [] [xpc w.heap.size v bs] w := (Sx.nil w).addX _ ⟨Nat.le_refl _, h⟩ (fun _ h => by cases h) (fun _ h => h) (fun _ h => by cases h)
set_option maxRecDepth 100000 in
set_option maxHeartbeats 4000000 in
theorem clone_c (v : Value) (bs : List Nat) (w : World) (hp : PieceV w w.heap.size v bs) (hlen : bs.length ≤ 1000000000) :
    Calls Try.prog 20 #[v] w fun e w' => ∃ v', e = .returned v' ∧ PadR w v' bs w' := by
  obtain ⟨a, c, rfl⟩ := hp.shape
  have S0 := Sx.ofpc hp
  cases a with
  | none =>
    have he : bs = [] := by rcases hp with h | ⟨b, o, c', _, h, _⟩; exact h.2; injection h with h; cases h
    have HE := Lib.hid he
    clear he
    clear hp
    have sk : Try.f20.body = some (.seq (rgn Try.f20 0) (.seq (.seq (rgn Try.f20 1) (.cond (.tmp 4) (.seq (rgn Try.f20 2) .ret) .skip)) (.seq (rgn Try.f20 3) .ret))) := by kernel_rfl
    refine enter 8 [(0, .slice none (bs.length) (c))] Try.func20 sk (by rfl) rfl S0 (fun T W hF hS => ?_)
    clear sk S0
    refine wp_seq ?_
    conv => arg 2; whnf
    refine wp_region_lit ?_
    refine so_p hF (.slice none 0 0) (fun K hK => wp_assign rfl rfl hK) ?_; clear hF T; intro T hF
    refine wpList_nil ?_
    refine then_normal ?_
    refine wp_seq ?_
    refine wp_seq ?_
    conv => arg 2; whnf
    refine wp_region_lit ?_
    refine so_mv hF 1 ?_; clear hF T; intro T hF
    refine so_pure hF rfl (wanted_none rfl _) (by decide) rfl (.bool true) (fun K hK => ?_) ?_
    next =>
     have f3 := hF.ev 0 rfl
     have hn : (Op.equalIn 10000 22 (.slice none bs.length c) (.slice none 0 0)).run Try.prog W = .ok true W := Lib.run_equalIn_slice_nil W 9999 _ _ _ _ _ _ _ Try.underlying22
     go_simp
     exact hK.out
    clear hF
    clear T
    intro T hF
    refine wpList_nil ?_
    refine then_normal ?_
    refine wp_cond_true (hF.op 0 rfl) ?_
    refine wp_seq ?_
    conv => arg 2; whnf
    refine wp_region_lit ?_
    replace hF : Fr 8 ⟨T, []⟩ [] := hF.pick []
    refine so_p hF (.slice none 0 0) (fun K hK => wp_assign rfl rfl hK) ?_; clear hF T; intro T hF
    refine wpList_nil ?_
    refine then_normal ?_
    refine wp_ret ?_
    refine then_ret ?_
    refine bodyPost_ret (v := .slice none 0 0) (results_t1 Try.results20 (hF.ev 0 rfl)) rfl ?_
    exact ⟨_, rfl, PadR.nil' hS.below HE.out⟩
  | some a =>
    clear hp
    have sk : Try.f20.body = some (.seq (rgn Try.f20 0) (.seq (.seq (rgn Try.f20 1) (.cond (.tmp 4) (.seq (rgn Try.f20 2) .ret) .skip)) (.seq (rgn Try.f20 3) .ret))) := by kernel_rfl
    refine enter 8 [(0, .slice (some a) (bs.length) (c))] Try.func20 sk (by rfl) rfl S0 (fun T W hF hS => ?_)
    clear sk S0
    refine wp_seq ?_
    conv => arg 2; whnf
    refine wp_region_lit ?_
    refine so_p hF (.slice none 0 0) (fun K hK => wp_assign rfl rfl hK) ?_; clear hF T; intro T hF
    refine wpList_nil ?_
    refine then_normal ?_
    refine wp_seq ?_
    refine wp_seq ?_
    conv => arg 2; whnf
    refine wp_region_lit ?_
    refine so_mv hF 1 ?_; clear hF T; intro T hF
    refine so_pure hF rfl (wanted_none rfl _) (by decide) rfl (.bool false) (fun K hK => ?_) ?_
    next =>
     have f3 := hF.ev 0 rfl
     have hn : (Op.equalIn 10000 22 (.slice (some a) bs.length c) (.slice none 0 0)).run Try.prog W = .ok false W := Lib.run_equalIn_slice_nil W 9999 _ _ _ _ _ _ _ Try.underlying22
     go_simp
     exact hK.out
    clear hF
    clear T
    intro T hF
    refine wpList_nil ?_
    refine then_normal ?_
    refine wp_cond_false (hF.op 0 rfl) ?_
    refine wp_skip ?_
    refine then_normal ?_
    refine wp_seq ?_
    conv => arg 2; whnf
    refine wp_region_lit ?_
    refine so_step hF rfl (wanted_none rfl _) (by decide) rfl (fun v W' => ∃ g, (.slice (some ⟨g, 0, none⟩) 0 0 : Value) = v ∧ Sx w [] [xown w (.slice (some ⟨g, 0, none⟩) 0 0) [], xpc w.heap.size (.slice (some a) (bs.length) (c)) bs] W') (fun K hK => ?_) ?_
    next =>
     go_simp
     exact hK.out _ _ ⟨_, rfl, hS.empty⟩
    clear hS
    clear hF
    clear T
    rintro v T W1 ⟨g5, rfl, hS⟩ hF
    try clear W
    obtain ⟨W, rfl⟩ : ∃ x, x = W1 := ⟨_, rfl⟩
    refine so_mv hF 4 ?_; clear hF T; intro T hF
    refine so_step hF rfl (wanted_none rfl _) (by decide) rfl (fun v W' => ∃ aq cq, .slice aq (bs.length) cq = v ∧ Sx w [] (List.set [xown w (.slice (some ⟨g5, 0, none⟩) 0 0) [], xpc w.heap.size (.slice (some a) (bs.length) (c)) bs] 0 (xown w v ([] ++ bs))) W') (fun K hK => ?_) ?_
    next =>
     refine wp_app hS 0 (.tmp 5) (.tmp 6) rfl (hF.op 1 rfl) (hF.op 0 rfl) rfl (PieceV.src (hS.pc 1 rfl)) (by first | omega | (simp; omega)) (fun v' W' hS' => ?_)
     obtain ⟨a, c, e⟩ := (hS'.own 0 rfl).shape
     exact hK.out _ _ ⟨a, c, by rw [e]; simp, hS'⟩
    clear hF hS
    clear T
    rintro v T W1 ⟨a7, c7, rfl, hS⟩ hF
    try clear W
    obtain ⟨W, rfl⟩ : ∃ x, x = W1 := ⟨_, rfl⟩
    replace hS : Sx w [] [xown w (.slice a7 (bs.length) c7) ([] ++ bs), xpc w.heap.size (.slice (some a) (bs.length) (c)) bs] W := hS
    replace hF : Fr 8 ⟨T, []⟩ [(7, .slice a7 (bs.length) (c7))] := hF.pick [0]
    refine so_as hF 0 ?_; clear hF T; intro T hF
    refine wpList_nil ?_
    refine then_normal ?_
    refine wp_ret ?_
    refine bodyPost_ret (v := .slice a7 (bs.length) (c7)) (results_t1 Try.results20 (hF.ev 0 rfl)) rfl ?_
    exact ⟨_, rfl, hS.padr 0 rfl⟩
end Go.Proofs.Ytbaifchbpnmkpaa
namespace Go.Proofs.Ytbaifchbpnmkpaa
open Go.RowKit
/-- The number of digits to the base 65536, the lowest first. -/
def val : List Nat → Nat
  | [] => 0
  | d :: ds => d + 65536 * val ds
/-- Each digit is one. -/
def Digs (ds : List Nat) : Prop := ∀ d, d ∈ ds → d < 65536
theorem val_append (a b : List Nat) : val (a ++ b) = val a + 65536 ^ a.length * val b := by
  induction a with
  | nil => simp [val]
  | cons d a ih =>
    simp only [List.cons_append, val, ih, List.length_cons, Nat.pow_succ]
    have e : 65536 ^ a.length * 65536 * val b = 65536 * (65536 ^ a.length * val b) := by rw [Nat.mul_comm (65536 ^ a.length), Nat.mul_assoc]
    rw [e]; omega
theorem val_snoc (a : List Nat) (d : Nat) : val (a ++ [d]) = val a + 65536 ^ a.length * d := by simp [val_append, val]
theorem val_lt (a : List Nat) (h : Digs a) : val a < 65536 ^ a.length := by
  induction a with
  | nil => simp [val]
  | cons d a ih =>
    have h1 := h d (by simp)
    have h2 := ih (fun x hx => h x (by simp [hx]))
    simp only [val, List.length_cons, Nat.pow_succ]; omega
/-- A digit; 0 behind the last one. (Closed to simp.) -/
def dg (ds : List Nat) (i : Nat) : Nat := ds.getD i 0
theorem dg_end (ds : List Nat) (i : Nat) (h : ds.length ≤ i) : dg ds i = 0 := by
  unfold dg; rw [List.getD_eq_getElem?_getD, List.getElem?_eq_none h]; rfl
theorem digs_at (a : List Nat) (h : Digs a) (i : Nat) : dg a i < 65536 := by
  unfold dg; rw [List.getD_eq_getElem?_getD]
  cases hi : a[i]? with
  | none => simp
  | some d => exact h d (List.mem_of_getElem? hi)
/-- The cells of block b from o on read as these digits. -/
structure Dg (W : World) (b o : Nat) (ds : List Nat) : Prop where
  lt : b < W.heap.size
  cell : ∀ i, i < ds.length → W.cell? ⟨b, o + i, none⟩ = some (.int .u64 ((dg ds i : Nat) : Int))
theorem Dg.keep {W W' : World} {b o : Nat} {ds : List Nat} (h : Dg W b o ds) (hb : Below W.heap.size W W') : Dg W' b o ds :=
  ⟨Nat.lt_of_lt_of_le h.lt hb.size, fun i hi => (hb.cell (p := ⟨b, o + i, none⟩) h.lt).trans (h.cell i hi)⟩
/-- The value of a slice. -/
@[reducible] def sv (b o n c : Nat) : Value := .slice (some ⟨b, o, none⟩) n c
/-- The number of the lowest n digits. -/
def valN (ds : List Nat) : Nat → Nat
  | 0 => 0
  | n + 1 => valN ds n + dg ds n * 65536 ^ n
theorem valN_nil (n : Nat) : valN [] n = 0 := by
  induction n with
  | zero => rfl
  | succ n ih => rw [valN, ih, dg_end [] n (by simp)]; simp
theorem valN_cons (d : Nat) (ds : List Nat) (n : Nat) : valN (d :: ds) (n + 1) = d + 65536 * valN ds n := by
  induction n with
  | zero => simp [valN, dg]
  | succ n ih =>
    rw [valN, ih, valN]
    have e : dg (d :: ds) (n + 1) = dg ds n := by simp [dg]
    rw [e, Nat.mul_add, Nat.pow_succ, Nat.mul_comm (65536 ^ n) 65536, Nat.mul_left_comm (dg ds n), Nat.add_assoc]
theorem valN_eq (ds : List Nat) : ∀ n, ds.length ≤ n → valN ds n = val ds := by
  induction ds with
  | nil => intro n _; rw [valN_nil]; rfl
  | cons d ds ih =>
    intro n hn
    obtain ⟨m, rfl⟩ : ∃ m, n = m + 1 := ⟨n - 1, by simp at hn; omega⟩
    rw [valN_cons, ih m (by simp at hn; omega)]; rfl
end Go.Proofs.Ytbaifchbpnmkpaa
namespace Go.Proofs.Ytbaifchbpnmkpaa
open Go.RowKit
/-- Limb j, when c of its four digits are in. -/
def hc (ds : List Nat) (j : Nat) : Nat → Nat
  | 0 => 0
  | c + 1 => 65536 * hc ds j c + dg ds (4 * j + 3 - c)
/-- How many digits of limb j are in, when all from k on are. -/
def inn (j k : Nat) : Nat := min 4 (4 * j + 4 - k)
/-- The four limbs, when all digits from k on are in. -/
@[reducible] def hrow (ds : List Nat) (k : Nat) : Array Value := #[.int .u64 (hc ds 0 (inn 0 k) : Nat), .int .u64 (hc ds 1 (inn 1 k) : Nat), .int .u64 (hc ds 2 (inn 2 k) : Nat), .int .u64 (hc ds 3 (inn 3 k) : Nat)]
theorem hc_zero (ds : List Nat) (j k : Nat) (h : ds.length ≤ k) : hc ds j (inn j k) = 0 := by
  have : ∀ c, ds.length ≤ 4 * j + 4 - c → hc ds j c = 0 := by
    intro c
    induction c with
    | zero => intro _; rfl
    | succ c ih => intro hl; rw [hc, ih (by omega), dg_end ds _ (by omega)]
  by_cases h4 : 4 * j + 4 ≤ k
  · have : inn j k = 0 := by unfold inn; omega
    rw [this]; rfl
  · by_cases h0 : k ≤ 4 * j
    · apply this; unfold inn; omega
    · apply this; unfold inn; omega
/-- A digit goes in. -/
theorem hc_step (ds : List Nat) (i : Nat) : hc ds (i / 4) (inn (i / 4) i) = 65536 * hc ds (i / 4) (inn (i / 4) (i + 1)) + dg ds i := by
  have e : inn (i / 4) i = inn (i / 4) (i + 1) + 1 := by unfold inn; omega
  rw [e, hc]
  congr 2
  unfold inn; omega
theorem inn_other (i j : Nat) (h : j ≠ i / 4) : inn j i = inn j (i + 1) := by unfold inn; omega
/-- What the loop of Wide holds in memory. -/
structure DwRows (w : World) (ds : List Nat) (k : Nat) (wr : World) : Prop where
  res : wr.heap[w.heap.size]? = some (.cells (limbs4 0) 73 (0, 0))
  out : wr.heap[w.heap.size + 1]? = some (.cells (hrow ds k) 73 (0, 0))
  below : Below w.heap.size w wr
  size : w.heap.size + 2 ≤ wr.heap.size
theorem DwRows.step {w wr : World} {ds : List Nat} {k : Nat} (h : DwRows w ds (k + 1) wr) (j : Nat) (hj : k / 4 = j) (hj4 : j < 4) :
    DwRows w ds k (wr.setCell ⟨w.heap.size + 1, j, none⟩ (.int .u64 ((65536 * hc ds j (inn j (k + 1)) + dg ds k : Nat) : Int))).drew := by
  subst hj
  have hs := h.size
  refine ⟨(heap_setCell_other _ _ _ _ (by show _ ≠ _; simp only []; omega)).trans h.res, ?_, (h.below.setCell (by simp) _).drew, by simpa using hs⟩
  have e : (hrow ds (k + 1)).setIfInBounds (k / 4) (.int .u64 ((65536 * hc ds (k / 4) (inn (k / 4) (k + 1)) + dg ds k : Nat) : Int)) = hrow ds k := by
    rw [← hc_step]
    have h0 := inn_other k 0; have h1 := inn_other k 1; have h2 := inn_other k 2; have h3 := inn_other k 3
    have hq : k / 4 = 0 ∨ k / 4 = 1 ∨ k / 4 = 2 ∨ k / 4 = 3 := by omega
    simp only [hrow]
    rcases hq with hq | hq | hq | hq 
    · rw [hq]; rw [h1 (by omega), h2 (by omega), h3 (by omega)]; rfl
    · rw [hq]; rw [h0 (by omega), h2 (by omega), h3 (by omega)]; rfl
    · rw [hq]; rw [h0 (by omega), h1 (by omega), h3 (by omega)]; rfl
    · rw [hq]; rw [h0 (by omega), h1 (by omega), h2 (by omega)]; rfl
  rw [← e]
  exact heap_setCell_same _ _ _ _ _ _ h.out
theorem DwRows.skip {w wr : World} {ds : List Nat} {k : Nat} (h : DwRows w ds (k + 1) wr) (hl : ds.length ≤ k) : DwRows w ds k wr := by
  refine ⟨h.res, ?_, h.below, h.size⟩
  have e : hrow ds (k + 1) = hrow ds k := by
    simp only [hrow, hc_zero ds _ (k + 1) (by omega), hc_zero ds _ k hl]
  rw [← e]; exact h.out
end Go.Proofs.Ytbaifchbpnmkpaa
namespace Go.Proofs.Ytbaifchbpnmkpaa
open Go.RowKit
/-- The digits as cells. -/
def dcells (ds : List Nat) : List Value := ds.map fun d => .int .u64 ((d : Nat) : Int)
/-- A slice that the call owns, from block B on: these digits. -/
structure OwnD (W : World) (B g n c : Nat) (ds : List Nat) : Prop where
  own : W.ownsRow B 71 1 (sv g 0 n c) n (dcells ds)
  len : ds.length = n
theorem OwnD.base {W : World} {B g n c : Nat} {ds : List Nat} (h : OwnD W B g n c ds) : B ≤ g ∧ g < W.heap.size := h.own.lt g rfl
theorem OwnD.dg {W : World} {B g n c : Nat} {ds : List Nat} (h : OwnD W B g n c ds) : Dg W g 0 ds := by
  refine ⟨h.base.2, fun i hi => ?_⟩
  have e := h.own.cells (g := g) rfl i (.int .u64 ((Go.Proofs.Ytbaifchbpnmkpaa.dg ds i : Nat) : Int)) (by
    simp only [dcells, List.getElem?_map, Go.Proofs.Ytbaifchbpnmkpaa.dg, List.getD_eq_getElem?_getD, List.getElem?_eq_getElem hi]; rfl)
  have hadd : (⟨g, 0, none⟩ : Addr).add i = ⟨g, 0 + i, none⟩ := by unfold Addr.add; split <;> simp_all
  rw [hadd] at e; exact e
theorem OwnD.keep {W W' : World} {B g n c : Nat} {ds : List Nat} (h : OwnD W B g n c ds) (hb : Below W.heap.size W W') : OwnD W' B g n c ds := by
  refine ⟨h.own.kept (row := none) ⟨hb.os, hb.tape, hb.output, hb.size, fun k hk _ => hb.block k hk⟩ (.inr (by simp [Value.ownBlock])), h.len⟩
theorem OwnD.start (W : World) (B : Nat) (hB : B ≤ W.heap.size) : OwnD (W.alloc (.cells #[] 71)) B W.heap.size 0 0 [] :=
  ⟨World.ownsRow_made W #[] 0 hB (by decide) rfl, rfl⟩
theorem OwnD.start' (W : World) (B : Nat) (hB : B ≤ W.heap.size) (n : Nat) (hn : W.heap.size = n) : OwnD (W.alloc (.cells #[] 71)) B n 0 0 [] := by
  subst hn; exact OwnD.start W B hB
end Go.Proofs.Ytbaifchbpnmkpaa
namespace Go.Proofs.Ytbaifchbpnmkpaa
open Go.RowKit
/-- What a call says that answers digits in a slice of its own. -/
def RetD (w : World) (Q : List Nat → Prop) (e : Ending) (w' : World) : Prop := ∃ g c ds, Q ds ∧ e = .returned (sv g 0 ds.length c) ∧ OwnD w' w.heap.size g ds.length c ds ∧ Below w.heap.size w w'
end Go.Proofs.Ytbaifchbpnmkpaa
namespace Go.Proofs.Ytbaifchbpnmkpaa
open Go.RowKit
theorem Digs.snoc {ds : List Nat} (h : Digs ds) (d : Nat) (hd : d < 65536) : Digs (ds ++ [d]) := by
  intro x hx
  rcases List.mem_append.1 hx with hx | hx
  · exact h x hx
  · simp at hx; subst hx; exact hd
/-- What Add's loop holds before round k. -/
structure AddInv (w : World) (da db : List Nat) (n k cy g c : Nat) (ds : List Nat) (wr : World) : Prop where
  own : OwnD wr w.heap.size g k c ds
  below : Below w.heap.size w wr
  carry : cy ≤ 1
  kn : k ≤ n + 1
  top : k = n + 1 → cy = 0
  sum : val ds + 65536 ^ k * cy = valN da k + valN db k
  digs : Digs ds
theorem AddInv.start (w : World) (da db : List Nat) (n : Nat) : AddInv w da db n 0 0 w.heap.size 0 [] (w.alloc (.cells #[] 71)) :=
  ⟨OwnD.start' w _ (Nat.le_refl _) _ rfl, (Below.refl _ _).alloc (Nat.le_refl _) _, by omega, by omega, fun _ => rfl, by simp [val, valN], fun d hd => by cases hd⟩
theorem AddInv.step {w : World} {da db : List Nat} {n k cy g c : Nat} {ds : List Nat} {wr : World} (h : AddInv w da db n k cy g c ds wr) (ha : Digs da) (hb : Digs db) (hla : da.length ≤ n) (hlb : db.length ≤ n)
    (hgo : k ≤ n) {g' c' d q : Nat} {w' : World} (hd : d = (cy + dg da k + dg db k) % 65536) (hq : q = (cy + dg da k + dg db k) / 65536)
    (ho : OwnD w' w.heap.size g' (k + 1) c' (ds ++ [d])) (hbl : Below w.heap.size wr w') : AddInv w da db n (k + 1) q g' c' (ds ++ [d]) w' := by
  have h1 := digs_at da ha k; have h2 := digs_at db hb k; have h3 := h.carry
  refine ⟨ho, h.below.trans hbl, by omega, by omega, fun e => ?_, ?_, h.digs.snoc d (by omega)⟩
  · have := dg_end da k (by omega); have := dg_end db k (by omega); omega
  · have hs := h.sum
    rw [val_snoc, h.own.len, valN, valN, Nat.pow_succ]
    have e : cy + dg da k + dg db k = d + 65536 * q := by omega
    have e2 : 65536 ^ k * (cy + dg da k + dg db k) = 65536 ^ k * (d + 65536 * q) := by rw [e]
    rw [Nat.mul_add, Nat.mul_add, Nat.mul_add, ← Nat.mul_assoc] at e2
    rw [Nat.mul_comm (dg da k), Nat.mul_comm (dg db k)]
    omega
theorem AddInv.done {w : World} {da db : List Nat} {n k g c : Nat} {ds : List Nat} {wr : World} (h : AddInv w da db n k 0 g c ds wr) (hla : da.length ≤ k) (hlb : db.length ≤ k) :
    RetD w (fun ds => val ds = val da + val db ∧ Digs ds ∧ ds.length ≤ n + 1) (.returned (sv g 0 k c)) wr := by
  have hs := h.sum
  rw [valN_eq da k hla, valN_eq db k hlb] at hs
  have := h.kn
  obtain rfl := h.own.len
  exact ⟨g, c, ds, ⟨by omega, h.digs, by omega⟩, rfl, h.own, h.below⟩
end Go.Proofs.Ytbaifchbpnmkpaa
namespace Go.Proofs.Ytbaifchbpnmkpaa
open Go.RowKit
theorem dg_drop (ds : List Nat) (n i : Nat) : dg (ds.drop n) i = dg ds (n + i) := by
  unfold dg; rw [List.getD_eq_getElem?_getD, List.getElem?_drop, List.getD_eq_getElem?_getD]
theorem valN_drop (ds : List Nat) : ∀ n, val ds = valN ds n + 65536 ^ n * val (ds.drop n)
  | 0 => by simp [valN]
  | n + 1 => by
    rw [valN_drop ds n, valN, Nat.pow_succ]
    by_cases h : n < ds.length
    · rw [List.drop_eq_getElem_cons h]
      have e : dg ds n = ds[n] := by simp [dg, List.getD_eq_getElem?_getD, h]
      rw [e, val, Nat.mul_add, Nat.mul_assoc, Nat.mul_comm ds[n]]; omega
    · rw [List.drop_of_length_le (by omega), List.drop_of_length_le (by omega), dg_end ds n (by omega)]; simp [val]
/-- Digits of a number that is small are just those. -/
theorem valN_small (ds : List Nat) (n : Nat) (h : val ds < 65536 ^ n) : valN ds n = val ds := by
  have e := valN_drop ds n
  rcases Nat.eq_zero_or_pos (val (ds.drop n)) with h0 | h0
  · rw [h0] at e; omega
  · have : 65536 ^ n * 1 ≤ 65536 ^ n * val (ds.drop n) := Nat.mul_le_mul_left _ h0
    omega
/-- What Sub's loop holds before round k. -/
structure SubInv (w : World) (da db : List Nat) (k bo g c : Nat) (ds : List Nat) (wr : World) : Prop where
  own : OwnD wr w.heap.size g k c ds
  below : Below w.heap.size w wr
  borrow : bo ≤ 1
  kn : k ≤ da.length
  sum : val ds + valN db k = valN da k + 65536 ^ k * bo
  digs : Digs ds
theorem SubInv.start (w : World) (da db : List Nat) : SubInv w da db 0 0 w.heap.size 0 [] (w.alloc (.cells #[] 71)) :=
  ⟨OwnD.start' w _ (Nat.le_refl _) _ rfl, (Below.refl _ _).alloc (Nat.le_refl _) _, by omega, by omega, by simp [val, valN], fun d hd => by cases hd⟩
theorem SubInv.step {w : World} {da db : List Nat} {k bo g c : Nat} {ds : List Nat} {wr : World} (h : SubInv w da db k bo g c ds wr) 
    (hgo : k < da.length) {g' c' d q : Nat} {w' : World} (hq : q ≤ 1) (hd : d + dg db k + bo = dg da k + 65536 * q) (hd2 : d < 65536)
    (ho : OwnD w' w.heap.size g' (k + 1) c' (ds ++ [d])) (hbl : Below w.heap.size wr w') : SubInv w da db (k + 1) q g' c' (ds ++ [d]) w' := by
  refine ⟨ho, h.below.trans hbl, hq, by omega, ?_, h.digs.snoc d hd2⟩
  have hs := h.sum
  rw [val_snoc, h.own.len, valN, valN, Nat.pow_succ]
  have e2 : 65536 ^ k * (d + dg db k + bo) = 65536 ^ k * (dg da k + 65536 * q) := by rw [hd]
  rw [Nat.mul_add, Nat.mul_add, Nat.mul_add, ← Nat.mul_assoc] at e2
  rw [Nat.mul_comm (dg da k), Nat.mul_comm (dg db k)]
  omega
theorem SubInv.done {w : World} {da db : List Nat} {bo g c : Nat} {ds : List Nat} {wr : World} (h : SubInv w da db da.length bo g c ds wr) (ha : Digs da) (hle : val db ≤ val da) :
    RetD w (fun ds => val ds = val da - val db ∧ Digs ds ∧ ds.length = da.length) (.returned (sv g 0 da.length c)) wr := by
  have hs := h.sum
  have hl := val_lt da ha
  rw [valN_eq da _ (Nat.le_refl _), valN_small db _ (by omega)] at hs
  have hlt := val_lt ds h.digs
  have e := h.own.len
  rw [e] at hlt
  have hb0 : bo = 0 := by
    rcases Nat.eq_zero_or_pos bo with h0 | h0
    · exact h0
    · have := h.borrow
      obtain rfl : bo = 1 := by omega
      omega
  subst hb0
  exact ⟨g, c, ds, ⟨by omega, h.digs, e⟩, by rw [e], by rw [e]; exact h.own, h.below⟩
end Go.Proofs.Ytbaifchbpnmkpaa
namespace Go.Proofs.Ytbaifchbpnmkpaa
open Go.RowKit
theorem set_dcells (ds : List Nat) (j d : Nat) : (dcells ds).set j (.int .u64 ((d : Nat) : Int)) = dcells (ds.set j d) := by
  simp [dcells, List.map_set]
/-- A digit is written. -/
theorem OwnD.store {W : World} {B g n c : Nat} {ds : List Nat} (h : OwnD W B g n c ds) (j d : Nat) : OwnD (W.setCell ⟨g, j, none⟩ (.int .u64 ((d : Nat) : Int))) B g n c (ds.set j d) :=
  ⟨by rw [← set_dcells]; exact (h.own.stored j _).1, by rw [List.length_set]; exact h.len⟩
theorem OwnD.at_ {W : World} {B g n c : Nat} {ds : List Nat} (h : OwnD W B g n c ds) (j : Nat) (hj : j < n) : W.cell? ⟨g, j, none⟩ = some (.int .u64 ((Go.Proofs.Ytbaifchbpnmkpaa.dg ds j : Nat) : Int)) := by
  have := h.dg.cell j (by rw [h.len]; exact hj)
  rwa [Nat.zero_add] at this
theorem RetD.mk {w W : World} {Q : List Nat → Prop} {g n c : Nat} {ds : List Nat} (hQ : Q ds) (h : OwnD W w.heap.size g n c ds) (hb : Below w.heap.size w W) : RetD w Q (.returned (sv g 0 n c)) W := by
  obtain rfl := h.len
  exact ⟨g, c, ds, hQ, rfl, h, hb⟩
theorem val_noughts (n : Nat) : val (List.replicate n 0) = 0 := by
  induction n with
  | zero => rfl
  | succ n ih => rw [List.replicate_succ, val, ih]
theorem digs_noughts (n : Nat) : Digs (List.replicate n 0) := fun d hd => by rw [(List.mem_replicate.1 hd).2]; decide
theorem digs_set (ds : List Nat) (h : Digs ds) (i d : Nat) (hd : d < 65536) : Digs (ds.set i d) := by
  intro x hx
  rcases List.mem_or_eq_of_mem_set hx with hx | rfl
  · exact h x hx
  · exact hd
theorem val_set : ∀ (ds : List Nat) (i d : Nat), i < ds.length → val (ds.set i d) + 65536 ^ i * dg ds i = val ds + 65536 ^ i * d
  | [], _, _, h => absurd h (by simp)
  | x :: ds, 0, d, _ => by simp [val, dg]; omega
  | x :: ds, i + 1, d, h => by
    have ih := val_set ds i d (by simpa using h)
    have e : dg (x :: ds) (i + 1) = dg ds i := by simp [dg]
    rw [List.set_cons_succ, val, val, e, Nat.pow_succ, Nat.mul_comm (65536 ^ i) 65536, Nat.mul_assoc, Nat.mul_assoc]
    omega
end Go.Proofs.Ytbaifchbpnmkpaa
namespace Go.Proofs.Ytbaifchbpnmkpaa
open Go.RowKit
/-- A row that begins with these digits. -/
def DRow (ds : List Nat) (o : Obj) : Prop := ∃ cur : Array Value, o = .cells cur 71 (0, 0) ∧ ∀ i, i < ds.length → cur[i]? = some (.int .u64 ((dg ds i : Nat) : Int))
theorem OwnD.row {W : World} {B g n c : Nat} {ds : List Nat} (h : OwnD W B g n c ds) : ∃ o, DRow ds o ∧ W.heap[g]? = some o := by
  rcases h.own.2 with ⟨hv, _⟩ | ⟨g', cap, cur, hv, _, hg, _⟩
  · simp at hv
  · simp only [Value.slice.injEq, Option.some.injEq, Addr.mk.injEq, and_true, true_and] at hv
    obtain ⟨rfl, -, -⟩ := hv
    refine ⟨_, ⟨cur, rfl, fun i hi => ?_⟩, hg⟩
    have e := h.dg.cell i hi
    rw [Nat.zero_add, cell_of_row W g i cur 71 (0, 0) hg] at e
    exact e
theorem St.dgo {w W : World} {L : List (Nat × Obj)} {g : Nat} {o : Obj} {ds : List Nat} (S : St w L W) (hm : (g, o) ∈ L) (hr : DRow ds o) (k : Nat) : Dg W g k (ds.drop k) := by
  obtain ⟨cur, rfl, hc⟩ := hr
  have hg := S.get hm
  refine ⟨lt_of_block hg, fun i hi => ?_⟩
  rw [List.length_drop] at hi
  rw [cell_of_row W g (k + i) cur 71 (0, 0) hg, hc (k + i) (by omega), dg_drop]
theorem St.dg {w W : World} {L : List (Nat × Obj)} {g : Nat} {o : Obj} {ds : List Nat} (S : St w L W) (hm : (g, o) ∈ L) (hr : DRow ds o) : Dg W g 0 ds := S.dgo hm hr 0
/-- What a call says that answers digits in a slice of its own; the row is named. -/
def RetS (w : World) (Q : List Nat → Prop) (e : Ending) (w' : World) : Prop := ∃ g c ds o, Hid (Q ds) ∧ e = .returned (sv g 0 ds.length c) ∧ Hid (DRow ds o) ∧ Hid (w'.heap[g]? = some o) ∧ Below w.heap.size w w'
theorem RetD.s {w : World} {Q : List Nat → Prop} {e : Ending} {w' : World} (h : RetD w Q e w') : RetS w Q e w' := by
  obtain ⟨g, c, ds, hQ, he, ho, hb⟩ := h
  obtain ⟨o, hr, hg⟩ := ho.row
  exact ⟨g, c, ds, o, hQ, he, hr, hg, hb⟩
theorem dg_of {W : World} {g : Nat} {o : Obj} {ds : List Nat} (hg : Hid (W.heap[g]? = some o)) (hr : Hid (DRow ds o)) : Dg W g 0 ds :=
  St.dg (w := W) (L := [(g, o)]) ⟨Below.refl _ _, fun p hp => by simp at hp; subst hp; exact hg.out⟩ (List.Mem.head _) hr.out
/-- What Add, Sub and Compare of the program's numbers say, with the results named. -/
theorem add_n (a b : Nat) (ha : a < W256) (hb : b < W256) (s : Nat) (m : Bool) (hs : (a + b) % W256 = s) (hm : decide (W256 ≤ a + b) = m) (W : World) :
    Calls Try.prog 68 #[wv a, wv b] W fun e w' => e = .returned (.tuple #[wv s, .bool m]) ∧ Below W.heap.size W w' := by
  refine (add_c a b ha hb W).mono ?_
  rintro e w' ⟨z, c, -, ⟨hz, hc⟩, rfl, hb⟩
  rw [hz, hc, hs, hm]; exact ⟨rfl, hb⟩
theorem sub_n (a b : Nat) (ha : a < W256) (hb : b < W256) (s : Nat) (m : Bool) (hs : (a + W256 - b) % W256 = s) (hm : decide (a < b) = m) (W : World) :
    Calls Try.prog 75 #[wv a, wv b] W fun e w' => e = .returned (.tuple #[wv s, .bool m]) ∧ Below W.heap.size W w' := by
  refine (sub_c a b ha hb W).mono ?_
  rintro e w' ⟨z, c, -, ⟨hz, hc⟩, rfl, hb⟩
  rw [hz, hc, hs, hm]; exact ⟨rfl, hb⟩
end Go.Proofs.Ytbaifchbpnmkpaa
namespace Go.Proofs.Ytbaifchbpnmkpaa
open Go.RowKit
/-- The two primes. -/
def PRM : Bool → Nat
  | true => 115792089237316195423570985008687907853269984665640564039457584007908834671663
  | false => 115792089237316195423570985008687907852837564279074904382605163141518161494337
/-- What is missing to 2^256. -/
def GAP (p : Bool) : Nat := W256 - PRM p
theorem prm_lt (p : Bool) : PRM p < W256 := by cases p <;> decide +kernel
theorem gap_lt (p : Bool) : GAP p < W256 := by cases p <;> decide +kernel
theorem prm_gap (p : Bool) : PRM p + GAP p = W256 := by have := prm_lt p; unfold GAP; omega
theorem gap_small (p : Bool) : GAP p < 1361129467683753853853498429727072845824 := by cases p <;> decide +kernel
theorem prm_big (p : Bool) : 115792089237316195423570985008687907852837564279074904382605163141518161494336 < PRM p := by cases p <;> decide +kernel
theorem w256_two (p : Bool) : W256 < 2 * PRM p := by cases p <;> decide +kernel
/-- A ring as it lies in memory. -/
@[reducible] def rcells (p : Bool) : Array Value := #[.int .u64 (limb (PRM p) 0 : Nat), .int .u64 (limb (PRM p) 1 : Nat), .int .u64 (limb (PRM p) 2 : Nat), .int .u64 (limb (PRM p) 3 : Nat), .int .u64 (limb (GAP p) 0 : Nat), .int .u64 (limb (GAP p) 1 : Nat), .int .u64 (limb (GAP p) 2 : Nat), .int .u64 (limb (GAP p) 3 : Nat), .bool p]
@[reducible] def rrow (p : Bool) : Obj := .cells (rcells p) 107
@[reducible] def rptr (g : Nat) : Value := .pointer (some ⟨g, 0, none⟩)
theorem ring_prime {W : World} {g : Nat} {p : Bool} (h : W.heap[g]? = some (rrow p)) : W.rangeAt g 0 (limbs4 (PRM p)).toList := part_of_row h _ rfl
theorem ring_gap {W : World} {g : Nat} {p : Bool} (h : W.heap[g]? = some (rrow p)) : W.rangeAt g 4 (limbs4 (GAP p)).toList := part_of_row h _ rfl
set_option maxRecDepth 100000 in
set_option maxHeartbeats 4000000 in
theorem in_c (g a : Nat) (p : Bool) (ha : a < W256) (w : World) (hr : w.heap[g]? = some (rrow p)) :
    Calls Try.prog 54 #[rptr g, wv a] w (RetB w (decide (a < PRM p))) := by
  have CL := Lib.hid (fun W => less_c a (PRM p) ha (prm_lt p) W)
  have R0 := Lib.hid hr
  clear hr
  go_enter Try.func54, Try.ntmps54
  have S0 := ((St.nil w).cons R0.out).alloc (wrow a) _ rfl
  obtain ⟨L0, hL0⟩ : ∃ L, L = [(w.heap.size, wrow a), (g, rrow p)] := ⟨_, rfl⟩
  rw [← hL0] at S0
  have ma : (w.heap.size, wrow a) ∈ L0 := by rw [hL0]; exact List.Mem.head _
  have mr : (g, rrow p) ∈ L0 := by rw [hL0]; exact List.Mem.tail _ (List.Mem.head _)
  clear hL0
  go_wp2_with fail
  obtain ⟨I, hI0⟩ : ∃ I : Array Value → (Nat → Bool) → Act → World → Prop, I = (fun T0 L act W => ∃ vq0 vq1 vq2 vq3 vq4 vq5 vq6, act = ⟨sets T0 [(5, vq0), (6, vq1), (7, vq2), (8, vq3), (9, vq4), (10, vq5), (4, vq6)], []⟩ ∧ St w L0 W ∧ (L 0 = true → vq0 = wv (a)) ∧ (L 1 = true → vq1 = rptr g) ∧ (L 2 = true → vq2 = rptr g) ∧ (L 3 = true → vq3 = .pointer (some ⟨g, 0, none⟩)) ∧ (L 4 = true → vq4 = wv (PRM p)) ∧ (L 5 = true → vq5 = .bool (decide (a < PRM p))) ∧ (L 6 = true → vq6 = .bool (decide (a < PRM p)))) := ⟨_, rfl⟩
  have HI := Lib.hid hI0; clear hI0
  refine wp_region_frame (by kernel_rfl) (by kernel_rfl) I (fun T0 hT0 => ⟨?start, ?step, ?fin⟩)
  case start =>
    rw [HI.out]
    exact ⟨T0.getD 5 undef, T0.getD 6 undef, T0.getD 7 undef, T0.getD 8 undef, T0.getD 9 undef, T0.getD 10 undef, T0.getD 4 undef, by (refine Eq.trans ?_ (congrArg (fun T => Act.mk T []) (sets_self [5, 6, 7, 8, 9, 10, 4] T0).symm)); rw [hT0], S0.drew, nofun, nofun, nofun, nofun, nofun, nofun, nofun⟩
  case step =>
    refine ⟨?_, ?_, ?_, ?_, ?_, ?_, ?_, trivial⟩
    · intro L act W hI hno hdep
      rw [HI.out] at hI
      obtain ⟨vq0, vq1, vq2, vq3, vq4, vq5, vq6, hact, hS, hq0, hq1, hq2, hq3, hq4, hq5, hq6⟩ := hI
      subst hact
      rw [hT0]; simp only [sets, List.setIfInBounds_toArray, List.set_cons_zero, List.set_cons_succ]
      with_reducible refine wp_wide (Operand.tmp 3) rfl w.heap.size ?_ (a) (hS.get ma) ?_
      · rfl
      rw [HI.out]
      exact ⟨wv (a), vq1, vq2, vq3, vq4, vq5, vq6, by simp only [sets, Act.put, List.setIfInBounds_toArray, List.set_cons_zero, List.set_cons_succ], hS, fun _ => rfl, keepI hq1 rfl, keepI hq2 rfl, keepI hq3 rfl, keepI hq4 rfl, keepI hq5 rfl, keepI hq6 rfl⟩
    · intro L act W hI hno hdep
      rw [HI.out] at hI
      obtain ⟨vq0, vq1, vq2, vq3, vq4, vq5, vq6, hact, hS, hq0, hq1, hq2, hq3, hq4, hq5, hq6⟩ := hI
      subst hact
      rw [hT0]; simp only [sets, List.setIfInBounds_toArray, List.set_cons_zero, List.set_cons_succ]
      go_simp
      rw [HI.out]
      exact ⟨vq0, rptr g, vq2, vq3, vq4, vq5, vq6, by simp only [sets, List.setIfInBounds_toArray, List.set_cons_zero, List.set_cons_succ], hS, keepI hq0 rfl, fun _ => rfl, keepI hq2 rfl, keepI hq3 rfl, keepI hq4 rfl, keepI hq5 rfl, keepI hq6 rfl⟩
    · intro L act W hI hno hdep
      rw [HI.out] at hI
      obtain ⟨vq0, vq1, vq2, vq3, vq4, vq5, vq6, hact, hS, hq0, hq1, hq2, hq3, hq4, hq5, hq6⟩ := hI
      subst hact
      obtain rfl := hq1 (hdep ⟨1, .data⟩ (by simp) rfl)
      rw [hT0]; simp only [sets, List.setIfInBounds_toArray, List.set_cons_zero, List.set_cons_succ]
      go_simp
      rw [HI.out]
      exact ⟨vq0, rptr g, rptr g, vq3, vq4, vq5, vq6, by simp only [sets, List.setIfInBounds_toArray, List.set_cons_zero, List.set_cons_succ], hS, keepI hq0 rfl, fun _ => rfl, fun _ => rfl, keepI hq3 rfl, keepI hq4 rfl, keepI hq5 rfl, keepI hq6 rfl⟩
    · intro L act W hI hno hdep
      rw [HI.out] at hI
      obtain ⟨vq0, vq1, vq2, vq3, vq4, vq5, vq6, hact, hS, hq0, hq1, hq2, hq3, hq4, hq5, hq6⟩ := hI
      subst hact
      obtain rfl := hq2 (hdep ⟨2, .data⟩ (by simp) rfl)
      rw [hT0]; simp only [sets, List.setIfInBounds_toArray, List.set_cons_zero, List.set_cons_succ]
      go_simp
      rw [HI.out]
      exact ⟨vq0, vq1, rptr g, .pointer (some ⟨g, 0, none⟩), vq4, vq5, vq6, by simp only [sets, List.setIfInBounds_toArray, List.set_cons_zero, List.set_cons_succ], hS, keepI hq0 rfl, keepI hq1 rfl, fun _ => rfl, fun _ => rfl, keepI hq4 rfl, keepI hq5 rfl, keepI hq6 rfl⟩
    · intro L act W hI hno hdep
      rw [HI.out] at hI
      obtain ⟨vq0, vq1, vq2, vq3, vq4, vq5, vq6, hact, hS, hq0, hq1, hq2, hq3, hq4, hq5, hq6⟩ := hI
      subst hact
      obtain rfl := hq3 (hdep ⟨3, .data⟩ (by simp) rfl)
      rw [hT0]; simp only [sets, List.setIfInBounds_toArray, List.set_cons_zero, List.set_cons_succ]
      with_reducible refine wp_part (Operand.tmp 8) rfl g 0 ?_ (PRM p) (ring_prime (hS.get mr)) ?_
      · rfl
      rw [HI.out]
      exact ⟨vq0, vq1, vq2, .pointer (some ⟨g, 0, none⟩), wv (PRM p), vq5, vq6, by simp only [sets, Act.put, List.setIfInBounds_toArray, List.set_cons_zero, List.set_cons_succ], hS, keepI hq0 rfl, keepI hq1 rfl, keepI hq2 rfl, fun _ => rfl, fun _ => rfl, keepI hq5 rfl, keepI hq6 rfl⟩
    · intro L act W hI hno hdep
      rw [HI.out] at hI
      obtain ⟨vq0, vq1, vq2, vq3, vq4, vq5, vq6, hact, hS, hq0, hq1, hq2, hq3, hq4, hq5, hq6⟩ := hI
      subst hact
      obtain rfl := hq0 (hdep ⟨0, .data⟩ (by simp) rfl)
      obtain rfl := hq4 (hdep ⟨4, .data⟩ (by simp) rfl)
      rw [hT0]; simp only [sets, List.setIfInBounds_toArray, List.set_cons_zero, List.set_cons_succ]
      go_simp
      refine (CL.out _).mono ?_
      rintro e W2 ⟨rfl, hb⟩
      rw [HI.out]
      exact ⟨wv (a), vq1, vq2, vq3, wv (PRM p), .bool (decide (a < PRM p)), vq6, by simp only [sets, List.setIfInBounds_toArray, List.set_cons_zero, List.set_cons_succ], (hS.keep hb), fun _ => rfl, keepI hq1 rfl, keepI hq2 rfl, keepI hq3 rfl, fun _ => rfl, fun _ => rfl, keepI hq6 rfl⟩
    · intro L act W hI hno hdep
      rw [HI.out] at hI
      obtain ⟨vq0, vq1, vq2, vq3, vq4, vq5, vq6, hact, hS, hq0, hq1, hq2, hq3, hq4, hq5, hq6⟩ := hI
      subst hact
      obtain rfl := hq5 (hdep ⟨5, .data⟩ (by simp) rfl)
      rw [hT0]; simp only [sets, List.setIfInBounds_toArray, List.set_cons_zero, List.set_cons_succ]
      go_simp
      rw [HI.out]
      exact ⟨vq0, vq1, vq2, vq3, vq4, .bool (decide (a < PRM p)), .bool (decide (a < PRM p)), by simp only [sets, List.setIfInBounds_toArray, List.set_cons_zero, List.set_cons_succ], hS, keepI hq0 rfl, keepI hq1 rfl, keepI hq2 rfl, keepI hq3 rfl, keepI hq4 rfl, fun _ => rfl, fun _ => rfl⟩
  case fin =>
    intro L act W hall hI
    rw [HI.out] at hI
    obtain ⟨vq0, vq1, vq2, vq3, vq4, vq5, vq6, hact, hS, hq0, hq1, hq2, hq3, hq4, hq5, hq6⟩ := hI
    subst hact
    obtain rfl := hq0 (hall 0 (by decide))
    obtain rfl := hq1 (hall 1 (by decide))
    obtain rfl := hq2 (hall 2 (by decide))
    obtain rfl := hq3 (hall 3 (by decide))
    obtain rfl := hq4 (hall 4 (by decide))
    obtain rfl := hq5 (hall 5 (by decide))
    obtain rfl := hq6 (hall 6 (by decide))
    clear hq0 hq1 hq2 hq3 hq4 hq5 hq6 hall
    rw [hT0]; simp only [sets, List.setIfInBounds_toArray, List.set_cons_zero, List.set_cons_succ]
    clear hT0 HI
    go_wp2_with fail
    go_ret
    exact ⟨rfl, hS.below⟩
theorem one_more (p : Bool) (a : Nat) : (a + GAP p) % PRM p = (a + W256) % PRM p := by
  rw [← prm_gap p, show a + (PRM p + GAP p) = a + GAP p + PRM p by omega, Nat.add_mod_right]
set_option maxRecDepth 100000 in
set_option maxHeartbeats 4000000 in
/-- A number of 256 bits and one more, when the next call is known. -/
theorem one_step (g a : Nat) (p : Bool) (ha : a < W256) (s : Nat) (m : Bool) (hs : (a + GAP p) % W256 = s) (hm : decide (W256 ≤ a + GAP p) = m) (z : Nat) (hz : z < W256) (w : World) (hr : w.heap[g]? = some (rrow p))
    (ih : ∀ W, W.heap[g]? = some (rrow p) → Calls Try.prog 72 #[rptr g, wv s, .bool m] W fun e w' => e = .returned (wv z) ∧ Below W.heap.size W w') :
    Calls Try.prog 72 #[rptr g, wv a, .bool true] w fun e w' => e = .returned (wv z) ∧ Below w.heap.size w w' := by
  have CA := Lib.hid (fun W => add_n a (GAP p) ha (gap_lt p) s m hs hm W)
  have CI := Lib.hid ih
  have R0 := Lib.hid hr
  have HZ := Lib.hid hz
  clear hr ih hs hm ha hz
  go_enter Try.func72, Try.ntmps72
  have S0 := ((((St.nil w).cons R0.out)).alloc (wrow (a)) (w.heap.size) rfl).alloc (wrow (0)) (w.heap.size + 1) (by simp)
  obtain ⟨L0, hL0⟩ : ∃ L, L = [(w.heap.size + 1, wrow (0)), (w.heap.size, wrow (a)), (g, rrow p)] := ⟨_, rfl⟩
  rw [← hL0] at S0
  have mv0 : (w.heap.size, wrow (a)) ∈ L0 := by rw [hL0]; exact (List.Mem.tail _ (List.Mem.head _))
  have mv1 : (w.heap.size + 1, wrow (0)) ∈ L0 := by rw [hL0]; exact (List.Mem.head _)
  have mr : (g, rrow p) ∈ L0 := by rw [hL0]; exact (List.Mem.tail _ (List.Mem.tail _ (List.Mem.head _)))
  have hlow : Hid (∀ q, q ∈ L0 → q.1 < w.heap.size + 2) := by
    rw [hL0]; intro q hq; have hg0 := lt_of_block R0.out; simp at hq; rcases hq with rfl | rfl | rfl <;> simp <;> omega
  clear hL0
  have hbase : w.heap.size + 2 ≤ ((w.alloc (wrow a)).alloc (wrow 0)).heap.size := by simp
  go_wp2_with fail
  obtain ⟨I, hI0⟩ : ∃ I : Array Value → (Nat → Bool) → Act → World → Prop, I = (fun T0 L act W => ∃ vq0 vq1 vq2 vq3 vq4 vq5 vq6 vq7 vq8 vq9 vq11, act = ⟨sets T0 [(11, vq0), (12, vq1), (13, vq2), (14, vq3), (15, vq4), (16, vq5), (10, vq6), (17, vq7), (18, vq8), (7, vq9), (8, vq11)], []⟩ ∧ St w L0 W ∧ w.heap.size + 2 ≤ W.heap.size ∧ (L 0 = true → vq0 = wv (a)) ∧ (L 1 = true → vq1 = rptr g) ∧ (L 2 = true → vq2 = rptr g) ∧ (L 3 = true → vq3 = .pointer (some ⟨g, 4, none⟩)) ∧ (L 4 = true → vq4 = wv (GAP p)) ∧ (L 5 = true → vq5 = .tuple #[wv s, .bool m]) ∧ (L 6 = true → vq6 = .tuple #[wv s, .bool m]) ∧ (L 7 = true → vq7 = wv s) ∧ (L 8 = true → vq8 = .bool m) ∧ (L 11 = true → vq11 = .bool m) ∧ (L 9 = true → Made W 73 (w.heap.size + 2) vq9 (L 10) (limbs4 0) (limbs4 (s))) ∧ (L 10 = true → L 9 = true)) := ⟨_, rfl⟩
  have HI := Lib.hid hI0; clear hI0
  refine wp_region_frame (by kernel_rfl) (by kernel_rfl) I (fun T0 hT0 => ⟨?start, ?step, ?fin⟩)
  case start =>
    rw [HI.out]
    exact ⟨T0.getD 11 undef, T0.getD 12 undef, T0.getD 13 undef, T0.getD 14 undef, T0.getD 15 undef, T0.getD 16 undef, T0.getD 10 undef, T0.getD 17 undef, T0.getD 18 undef, T0.getD 7 undef, T0.getD 8 undef, by (refine Eq.trans ?_ (congrArg (fun T => Act.mk T []) (sets_self [11, 12, 13, 14, 15, 16, 10, 17, 18, 7, 8] T0).symm)); rw [hT0], S0.drew, hbase, nofun, nofun, nofun, nofun, nofun, nofun, nofun, nofun, nofun, nofun, nofun, nofun⟩
  case step =>
    refine ⟨?_, ?_, ?_, ?_, ?_, ?_, ?_, ?_, ?_, ?_, ?_, ?_, trivial⟩
    · intro L act W hI hno hdep
      rw [HI.out] at hI
      obtain ⟨vq0, vq1, vq2, vq3, vq4, vq5, vq6, vq7, vq8, vq9, vq11, hact, hS, hsz, hq0, hq1, hq2, hq3, hq4, hq5, hq6, hq7, hq8, hq11, mq9, dq10_9⟩ := hI
      subst hact
      rw [hT0]; simp only [sets, List.setIfInBounds_toArray, List.set_cons_zero, List.set_cons_succ]
      with_reducible refine wp_wide (Operand.tmp 4) rfl w.heap.size ?_ (a) (hS.get mv0) ?_
      · rfl
      rw [HI.out]
      exact ⟨wv (a), vq1, vq2, vq3, vq4, vq5, vq6, vq7, vq8, vq9, vq11, by simp only [sets, Act.put, List.setIfInBounds_toArray, List.set_cons_zero, List.set_cons_succ], hS, hsz, fun _ => rfl, keepI hq1 rfl, keepI hq2 rfl, keepI hq3 rfl, keepI hq4 rfl, keepI hq5 rfl, keepI hq6 rfl, keepI hq7 rfl, keepI hq8 rfl, keepI hq11 rfl, fun h => by rw [also_of (by decide)] at h ⊢; exact mq9 h, keepD dq10_9 rfl⟩
    · intro L act W hI hno hdep
      rw [HI.out] at hI
      obtain ⟨vq0, vq1, vq2, vq3, vq4, vq5, vq6, vq7, vq8, vq9, vq11, hact, hS, hsz, hq0, hq1, hq2, hq3, hq4, hq5, hq6, hq7, hq8, hq11, mq9, dq10_9⟩ := hI
      subst hact
      rw [hT0]; simp only [sets, List.setIfInBounds_toArray, List.set_cons_zero, List.set_cons_succ]
      go_simp
      rw [HI.out]
      exact ⟨vq0, rptr g, vq2, vq3, vq4, vq5, vq6, vq7, vq8, vq9, vq11, by simp only [sets, List.setIfInBounds_toArray, List.set_cons_zero, List.set_cons_succ], hS, hsz, keepI hq0 rfl, fun _ => rfl, keepI hq2 rfl, keepI hq3 rfl, keepI hq4 rfl, keepI hq5 rfl, keepI hq6 rfl, keepI hq7 rfl, keepI hq8 rfl, keepI hq11 rfl, fun h => by rw [also_of (by decide)] at h ⊢; exact mq9 h, keepD dq10_9 rfl⟩
    · intro L act W hI hno hdep
      rw [HI.out] at hI
      obtain ⟨vq0, vq1, vq2, vq3, vq4, vq5, vq6, vq7, vq8, vq9, vq11, hact, hS, hsz, hq0, hq1, hq2, hq3, hq4, hq5, hq6, hq7, hq8, hq11, mq9, dq10_9⟩ := hI
      subst hact
      obtain rfl := hq1 (hdep ⟨1, .data⟩ (by simp) rfl)
      rw [hT0]; simp only [sets, List.setIfInBounds_toArray, List.set_cons_zero, List.set_cons_succ]
      go_simp
      rw [HI.out]
      exact ⟨vq0, rptr g, rptr g, vq3, vq4, vq5, vq6, vq7, vq8, vq9, vq11, by simp only [sets, List.setIfInBounds_toArray, List.set_cons_zero, List.set_cons_succ], hS, hsz, keepI hq0 rfl, fun _ => rfl, fun _ => rfl, keepI hq3 rfl, keepI hq4 rfl, keepI hq5 rfl, keepI hq6 rfl, keepI hq7 rfl, keepI hq8 rfl, keepI hq11 rfl, fun h => by rw [also_of (by decide)] at h ⊢; exact mq9 h, keepD dq10_9 rfl⟩
    · intro L act W hI hno hdep
      rw [HI.out] at hI
      obtain ⟨vq0, vq1, vq2, vq3, vq4, vq5, vq6, vq7, vq8, vq9, vq11, hact, hS, hsz, hq0, hq1, hq2, hq3, hq4, hq5, hq6, hq7, hq8, hq11, mq9, dq10_9⟩ := hI
      subst hact
      obtain rfl := hq2 (hdep ⟨2, .data⟩ (by simp) rfl)
      rw [hT0]; simp only [sets, List.setIfInBounds_toArray, List.set_cons_zero, List.set_cons_succ]
      go_simp
      rw [HI.out]
      exact ⟨vq0, vq1, rptr g, .pointer (some ⟨g, 4, none⟩), vq4, vq5, vq6, vq7, vq8, vq9, vq11, by simp only [sets, List.setIfInBounds_toArray, List.set_cons_zero, List.set_cons_succ], hS, hsz, keepI hq0 rfl, keepI hq1 rfl, fun _ => rfl, fun _ => rfl, keepI hq4 rfl, keepI hq5 rfl, keepI hq6 rfl, keepI hq7 rfl, keepI hq8 rfl, keepI hq11 rfl, fun h => by rw [also_of (by decide)] at h ⊢; exact mq9 h, keepD dq10_9 rfl⟩
    · intro L act W hI hno hdep
      rw [HI.out] at hI
      obtain ⟨vq0, vq1, vq2, vq3, vq4, vq5, vq6, vq7, vq8, vq9, vq11, hact, hS, hsz, hq0, hq1, hq2, hq3, hq4, hq5, hq6, hq7, hq8, hq11, mq9, dq10_9⟩ := hI
      subst hact
      obtain rfl := hq3 (hdep ⟨3, .data⟩ (by simp) rfl)
      rw [hT0]; simp only [sets, List.setIfInBounds_toArray, List.set_cons_zero, List.set_cons_succ]
      with_reducible refine wp_part (Operand.tmp 14) rfl g 4 ?_ (GAP p) (ring_gap (hS.get mr)) ?_
      · rfl
      rw [HI.out]
      exact ⟨vq0, vq1, vq2, .pointer (some ⟨g, 4, none⟩), wv (GAP p), vq5, vq6, vq7, vq8, vq9, vq11, by simp only [sets, Act.put, List.setIfInBounds_toArray, List.set_cons_zero, List.set_cons_succ], hS, hsz, keepI hq0 rfl, keepI hq1 rfl, keepI hq2 rfl, fun _ => rfl, fun _ => rfl, keepI hq5 rfl, keepI hq6 rfl, keepI hq7 rfl, keepI hq8 rfl, keepI hq11 rfl, fun h => by rw [also_of (by decide)] at h ⊢; exact mq9 h, keepD dq10_9 rfl⟩
    · intro L act W hI hno hdep
      rw [HI.out] at hI
      obtain ⟨vq0, vq1, vq2, vq3, vq4, vq5, vq6, vq7, vq8, vq9, vq11, hact, hS, hsz, hq0, hq1, hq2, hq3, hq4, hq5, hq6, hq7, hq8, hq11, mq9, dq10_9⟩ := hI
      subst hact
      obtain rfl := hq0 (hdep ⟨0, .data⟩ (by simp) rfl)
      obtain rfl := hq4 (hdep ⟨4, .data⟩ (by simp) rfl)
      rw [hT0]; simp only [sets, List.setIfInBounds_toArray, List.set_cons_zero, List.set_cons_succ]
      go_simp
      refine (CA.out _).mono ?_
      rintro e W2 ⟨rfl, hb⟩
      have hsz2 := Nat.le_trans hsz hb.size
      rw [HI.out]
      exact ⟨wv (a), vq1, vq2, vq3, wv (GAP p), .tuple #[wv s, .bool m], vq6, vq7, vq8, vq9, vq11, by simp only [sets, List.setIfInBounds_toArray, List.set_cons_zero, List.set_cons_succ], (hS.keep hb), hsz2, fun _ => rfl, keepI hq1 rfl, keepI hq2 rfl, keepI hq3 rfl, fun _ => rfl, fun _ => rfl, keepI hq6 rfl, keepI hq7 rfl, keepI hq8 rfl, keepI hq11 rfl, fun h => by rw [also_of (by decide)] at h ⊢; exact (fun h => (mq9 h).keep hb) h, keepD dq10_9 rfl⟩
    · intro L act W hI hno hdep
      rw [HI.out] at hI
      obtain ⟨vq0, vq1, vq2, vq3, vq4, vq5, vq6, vq7, vq8, vq9, vq11, hact, hS, hsz, hq0, hq1, hq2, hq3, hq4, hq5, hq6, hq7, hq8, hq11, mq9, dq10_9⟩ := hI
      subst hact
      obtain rfl := hq5 (hdep ⟨5, .data⟩ (by simp) rfl)
      rw [hT0]; simp only [sets, List.setIfInBounds_toArray, List.set_cons_zero, List.set_cons_succ]
      go_simp
      rw [HI.out]
      exact ⟨vq0, vq1, vq2, vq3, vq4, .tuple #[wv s, .bool m], .tuple #[wv s, .bool m], vq7, vq8, vq9, vq11, by simp only [sets, List.setIfInBounds_toArray, List.set_cons_zero, List.set_cons_succ], hS, hsz, keepI hq0 rfl, keepI hq1 rfl, keepI hq2 rfl, keepI hq3 rfl, keepI hq4 rfl, fun _ => rfl, fun _ => rfl, keepI hq7 rfl, keepI hq8 rfl, keepI hq11 rfl, fun h => by rw [also_of (by decide)] at h ⊢; exact mq9 h, keepD dq10_9 rfl⟩
    · intro L act W hI hno hdep
      rw [HI.out] at hI
      obtain ⟨vq0, vq1, vq2, vq3, vq4, vq5, vq6, vq7, vq8, vq9, vq11, hact, hS, hsz, hq0, hq1, hq2, hq3, hq4, hq5, hq6, hq7, hq8, hq11, mq9, dq10_9⟩ := hI
      subst hact
      obtain rfl := hq6 (hdep ⟨6, .data⟩ (by simp) rfl)
      rw [hT0]; simp only [sets, List.setIfInBounds_toArray, List.set_cons_zero, List.set_cons_succ]
      go_simp
      rw [HI.out]
      exact ⟨vq0, vq1, vq2, vq3, vq4, vq5, .tuple #[wv s, .bool m], wv s, vq8, vq9, vq11, by simp only [sets, List.setIfInBounds_toArray, List.set_cons_zero, List.set_cons_succ], hS, hsz, keepI hq0 rfl, keepI hq1 rfl, keepI hq2 rfl, keepI hq3 rfl, keepI hq4 rfl, keepI hq5 rfl, fun _ => rfl, fun _ => rfl, keepI hq8 rfl, keepI hq11 rfl, fun h => by rw [also_of (by decide)] at h ⊢; exact mq9 h, keepD dq10_9 rfl⟩
    · intro L act W hI hno hdep
      rw [HI.out] at hI
      obtain ⟨vq0, vq1, vq2, vq3, vq4, vq5, vq6, vq7, vq8, vq9, vq11, hact, hS, hsz, hq0, hq1, hq2, hq3, hq4, hq5, hq6, hq7, hq8, hq11, mq9, dq10_9⟩ := hI
      subst hact
      obtain rfl := hq6 (hdep ⟨6, .data⟩ (by simp) rfl)
      rw [hT0]; simp only [sets, List.setIfInBounds_toArray, List.set_cons_zero, List.set_cons_succ]
      go_simp
      rw [HI.out]
      exact ⟨vq0, vq1, vq2, vq3, vq4, vq5, .tuple #[wv s, .bool m], vq7, .bool m, vq9, vq11, by simp only [sets, List.setIfInBounds_toArray, List.set_cons_zero, List.set_cons_succ], hS, hsz, keepI hq0 rfl, keepI hq1 rfl, keepI hq2 rfl, keepI hq3 rfl, keepI hq4 rfl, keepI hq5 rfl, fun _ => rfl, keepI hq7 rfl, fun _ => rfl, keepI hq11 rfl, fun h => by rw [also_of (by decide)] at h ⊢; exact mq9 h, keepD dq10_9 rfl⟩
    · intro L act W hI hno hdep
      rw [HI.out] at hI
      obtain ⟨vq0, vq1, vq2, vq3, vq4, vq5, vq6, vq7, vq8, vq9, vq11, hact, hS, hsz, hq0, hq1, hq2, hq3, hq4, hq5, hq6, hq7, hq8, hq11, mq9, dq10_9⟩ := hI
      subst hact
      have hsF := noF dq10_9 hno
      rw [hT0]; simp only [sets, List.setIfInBounds_toArray, List.set_cons_zero, List.set_cons_succ]
      go_simp
      rw [HI.out]
      exact ⟨vq0, vq1, vq2, vq3, vq4, vq5, vq6, vq7, vq8, (.pointer (some ⟨W.heap.size, 0, none⟩)), vq11, by simp only [sets, List.setIfInBounds_toArray, List.set_cons_zero, List.set_cons_succ], (hS.alloc0 _), (by simp at *; omega), keepI hq0 rfl, keepI hq1 rfl, keepI hq2 rfl, keepI hq3 rfl, keepI hq4 rfl, keepI hq5 rfl, keepI hq6 rfl, keepI hq7 rfl, keepI hq8 rfl, keepI hq11 rfl, fun _ => Made.new' W _ _ (by omega) _ _ (by simp [also, hsF]), keepD dq10_9 rfl⟩
    · intro L act W hI hno hdep
      rw [HI.out] at hI
      obtain ⟨vq0, vq1, vq2, vq3, vq4, vq5, vq6, vq7, vq8, vq9, vq11, hact, hS, hsz, hq0, hq1, hq2, hq3, hq4, hq5, hq6, hq7, hq8, hq11, mq9, dq10_9⟩ := hI
      subst hact
      obtain rfl := hq7 (hdep ⟨7, .data⟩ (by simp) rfl)
      rw [hT0]; simp only [sets, List.setIfInBounds_toArray, List.set_cons_zero, List.set_cons_succ]
      with_reducible refine wp_put_made (Operand.tmp 7) (Operand.tmp 17) rfl vq9 ?_ (s) ?_ _ _ _ (mq9 (hdep ⟨9, .data⟩ (by simp) rfl)) hno ?_
      · rfl
      · rfl
      intro gx hgx hgn hg
      subst hgx
      rw [HI.out]
      exact ⟨vq0, vq1, vq2, vq3, vq4, vq5, vq6, wv s, vq8, (.pointer (some ⟨gx, 0, none⟩)), vq11, by simp only [sets, Act.put, List.setIfInBounds_toArray, List.set_cons_zero, List.set_cons_succ], (hS.setRow (by omega) (fun p hp => Nat.ne_of_lt (Nat.lt_of_lt_of_le (hlow.out p hp) hgn)) _), (by simpa [World.setRow] using hsz), keepI hq0 rfl, keepI hq1 rfl, keepI hq2 rfl, keepI hq3 rfl, keepI hq4 rfl, keepI hq5 rfl, keepI hq6 rfl, fun _ => rfl, keepI hq8 rfl, keepI hq11 rfl, fun _ => by rw [also_self]; exact Made.stored hg hgn _ _, fun _ => alsoD (hdep ⟨9, .data⟩ (by simp) rfl)⟩
    · intro L act W hI hno hdep
      rw [HI.out] at hI
      obtain ⟨vq0, vq1, vq2, vq3, vq4, vq5, vq6, vq7, vq8, vq9, vq11, hact, hS, hsz, hq0, hq1, hq2, hq3, hq4, hq5, hq6, hq7, hq8, hq11, mq9, dq10_9⟩ := hI
      subst hact
      obtain rfl := hq8 (hdep ⟨8, .data⟩ (by simp) rfl)
      rw [hT0]; simp only [sets, List.setIfInBounds_toArray, List.set_cons_zero, List.set_cons_succ]
      go_simp
      rw [HI.out]
      exact ⟨vq0, vq1, vq2, vq3, vq4, vq5, vq6, vq7, .bool m, vq9, .bool m, by simp only [sets, List.setIfInBounds_toArray, List.set_cons_zero, List.set_cons_succ], hS, hsz, keepI hq0 rfl, keepI hq1 rfl, keepI hq2 rfl, keepI hq3 rfl, keepI hq4 rfl, keepI hq5 rfl, keepI hq6 rfl, keepI hq7 rfl, fun _ => rfl, fun _ => rfl, fun h => by rw [also_of (by decide)] at h ⊢; exact mq9 h, keepD dq10_9 rfl⟩
  case fin =>
    intro L act W hall hI
    rw [HI.out] at hI
    obtain ⟨vq0, vq1, vq2, vq3, vq4, vq5, vq6, vq7, vq8, vq9, vq11, hact, hS, hsz, hq0, hq1, hq2, hq3, hq4, hq5, hq6, hq7, hq8, hq11, mq9, dq10_9⟩ := hI
    subst hact
    obtain rfl := hq0 (hall 0 (by decide))
    obtain rfl := hq1 (hall 1 (by decide))
    obtain rfl := hq2 (hall 2 (by decide))
    obtain rfl := hq3 (hall 3 (by decide))
    obtain rfl := hq4 (hall 4 (by decide))
    obtain rfl := hq5 (hall 5 (by decide))
    obtain rfl := hq6 (hall 6 (by decide))
    obtain rfl := hq7 (hall 7 (by decide))
    obtain rfl := hq8 (hall 8 (by decide))
    obtain rfl := hq11 (hall 11 (by decide))
    obtain ⟨g7, rfl, g7n, g7r⟩ := mq9 (hall 9 (by decide))
    rw [hall 10 (by decide)] at g7r
    have g7h := Lib.hid (show W.heap[g7]? = some (wrow (s)) from g7r); clear g7r
    clear hq0 hq1 hq2 hq3 hq4 hq5 hq6 hq7 hq8 hq11 mq9 dq10_9 hall
    rw [hT0]; simp only [sets, List.setIfInBounds_toArray, List.set_cons_zero, List.set_cons_succ]
    clear hT0 HI
    have S7 := hS.cons g7h.out
    go_wp2_with (refine wpList_wide rfl _ rfl _ rfl S7 _ (List.Mem.head _) ?_)
    refine (CI.out _ (hS.get mr)).mono ?_
    rintro e W3 ⟨rfl, hb⟩
    have S8 := hS.keep hb
    clear hb
    go_wp2_with (refine wpList_put rfl _ _ rfl (w.heap.size + 1) rfl z 0 rfl (S8.get mv1) ?_)
    refine bodyPost_ret (results_cell_row rfl _ _ (w.heap.size + 1) 73 (limbs4 (z)) (0, 0) _ rfl (set_row (S8.get mv1)) Try.underlying73 rfl (by kernel_rfl)) rfl ?_
    exact ⟨rfl, below_setRow S8.below (by omega) _⟩
set_option maxRecDepth 100000 in
set_option maxHeartbeats 4000000 in
theorem one_f (g a : Nat) (p : Bool) (ha : a < W256) (w : World) (hr : w.heap[g]? = some (rrow p)) :
    Calls Try.prog 72 #[rptr g, wv a, .bool false] w fun e w' => e = .returned (wv (a % PRM p)) ∧ Below w.heap.size w w' := by
  have HA := Lib.hid ha
  obtain ⟨z, hz⟩ : ∃ z, a % PRM p = z := ⟨_, rfl⟩
  have HZ := Lib.hid hz
  have CIN := Lib.hid (fun W => fun h => in_c g a p ha W h)
  have R0 := Lib.hid hr
  rw [hz]
  clear hr hz ha
  by_cases hlt : a < PRM p
  · have hd : decide (a < PRM p) = true := by simpa using hlt
    have hza : Hid (z = a) := by have := HZ.out; rw [Nat.mod_eq_of_lt hlt] at this; exact this.symm
    rw [hd] at CIN
    clear hlt hd
    go_enter Try.func72, Try.ntmps72
    have S0 := ((((St.nil w).cons R0.out)).alloc (wrow (a)) (w.heap.size) rfl).alloc (wrow (0)) (w.heap.size + 1) (by simp)
    obtain ⟨L0, hL0⟩ : ∃ L, L = [(w.heap.size + 1, wrow (0)), (w.heap.size, wrow (a)), (g, rrow p)] := ⟨_, rfl⟩
    rw [← hL0] at S0
    have mv0 : (w.heap.size, wrow (a)) ∈ L0 := by rw [hL0]; exact (List.Mem.tail _ (List.Mem.head _))
    have mv1 : (w.heap.size + 1, wrow (0)) ∈ L0 := by rw [hL0]; exact (List.Mem.head _)
    have mr : (g, rrow p) ∈ L0 := by rw [hL0]; exact (List.Mem.tail _ (List.Mem.tail _ (List.Mem.head _)))
    have hlow : Hid (∀ q, q ∈ L0 → q.1 < w.heap.size + 2) := by
      rw [hL0]; intro q hq; have hg0 := lt_of_block R0.out; simp at hq; rcases hq with rfl | rfl | rfl <;> simp <;> omega
    clear hL0
    go_wp2_with (refine wpList_wide rfl _ rfl _ rfl S0 _ mv0 ?_)
    refine (CIN.out _ (S0.get mr)).mono ?_
    rintro e W1 ⟨rfl, hb⟩
    have S1 := S0.keep hb
    clear hb
    go_wp2_with (first | (refine wpList_wide rfl _ rfl _ rfl S1 _ mv0 ?_) | (refine wpList_put rfl _ _ rfl (w.heap.size + 1) rfl a 0 rfl (S1.get mv1) ?_))
    refine bodyPost_ret (results_cell_row rfl _ _ (w.heap.size + 1) 73 (limbs4 (a)) (0, 0) _ rfl (set_row (S1.get mv1)) Try.underlying73 rfl (by kernel_rfl)) rfl ?_
    exact ⟨by rw [hza.out], below_setRow S1.below (by omega) _⟩
  · have hd : decide (a < PRM p) = false := by simpa using hlt
    obtain ⟨d, hdd⟩ : ∃ d, (a + W256 - PRM p) % W256 = d := ⟨_, rfl⟩
    obtain ⟨m, hm⟩ : ∃ m, decide (a < PRM p) = m := ⟨_, rfl⟩
    have CS := Lib.hid (fun W => sub_n a (PRM p) HA.out (prm_lt p) d m hdd hm W)
    have hzd : Hid (z = d) := by
      have h1 := HZ.out; have h2 := w256_two p; have h3 := HA.out; have h4 := prm_lt p
      rw [Nat.mod_eq_sub_mod (by omega), Nat.mod_eq_of_lt (by omega)] at h1
      rw [show a + W256 - PRM p = a - PRM p + W256 by omega, Nat.add_mod_right, Nat.mod_eq_of_lt (by omega)] at hdd
      unfold Hid; omega
    rw [hd] at CIN
    clear hlt hd hm hdd
    go_enter Try.func72, Try.ntmps72
    have S0 := ((((St.nil w).cons R0.out)).alloc (wrow (a)) (w.heap.size) rfl).alloc (wrow (0)) (w.heap.size + 1) (by simp)
    obtain ⟨L0, hL0⟩ : ∃ L, L = [(w.heap.size + 1, wrow (0)), (w.heap.size, wrow (a)), (g, rrow p)] := ⟨_, rfl⟩
    rw [← hL0] at S0
    have mv0 : (w.heap.size, wrow (a)) ∈ L0 := by rw [hL0]; exact (List.Mem.tail _ (List.Mem.head _))
    have mv1 : (w.heap.size + 1, wrow (0)) ∈ L0 := by rw [hL0]; exact (List.Mem.head _)
    have mr : (g, rrow p) ∈ L0 := by rw [hL0]; exact (List.Mem.tail _ (List.Mem.tail _ (List.Mem.head _)))
    have hlow : Hid (∀ q, q ∈ L0 → q.1 < w.heap.size + 2) := by
      rw [hL0]; intro q hq; have hg0 := lt_of_block R0.out; simp at hq; rcases hq with rfl | rfl | rfl <;> simp <;> omega
    clear hL0
    go_wp2_with (refine wpList_wide rfl _ rfl _ rfl S0 _ mv0 ?_)
    refine (CIN.out _ (S0.get mr)).mono ?_
    rintro e W1 ⟨rfl, hb⟩
    have S1 := S0.keep hb
    clear hb
    obtain ⟨LR, hLR0⟩ : ∃ L, L = [(w.heap.size + 1, wrow 0), (g, rrow p)] := ⟨_, rfl⟩
    have S1r : St w LR W1 := S1.drop (by rw [hLR0]; intro q hq; simp at hq; rcases hq with rfl | rfl; exact mv1; exact mr)
    have n1 : (w.heap.size + 1, wrow 0) ∈ LR := by rw [hLR0]; exact List.Mem.head _
    have nr : (g, rrow p) ∈ LR := by rw [hLR0]; exact List.Mem.tail _ (List.Mem.head _)
    have hLR : Hid (∀ q, q ∈ LR → q.1 ≠ w.heap.size) := by
      rw [hLR0]; intro q hq; have hg0 := lt_of_block R0.out; simp at hq; rcases hq with rfl | rfl <;> simp <;> omega
    clear hLR0
    go_wp2_with fail
    obtain ⟨I, hI0⟩ : ∃ I : Array Value → (Nat → Bool) → Act → World → Prop, I = (fun T0 L act W => ∃ vq0 vq1 vq2 vq3 vq4 vq5 vq6 vq7 vq8, act = ⟨sets T0 [(28, vq0), (29, vq1), (30, vq2), (31, vq3), (32, vq4), (33, vq5), (27, vq6), (34, vq7), (35, vq8)], []⟩ ∧ St w LR W ∧ (L 0 = true → vq0 = wv (a)) ∧ (L 1 = true → vq1 = rptr g) ∧ (L 2 = true → vq2 = rptr g) ∧ (L 3 = true → vq3 = .pointer (some ⟨g, 0, none⟩)) ∧ (L 4 = true → vq4 = wv (PRM p)) ∧ (L 5 = true → vq5 = .tuple #[wv d, .bool m]) ∧ (L 6 = true → vq6 = .tuple #[wv d, .bool m]) ∧ (L 7 = true → vq7 = wv d) ∧ (L 8 = true → vq8 = .bool m) ∧ (L 9 = false → W.heap[w.heap.size]? = some (wrow a)) ∧ (L 9 = true → W.heap[w.heap.size]? = some (wrow d)) ∧ (L 9 = true → L 0 = true)) := ⟨_, rfl⟩
    have HI := Lib.hid hI0; clear hI0
    refine wp_region_frame (by kernel_rfl) (by kernel_rfl) I (fun T0 hT0 => ⟨?start, ?step, ?fin⟩)
    case start =>
      rw [HI.out]
      exact ⟨T0.getD 28 undef, T0.getD 29 undef, T0.getD 30 undef, T0.getD 31 undef, T0.getD 32 undef, T0.getD 33 undef, T0.getD 27 undef, T0.getD 34 undef, T0.getD 35 undef, by (refine Eq.trans ?_ (congrArg (fun T => Act.mk T []) (sets_self [28, 29, 30, 31, 32, 33, 27, 34, 35] T0).symm)); rw [hT0], S1r.drew, nofun, nofun, nofun, nofun, nofun, nofun, nofun, nofun, nofun, fun _ => S1.get mv0, nofun, nofun⟩
    case step =>
      refine ⟨?_, ?_, ?_, ?_, ?_, ?_, ?_, ?_, ?_, ?_, trivial⟩
      · intro L act W hI hno hdep
        rw [HI.out] at hI
        obtain ⟨vq0, vq1, vq2, vq3, vq4, vq5, vq6, vq7, vq8, hact, hS, hq0, hq1, hq2, hq3, hq4, hq5, hq6, hq7, hq8, oq9, nq9, dq9_0⟩ := hI
        subst hact
        rw [hT0]; simp only [sets, List.setIfInBounds_toArray, List.set_cons_zero, List.set_cons_succ]
        with_reducible refine wp_wide (Operand.tmp 4) rfl w.heap.size ?_ (a) (oq9 (noF dq9_0 hno)) ?_
        · rfl
        rw [HI.out]
        exact ⟨wv (a), vq1, vq2, vq3, vq4, vq5, vq6, vq7, vq8, by simp only [sets, Act.put, List.setIfInBounds_toArray, List.set_cons_zero, List.set_cons_succ], hS, fun _ => rfl, keepI hq1 rfl, keepI hq2 rfl, keepI hq3 rfl, keepI hq4 rfl, keepI hq5 rfl, keepI hq6 rfl, keepI hq7 rfl, keepI hq8 rfl, keepF oq9, keepI nq9 rfl, keepD dq9_0 rfl⟩
      · intro L act W hI hno hdep
        rw [HI.out] at hI
        obtain ⟨vq0, vq1, vq2, vq3, vq4, vq5, vq6, vq7, vq8, hact, hS, hq0, hq1, hq2, hq3, hq4, hq5, hq6, hq7, hq8, oq9, nq9, dq9_0⟩ := hI
        subst hact
        rw [hT0]; simp only [sets, List.setIfInBounds_toArray, List.set_cons_zero, List.set_cons_succ]
        go_simp
        rw [HI.out]
        exact ⟨vq0, rptr g, vq2, vq3, vq4, vq5, vq6, vq7, vq8, by simp only [sets, List.setIfInBounds_toArray, List.set_cons_zero, List.set_cons_succ], hS, keepI hq0 rfl, fun _ => rfl, keepI hq2 rfl, keepI hq3 rfl, keepI hq4 rfl, keepI hq5 rfl, keepI hq6 rfl, keepI hq7 rfl, keepI hq8 rfl, keepF oq9, keepI nq9 rfl, keepD dq9_0 rfl⟩
      · intro L act W hI hno hdep
        rw [HI.out] at hI
        obtain ⟨vq0, vq1, vq2, vq3, vq4, vq5, vq6, vq7, vq8, hact, hS, hq0, hq1, hq2, hq3, hq4, hq5, hq6, hq7, hq8, oq9, nq9, dq9_0⟩ := hI
        subst hact
        obtain rfl := hq1 (hdep ⟨1, .data⟩ (by simp) rfl)
        rw [hT0]; simp only [sets, List.setIfInBounds_toArray, List.set_cons_zero, List.set_cons_succ]
        go_simp
        rw [HI.out]
        exact ⟨vq0, rptr g, rptr g, vq3, vq4, vq5, vq6, vq7, vq8, by simp only [sets, List.setIfInBounds_toArray, List.set_cons_zero, List.set_cons_succ], hS, keepI hq0 rfl, fun _ => rfl, fun _ => rfl, keepI hq3 rfl, keepI hq4 rfl, keepI hq5 rfl, keepI hq6 rfl, keepI hq7 rfl, keepI hq8 rfl, keepF oq9, keepI nq9 rfl, keepD dq9_0 rfl⟩
      · intro L act W hI hno hdep
        rw [HI.out] at hI
        obtain ⟨vq0, vq1, vq2, vq3, vq4, vq5, vq6, vq7, vq8, hact, hS, hq0, hq1, hq2, hq3, hq4, hq5, hq6, hq7, hq8, oq9, nq9, dq9_0⟩ := hI
        subst hact
        obtain rfl := hq2 (hdep ⟨2, .data⟩ (by simp) rfl)
        rw [hT0]; simp only [sets, List.setIfInBounds_toArray, List.set_cons_zero, List.set_cons_succ]
        go_simp
        rw [HI.out]
        exact ⟨vq0, vq1, rptr g, .pointer (some ⟨g, 0, none⟩), vq4, vq5, vq6, vq7, vq8, by simp only [sets, List.setIfInBounds_toArray, List.set_cons_zero, List.set_cons_succ], hS, keepI hq0 rfl, keepI hq1 rfl, fun _ => rfl, fun _ => rfl, keepI hq4 rfl, keepI hq5 rfl, keepI hq6 rfl, keepI hq7 rfl, keepI hq8 rfl, keepF oq9, keepI nq9 rfl, keepD dq9_0 rfl⟩
      · intro L act W hI hno hdep
        rw [HI.out] at hI
        obtain ⟨vq0, vq1, vq2, vq3, vq4, vq5, vq6, vq7, vq8, hact, hS, hq0, hq1, hq2, hq3, hq4, hq5, hq6, hq7, hq8, oq9, nq9, dq9_0⟩ := hI
        subst hact
        obtain rfl := hq3 (hdep ⟨3, .data⟩ (by simp) rfl)
        rw [hT0]; simp only [sets, List.setIfInBounds_toArray, List.set_cons_zero, List.set_cons_succ]
        with_reducible refine wp_part (Operand.tmp 31) rfl g 0 ?_ (PRM p) (ring_prime (hS.get nr)) ?_
        · rfl
        rw [HI.out]
        exact ⟨vq0, vq1, vq2, .pointer (some ⟨g, 0, none⟩), wv (PRM p), vq5, vq6, vq7, vq8, by simp only [sets, Act.put, List.setIfInBounds_toArray, List.set_cons_zero, List.set_cons_succ], hS, keepI hq0 rfl, keepI hq1 rfl, keepI hq2 rfl, fun _ => rfl, fun _ => rfl, keepI hq5 rfl, keepI hq6 rfl, keepI hq7 rfl, keepI hq8 rfl, keepF oq9, keepI nq9 rfl, keepD dq9_0 rfl⟩
      · intro L act W hI hno hdep
        rw [HI.out] at hI
        obtain ⟨vq0, vq1, vq2, vq3, vq4, vq5, vq6, vq7, vq8, hact, hS, hq0, hq1, hq2, hq3, hq4, hq5, hq6, hq7, hq8, oq9, nq9, dq9_0⟩ := hI
        subst hact
        obtain rfl := hq0 (hdep ⟨0, .data⟩ (by simp) rfl)
        obtain rfl := hq4 (hdep ⟨4, .data⟩ (by simp) rfl)
        rw [hT0]; simp only [sets, List.setIfInBounds_toArray, List.set_cons_zero, List.set_cons_succ]
        go_simp
        refine (CS.out _).mono ?_
        rintro e W2 ⟨rfl, hb⟩
        rw [HI.out]
        exact ⟨wv (a), vq1, vq2, vq3, wv (PRM p), .tuple #[wv d, .bool m], vq6, vq7, vq8, by simp only [sets, List.setIfInBounds_toArray, List.set_cons_zero, List.set_cons_succ], (hS.keep hb), fun _ => rfl, keepI hq1 rfl, keepI hq2 rfl, keepI hq3 rfl, fun _ => rfl, fun _ => rfl, keepI hq6 rfl, keepI hq7 rfl, keepI hq8 rfl, keepF (fun h => keepH hb (oq9 h)), keepI (fun h => keepH hb (nq9 h)) rfl, keepD dq9_0 rfl⟩
      · intro L act W hI hno hdep
        rw [HI.out] at hI
        obtain ⟨vq0, vq1, vq2, vq3, vq4, vq5, vq6, vq7, vq8, hact, hS, hq0, hq1, hq2, hq3, hq4, hq5, hq6, hq7, hq8, oq9, nq9, dq9_0⟩ := hI
        subst hact
        obtain rfl := hq5 (hdep ⟨5, .data⟩ (by simp) rfl)
        rw [hT0]; simp only [sets, List.setIfInBounds_toArray, List.set_cons_zero, List.set_cons_succ]
        go_simp
        rw [HI.out]
        exact ⟨vq0, vq1, vq2, vq3, vq4, .tuple #[wv d, .bool m], .tuple #[wv d, .bool m], vq7, vq8, by simp only [sets, List.setIfInBounds_toArray, List.set_cons_zero, List.set_cons_succ], hS, keepI hq0 rfl, keepI hq1 rfl, keepI hq2 rfl, keepI hq3 rfl, keepI hq4 rfl, fun _ => rfl, fun _ => rfl, keepI hq7 rfl, keepI hq8 rfl, keepF oq9, keepI nq9 rfl, keepD dq9_0 rfl⟩
      · intro L act W hI hno hdep
        rw [HI.out] at hI
        obtain ⟨vq0, vq1, vq2, vq3, vq4, vq5, vq6, vq7, vq8, hact, hS, hq0, hq1, hq2, hq3, hq4, hq5, hq6, hq7, hq8, oq9, nq9, dq9_0⟩ := hI
        subst hact
        obtain rfl := hq6 (hdep ⟨6, .data⟩ (by simp) rfl)
        rw [hT0]; simp only [sets, List.setIfInBounds_toArray, List.set_cons_zero, List.set_cons_succ]
        go_simp
        rw [HI.out]
        exact ⟨vq0, vq1, vq2, vq3, vq4, vq5, .tuple #[wv d, .bool m], wv d, vq8, by simp only [sets, List.setIfInBounds_toArray, List.set_cons_zero, List.set_cons_succ], hS, keepI hq0 rfl, keepI hq1 rfl, keepI hq2 rfl, keepI hq3 rfl, keepI hq4 rfl, keepI hq5 rfl, fun _ => rfl, fun _ => rfl, keepI hq8 rfl, keepF oq9, keepI nq9 rfl, keepD dq9_0 rfl⟩
      · intro L act W hI hno hdep
        rw [HI.out] at hI
        obtain ⟨vq0, vq1, vq2, vq3, vq4, vq5, vq6, vq7, vq8, hact, hS, hq0, hq1, hq2, hq3, hq4, hq5, hq6, hq7, hq8, oq9, nq9, dq9_0⟩ := hI
        subst hact
        obtain rfl := hq6 (hdep ⟨6, .data⟩ (by simp) rfl)
        rw [hT0]; simp only [sets, List.setIfInBounds_toArray, List.set_cons_zero, List.set_cons_succ]
        go_simp
        rw [HI.out]
        exact ⟨vq0, vq1, vq2, vq3, vq4, vq5, .tuple #[wv d, .bool m], vq7, .bool m, by simp only [sets, List.setIfInBounds_toArray, List.set_cons_zero, List.set_cons_succ], hS, keepI hq0 rfl, keepI hq1 rfl, keepI hq2 rfl, keepI hq3 rfl, keepI hq4 rfl, keepI hq5 rfl, fun _ => rfl, keepI hq7 rfl, fun _ => rfl, keepF oq9, keepI nq9 rfl, keepD dq9_0 rfl⟩
      · intro L act W hI hno hdep
        rw [HI.out] at hI
        obtain ⟨vq0, vq1, vq2, vq3, vq4, vq5, vq6, vq7, vq8, hact, hS, hq0, hq1, hq2, hq3, hq4, hq5, hq6, hq7, hq8, oq9, nq9, dq9_0⟩ := hI
        subst hact
        obtain rfl := hq7 (hdep ⟨7, .data⟩ (by simp) rfl)
        have hg := oq9 hno
        rw [hT0]; simp only [sets, List.setIfInBounds_toArray, List.set_cons_zero, List.set_cons_succ]
        with_reducible refine wp_put (Operand.tmp 4) (Operand.tmp 34) rfl w.heap.size ?_ (d) (a) ?_ hg ?_
        · rfl
        · rfl
        rw [HI.out]
        exact ⟨vq0, vq1, vq2, vq3, vq4, vq5, vq6, wv d, vq8, by simp only [sets, Act.put, List.setIfInBounds_toArray, List.set_cons_zero, List.set_cons_succ], (hS.setRow (Nat.le_refl _) (fun q hq => hLR.out q hq) _), keepI hq0 rfl, keepI hq1 rfl, keepI hq2 rfl, keepI hq3 rfl, keepI hq4 rfl, keepI hq5 rfl, keepI hq6 rfl, fun _ => rfl, keepI hq8 rfl, alsoF, fun _ => setRow_heap W _ _ _ _ _ hg, fun _ => alsoD (hdep ⟨0, .phase⟩ (by simp) rfl)⟩
    case fin =>
      intro L act W hall hI
      rw [HI.out] at hI
      obtain ⟨vq0, vq1, vq2, vq3, vq4, vq5, vq6, vq7, vq8, hact, hS, hq0, hq1, hq2, hq3, hq4, hq5, hq6, hq7, hq8, oq9, nq9, dq9_0⟩ := hI
      subst hact
      obtain rfl := hq0 (hall 0 (by decide))
      obtain rfl := hq1 (hall 1 (by decide))
      obtain rfl := hq2 (hall 2 (by decide))
      obtain rfl := hq3 (hall 3 (by decide))
      obtain rfl := hq4 (hall 4 (by decide))
      obtain rfl := hq5 (hall 5 (by decide))
      obtain rfl := hq6 (hall 6 (by decide))
      obtain rfl := hq7 (hall 7 (by decide))
      obtain rfl := hq8 (hall 8 (by decide))
      have tah := Lib.hid (nq9 (hall 9 (by decide)))
      clear hq0 hq1 hq2 hq3 hq4 hq5 hq6 hq7 hq8 oq9 nq9 dq9_0 hall
      rw [hT0]; simp only [sets, List.setIfInBounds_toArray, List.set_cons_zero, List.set_cons_succ]
      clear hT0 HI
      have S7 := hS.cons tah.out
      go_wp2_with (first | (refine wpList_wide rfl _ rfl _ rfl S7 _ (List.Mem.head _) ?_) | (refine wpList_put rfl _ _ rfl (w.heap.size + 1) rfl d 0 rfl (hS.get n1) ?_))
      refine bodyPost_ret (results_cell_row rfl _ _ (w.heap.size + 1) 73 (limbs4 (d)) (0, 0) _ rfl (set_row (hS.get n1)) Try.underlying73 rfl (by kernel_rfl)) rfl ?_
      exact ⟨by rw [hzd.out], below_setRow hS.below (by omega) _⟩
/-- A number of 256 bits, and perhaps one more. -/
theorem one_c (g a : Nat) (p m : Bool) (ha : a < W256) (w : World) (hr : w.heap[g]? = some (rrow p)) :
    Calls Try.prog 72 #[rptr g, wv a, .bool m] w fun e w' => e = .returned (wv ((a + (if m then W256 else 0)) % PRM p)) ∧ Below w.heap.size w w' := by
  have hp := prm_lt p; have hg := gap_lt p; have hpg := prm_gap p; have hs := gap_small p; have hb := prm_big p; have hw : W256 = 115792089237316195423570985008687907853269984665640564039457584007913129639936 := by decide +kernel
  cases m with
  | false => simpa using one_f g a p ha w hr
  | true =>
    have hz : ∀ x, x % PRM p < W256 := fun x => Nat.lt_trans (Nat.mod_lt _ (by omega)) hp
    simp only [if_true]
    rw [← one_more]
    by_cases h1 : W256 ≤ a + GAP p
    · obtain ⟨s, hs1⟩ : ∃ s, s = a + GAP p - W256 := ⟨_, rfl⟩
      have e1 : (a + GAP p) % W256 = s := by rw [hs1, Nat.mod_eq_sub_mod h1, Nat.mod_eq_of_lt (by omega)]
      refine one_step g a p ha s true e1 (by simpa using h1) _ (hz _) w hr (fun W h => ?_)
      have hsl : s < W256 := by omega
      refine (one_step g s p hsl (s + GAP p) false (Nat.mod_eq_of_lt (by omega)) (by simp; omega) _ (hz _) W h (fun W' h' => one_f g (s + GAP p) p (by omega) W' h')).mono fun e w' he => ?_
      rw [one_more, show s + W256 = a + GAP p by omega] at he
      exact he
    · refine one_step g a p ha (a + GAP p) false (Nat.mod_eq_of_lt (by omega)) (by simpa using h1) _ (hz _) w hr (fun W h => one_f g (a + GAP p) p (by omega) W h)
end Go.Proofs.Ytbaifchbpnmkpaa
namespace Go.Proofs.Ytbaifchbpnmkpaa
open Go.RowKit
theorem mul_n (a b : Nat) (ha : a < W256) (hb : b < W256) (l h : Nat) (hl : a * b % W256 = l) (hh : a * b / W256 = h) (W : World) :
    Calls Try.prog 83 #[wv a, wv b] W fun e w' => e = .returned (.tuple #[wv l, wv h]) ∧ Below W.heap.size W w' := by
  refine (mul_c a b ha hb W).mono ?_
  rintro e w' ⟨y, z, -, -, ⟨hy, hz⟩, rfl, hb⟩
  rw [hy, hz, hl, hh]; exact ⟨rfl, hb⟩
theorem of_n (k : Int) (n : Nat) (hk : k = n) (hn : n < 18446744073709551616) (W : World) : Calls Try.prog 69 #[.int .u64 k] W fun e w' => e = .returned (wv n) ∧ Below W.heap.size W w' := by
  subst hk
  refine (of_c (n : Int) (by omega) (by omega) W).mono ?_
  rintro e w' ⟨z, -, hz, rfl, hb⟩
  rw [hz]; exact ⟨rfl, hb⟩
/-- What Fold's loop holds: both numbers in their variables, and the rest that they have. -/
structure FoldInv (w : World) (p : Bool) (LR : List (Nat × Obj)) (t k low high : Nat) (wr : World) : Prop where
  st : St w LR wr
  lo : wr.heap[w.heap.size]? = some (wrow low)
  hi : wr.heap[w.heap.size + 1]? = some (wrow high)
  lowW : low < W256
  highW : high < W256
  rest : (low + W256 * high) % PRM p = t
  ghost : k = low + W256 * high
theorem fold_down (p : Bool) (low high pl ph s h2 : Nat) (m : Bool) (hlow : low < W256) (hhigh : high < W256) (h0 : high ≠ 0) (hpl : high * GAP p % W256 = pl) (hph : high * GAP p / W256 = ph) (hs : (low + pl) % W256 = s) (hm : decide (W256 ≤ low + pl) = m)
    (hh2 : h2 = ph + (if m then 1 else 0)) : s < W256 ∧ ph < GAP p ∧ h2 < W256 ∧ s + W256 * h2 = low + high * GAP p ∧ (s + W256 * h2) % PRM p = (low + W256 * high) % PRM p ∧ s + W256 * h2 < low + W256 * high := by
  have hg := prm_gap p; have hgs := gap_small p; have hW : W256 = 115792089237316195423570985008687907853269984665640564039457584007913129639936 := by decide +kernel
  have hpos : 0 < W256 := by decide
  have hphl : ph < GAP p := by
    rw [← hph]
    refine Nat.div_lt_of_lt_mul ?_
    exact Nat.mul_lt_mul_of_pos_right hhigh (by have := prm_lt p; omega)
  have hpll : pl < W256 := by rw [← hpl]; exact Nat.mod_lt _ hpos
  have e1 : high * GAP p = pl + W256 * ph := by rw [← hpl, ← hph]; exact (Nat.mod_add_div _ _).symm
  have hsl : s < W256 := by rw [← hs]; exact Nat.mod_lt _ hpos
  have e2 : s + W256 * h2 = low + high * GAP p := by
    rw [e1, hh2]
    cases m with
    | true =>
      have hc : W256 ≤ low + pl := by simpa using hm
      rw [Nat.mod_eq_sub_mod hc, Nat.mod_eq_of_lt (by omega)] at hs
      simp only [if_true, Nat.mul_add]; omega
    | false =>
      have hc : ¬ W256 ≤ low + pl := by simpa using hm
      rw [Nat.mod_eq_of_lt (by omega)] at hs
      simp; omega
  have e3 : low + W256 * high = (low + high * GAP p) + PRM p * high := by
    rw [← hg, Nat.add_mul, Nat.mul_comm high]; omega
  refine ⟨hsl, hphl, by rw [hh2]; split <;> omega, e2, ?_, ?_⟩
  · rw [e2, e3, Nat.add_mul_mod_self_left]
  · rw [e2, e3]
    have : 0 < PRM p * high := Nat.mul_pos (by have := prm_big p; omega) (by omega)
    omega
set_option maxRecDepth 100000 in
set_option maxHeartbeats 16000000 in
/-- Fold: 512 bits. -/
theorem fold_c (g a c : Nat) (p : Bool) (ha : a < W256) (hc : c < W256) (w : World) (hr : w.heap[g]? = some (rrow p)) :
    Calls Try.prog 63 #[rptr g, wv a, wv c] w fun e w' => e = .returned (wv ((a + W256 * c) % PRM p)) ∧ Below w.heap.size w w' := by
  have q1 := eql_wide0; have q2 := wide_guard
  have R0 := Lib.hid hr
  have HA := Lib.hid ha; have HC := Lib.hid hc
  obtain ⟨t, ht⟩ : ∃ t, (a + W256 * c) % PRM p = t := ⟨_, rfl⟩
  have HT := Lib.hid ht
  rw [ht]
  clear hr ha hc ht
  go_enter Try.func63, Try.ntmps63
  have S0 := (((((St.nil w).cons R0.out)).alloc (wrow (a)) (w.heap.size) rfl).alloc (wrow (c)) (w.heap.size + 1) (by simp)).alloc (wrow (0)) (w.heap.size + 1 + 1) (by simp)
  obtain ⟨L0, hL0⟩ : ∃ L, L = [(w.heap.size + 1 + 1, wrow (0)), (w.heap.size + 1, wrow (c)), (w.heap.size, wrow (a)), (g, rrow p)] := ⟨_, rfl⟩
  rw [← hL0] at S0
  have mv0 : (w.heap.size, wrow (a)) ∈ L0 := by rw [hL0]; exact (List.Mem.tail _ (List.Mem.tail _ (List.Mem.head _)))
  have mv1 : (w.heap.size + 1, wrow (c)) ∈ L0 := by rw [hL0]; exact (List.Mem.tail _ (List.Mem.head _))
  have mv2 : (w.heap.size + 1 + 1, wrow (0)) ∈ L0 := by rw [hL0]; exact (List.Mem.head _)
  have mr : (g, rrow p) ∈ L0 := by rw [hL0]; exact (List.Mem.tail _ (List.Mem.tail _ (List.Mem.tail _ (List.Mem.head _))))
  have hlow : Hid (∀ q, q ∈ L0 → q.1 < w.heap.size + 3) := by
    rw [hL0]; intro q hq; have hg0 := lt_of_block R0.out; simp at hq; rcases hq with rfl | rfl | rfl | rfl <;> simp <;> omega
  clear hL0
  obtain ⟨LR, hLR0⟩ : ∃ L, L = [(w.heap.size + 1 + 1, wrow 0), (g, rrow p)] := ⟨_, rfl⟩
  have nr : (g, rrow p) ∈ LR := by rw [hLR0]; exact List.Mem.tail _ (List.Mem.head _)
  have n2 : (w.heap.size + 1 + 1, wrow 0) ∈ LR := by rw [hLR0]; exact List.Mem.head _
  have hLR : Hid (∀ q, q ∈ LR → q.1 ≠ w.heap.size ∧ q.1 ≠ w.heap.size + 1 ∧ q.1 < w.heap.size + 3) := by
    rw [hLR0]; intro q hq; have hg0 := lt_of_block R0.out; simp at hq; rcases hq with rfl | rfl <;> simp <;> omega
  have I0 : Hid (FoldInv w p LR t (a + W256 * c) a c _) := ⟨S0.drop (by rw [hLR0]; intro q hq; simp at hq; rcases hq with rfl | rfl; exact mv2; exact mr), S0.get mv0, S0.get mv1, HA.out, HC.out, HT.out, rfl⟩
  clear hLR0
  go_wp2_with fail
  go_loopg [10] (a + W256 * c) (fun k s10 wr => ∃ low high, Hid (FoldInv w p LR t k low high wr))
  case atStart => exact ⟨a, c, I0⟩
  case round =>
    obtain ⟨low, high, HJ⟩ := hrel
    have S1 := HJ.out.st
    have J4 := Lib.hid HJ.out.lo; have J5 := Lib.hid HJ.out.hi
    by_cases h0 : high = 0
    · have e0 : weq high 0 = true := eql_wide_iff HJ.out.highW (by decide) h0
      have hzt : Hid (low % PRM p = t) := by have := HJ.out.rest; rw [h0, Nat.mul_zero, Nat.add_zero] at this; exact this
      have CO := Lib.hid (fun W h => one_f g low p HJ.out.lowW W h)
      clear h0
      have S2 := (S1.cons J5.out).cons J4.out
      go_wp2_with (first | (refine wpList_wide rfl _ rfl _ rfl (S2) _ (List.Mem.head _) ?_) | (refine wpList_wide rfl _ rfl _ rfl (S2) _ (List.Mem.tail _ (List.Mem.head _)) ?_) | fail)
      refine (CO.out _ (S1.get nr)).mono ?_
      rintro e W3 ⟨rfl, hb⟩
      have S3 := S1.keep hb
      clear hb
      go_wp2_with (refine wpList_put rfl _ _ rfl (w.heap.size + 1 + 1) rfl (low % PRM p) 0 rfl (S3.get n2) ?_)
      refine bodyPost_ret (results_cell_row rfl _ _ (w.heap.size + 1 + 1) 73 (limbs4 (low % PRM p)) (0, 0) _ rfl (set_row (S3.get n2)) Try.underlying73 rfl (by kernel_rfl)) rfl ?_
      exact ⟨by rw [hzt.out], below_setRow S3.below (by omega) _⟩
    · have e0 : weq high 0 = false := weq_false HJ.out.highW (by decide) h0
      obtain ⟨pl, hpl⟩ : ∃ x, high * GAP p % W256 = x := ⟨_, rfl⟩
      obtain ⟨ph, hph⟩ : ∃ x, high * GAP p / W256 = x := ⟨_, rfl⟩
      obtain ⟨s, hs⟩ : ∃ x, (low + pl) % W256 = x := ⟨_, rfl⟩
      obtain ⟨m, hm⟩ : ∃ x, decide (W256 ≤ low + pl) = x := ⟨_, rfl⟩
      obtain ⟨h2, hh2⟩ : ∃ x, x = ph + (if m then 1 else 0) := ⟨_, rfl⟩
      have FD := Lib.hid (fold_down p low high pl ph s h2 m HJ.out.lowW HJ.out.highW h0 hpl hph hs hm hh2)
      have HH2 := Lib.hid hh2
      have hplW : pl < W256 := by rw [← hpl]; exact Nat.mod_lt _ (by decide)
      have CM := Lib.hid (fun W => mul_n high (GAP p) HJ.out.highW (gap_lt p) pl ph hpl hph W)
      have CA := Lib.hid (fun W => add_n low pl HJ.out.lowW hplW s m hs hm W)
      have CO := Lib.hid (fun W => of_n 1 1 rfl (by decide) W)
      clear h0 hpl hph hs hm hh2 hplW
      have hbase : w.heap.size + 3 ≤ wr.heap.size := by have := lt_of_block (S1.get n2); omega
      obtain ⟨LA, hLA0⟩ : ∃ L, L = (w.heap.size + 1, wrow high) :: (w.heap.size, wrow low) :: LR := ⟨_, rfl⟩
      have SA : St w LA wr := by rw [hLA0]; exact (S1.cons J4.out).cons J5.out
      have ja5 : (w.heap.size + 1, wrow high) ∈ LA := by rw [hLA0]; exact List.Mem.head _
      have ja4 : (w.heap.size, wrow low) ∈ LA := by rw [hLA0]; exact List.Mem.tail _ (List.Mem.head _)
      have jar : (g, rrow p) ∈ LA := by rw [hLA0]; exact List.Mem.tail _ (List.Mem.tail _ nr)
      have hRA : Hid (∀ q, q ∈ LR → q ∈ LA) := by rw [hLA0]; exact fun q hq => List.Mem.tail _ (List.Mem.tail _ hq)
      have hlow : Hid (∀ q, q ∈ LA → q.1 < w.heap.size + 3) := by
        rw [hLA0]; intro q hq; rcases List.mem_cons.1 hq with rfl | hq
        · show w.heap.size + 1 < _; omega
        · rcases List.mem_cons.1 hq with rfl | hq
          · show w.heap.size < _; omega
          · exact (hLR.out q hq).2.2
      clear hLA0
      go_wp2_with (first | (refine wpList_wide rfl _ rfl _ rfl (SA) _ ja5 ?_) | fail)
      obtain ⟨I, hI0⟩ : ∃ I : Array Value → (Nat → Bool) → Act → World → Prop, I = (fun T0 L act W => ∃ vq0 vq1 vq2 vq3 vq4 vq5 vq6 vq7 vq8 vq9 vq10, act = ⟨sets T0 [(15, vq0), (16, vq1), (17, vq2), (18, vq3), (19, vq4), (20, vq5), (14, vq6), (21, vq7), (22, vq8), (7, vq9), (8, vq10)], []⟩ ∧ St w LA W ∧ w.heap.size + 3 ≤ W.heap.size ∧ (L 0 = true → vq0 = wv (high)) ∧ (L 1 = true → vq1 = rptr g) ∧ (L 2 = true → vq2 = rptr g) ∧ (L 3 = true → vq3 = .pointer (some ⟨g, 4, none⟩)) ∧ (L 4 = true → vq4 = wv (GAP p)) ∧ (L 5 = true → vq5 = .tuple #[wv pl, wv ph]) ∧ (L 6 = true → vq6 = .tuple #[wv pl, wv ph]) ∧ (L 7 = true → vq7 = wv pl) ∧ (L 8 = true → vq8 = wv ph) ∧ (L 9 = true → Made W 73 (w.heap.size + 3) vq9 (L 11) (limbs4 0) (limbs4 (pl))) ∧ (L 11 = true → L 9 = true) ∧ (L 10 = true → Made W 73 (w.heap.size + 3) vq10 (L 12) (limbs4 0) (limbs4 (ph))) ∧ (L 12 = true → L 10 = true) ∧ (L 9 = true → L 10 = true → vq9 ≠ vq10)) := ⟨_, rfl⟩
      have HI := Lib.hid hI0; clear hI0
      refine wp_region_frame (by kernel_rfl) (by kernel_rfl) I (fun T0 hT0 => ⟨?start, ?step, ?fin⟩)
      case start =>
        rw [HI.out]
        exact ⟨T0.getD 15 undef, T0.getD 16 undef, T0.getD 17 undef, T0.getD 18 undef, T0.getD 19 undef, T0.getD 20 undef, T0.getD 14 undef, T0.getD 21 undef, T0.getD 22 undef, T0.getD 7 undef, T0.getD 8 undef, by (refine Eq.trans ?_ (congrArg (fun T => Act.mk T []) (sets_self [15, 16, 17, 18, 19, 20, 14, 21, 22, 7, 8] T0).symm)); rw [hT0], SA.drew, hbase, nofun, nofun, nofun, nofun, nofun, nofun, nofun, nofun, nofun, nofun, nofun, nofun, nofun, nofun⟩
      case step =>
        refine ⟨?_, ?_, ?_, ?_, ?_, ?_, ?_, ?_, ?_, ?_, ?_, ?_, ?_, trivial⟩
        · intro L act W hI hno hdep
          rw [HI.out] at hI
          obtain ⟨vq0, vq1, vq2, vq3, vq4, vq5, vq6, vq7, vq8, vq9, vq10, hact, hS, hsz, hq0, hq1, hq2, hq3, hq4, hq5, hq6, hq7, hq8, mq9, dq11_9, mq10, dq12_10, eq9_10⟩ := hI
          subst hact
          rw [hT0]; simp only [sets, List.setIfInBounds_toArray, List.set_cons_zero, List.set_cons_succ]
          with_reducible refine wp_wide (Operand.tmp 5) rfl (w.heap.size + 1) ?_ (high) (hS.get ja5) ?_
          · rfl
          rw [HI.out]
          exact ⟨wv (high), vq1, vq2, vq3, vq4, vq5, vq6, vq7, vq8, vq9, vq10, by simp only [sets, Act.put, List.setIfInBounds_toArray, List.set_cons_zero, List.set_cons_succ], hS, hsz, fun _ => rfl, keepI hq1 rfl, keepI hq2 rfl, keepI hq3 rfl, keepI hq4 rfl, keepI hq5 rfl, keepI hq6 rfl, keepI hq7 rfl, keepI hq8 rfl, fun h => by rw [also_of (by decide)] at h ⊢; exact mq9 h, keepD dq11_9 rfl, fun h => by rw [also_of (by decide)] at h ⊢; exact mq10 h, keepD dq12_10 rfl, fun h h' => eq9_10 (by rw [also_of (by decide)] at h; exact h) (by rw [also_of (by decide)] at h'; exact h')⟩
        · intro L act W hI hno hdep
          rw [HI.out] at hI
          obtain ⟨vq0, vq1, vq2, vq3, vq4, vq5, vq6, vq7, vq8, vq9, vq10, hact, hS, hsz, hq0, hq1, hq2, hq3, hq4, hq5, hq6, hq7, hq8, mq9, dq11_9, mq10, dq12_10, eq9_10⟩ := hI
          subst hact
          rw [hT0]; simp only [sets, List.setIfInBounds_toArray, List.set_cons_zero, List.set_cons_succ]
          go_simp
          rw [HI.out]
          exact ⟨vq0, rptr g, vq2, vq3, vq4, vq5, vq6, vq7, vq8, vq9, vq10, by simp only [sets, List.setIfInBounds_toArray, List.set_cons_zero, List.set_cons_succ], hS, hsz, keepI hq0 rfl, fun _ => rfl, keepI hq2 rfl, keepI hq3 rfl, keepI hq4 rfl, keepI hq5 rfl, keepI hq6 rfl, keepI hq7 rfl, keepI hq8 rfl, fun h => by rw [also_of (by decide)] at h ⊢; exact mq9 h, keepD dq11_9 rfl, fun h => by rw [also_of (by decide)] at h ⊢; exact mq10 h, keepD dq12_10 rfl, fun h h' => eq9_10 (by rw [also_of (by decide)] at h; exact h) (by rw [also_of (by decide)] at h'; exact h')⟩
        · intro L act W hI hno hdep
          rw [HI.out] at hI
          obtain ⟨vq0, vq1, vq2, vq3, vq4, vq5, vq6, vq7, vq8, vq9, vq10, hact, hS, hsz, hq0, hq1, hq2, hq3, hq4, hq5, hq6, hq7, hq8, mq9, dq11_9, mq10, dq12_10, eq9_10⟩ := hI
          subst hact
          obtain rfl := hq1 (hdep ⟨1, .data⟩ (by simp) rfl)
          rw [hT0]; simp only [sets, List.setIfInBounds_toArray, List.set_cons_zero, List.set_cons_succ]
          go_simp
          rw [HI.out]
          exact ⟨vq0, rptr g, rptr g, vq3, vq4, vq5, vq6, vq7, vq8, vq9, vq10, by simp only [sets, List.setIfInBounds_toArray, List.set_cons_zero, List.set_cons_succ], hS, hsz, keepI hq0 rfl, fun _ => rfl, fun _ => rfl, keepI hq3 rfl, keepI hq4 rfl, keepI hq5 rfl, keepI hq6 rfl, keepI hq7 rfl, keepI hq8 rfl, fun h => by rw [also_of (by decide)] at h ⊢; exact mq9 h, keepD dq11_9 rfl, fun h => by rw [also_of (by decide)] at h ⊢; exact mq10 h, keepD dq12_10 rfl, fun h h' => eq9_10 (by rw [also_of (by decide)] at h; exact h) (by rw [also_of (by decide)] at h'; exact h')⟩
        · intro L act W hI hno hdep
          rw [HI.out] at hI
          obtain ⟨vq0, vq1, vq2, vq3, vq4, vq5, vq6, vq7, vq8, vq9, vq10, hact, hS, hsz, hq0, hq1, hq2, hq3, hq4, hq5, hq6, hq7, hq8, mq9, dq11_9, mq10, dq12_10, eq9_10⟩ := hI
          subst hact
          obtain rfl := hq2 (hdep ⟨2, .data⟩ (by simp) rfl)
          rw [hT0]; simp only [sets, List.setIfInBounds_toArray, List.set_cons_zero, List.set_cons_succ]
          go_simp
          rw [HI.out]
          exact ⟨vq0, vq1, rptr g, .pointer (some ⟨g, 4, none⟩), vq4, vq5, vq6, vq7, vq8, vq9, vq10, by simp only [sets, List.setIfInBounds_toArray, List.set_cons_zero, List.set_cons_succ], hS, hsz, keepI hq0 rfl, keepI hq1 rfl, fun _ => rfl, fun _ => rfl, keepI hq4 rfl, keepI hq5 rfl, keepI hq6 rfl, keepI hq7 rfl, keepI hq8 rfl, fun h => by rw [also_of (by decide)] at h ⊢; exact mq9 h, keepD dq11_9 rfl, fun h => by rw [also_of (by decide)] at h ⊢; exact mq10 h, keepD dq12_10 rfl, fun h h' => eq9_10 (by rw [also_of (by decide)] at h; exact h) (by rw [also_of (by decide)] at h'; exact h')⟩
        · intro L act W hI hno hdep
          rw [HI.out] at hI
          obtain ⟨vq0, vq1, vq2, vq3, vq4, vq5, vq6, vq7, vq8, vq9, vq10, hact, hS, hsz, hq0, hq1, hq2, hq3, hq4, hq5, hq6, hq7, hq8, mq9, dq11_9, mq10, dq12_10, eq9_10⟩ := hI
          subst hact
          obtain rfl := hq3 (hdep ⟨3, .data⟩ (by simp) rfl)
          rw [hT0]; simp only [sets, List.setIfInBounds_toArray, List.set_cons_zero, List.set_cons_succ]
          with_reducible refine wp_part (Operand.tmp 18) rfl g 4 ?_ (GAP p) (ring_gap (hS.get jar)) ?_
          · rfl
          rw [HI.out]
          exact ⟨vq0, vq1, vq2, .pointer (some ⟨g, 4, none⟩), wv (GAP p), vq5, vq6, vq7, vq8, vq9, vq10, by simp only [sets, Act.put, List.setIfInBounds_toArray, List.set_cons_zero, List.set_cons_succ], hS, hsz, keepI hq0 rfl, keepI hq1 rfl, keepI hq2 rfl, fun _ => rfl, fun _ => rfl, keepI hq5 rfl, keepI hq6 rfl, keepI hq7 rfl, keepI hq8 rfl, fun h => by rw [also_of (by decide)] at h ⊢; exact mq9 h, keepD dq11_9 rfl, fun h => by rw [also_of (by decide)] at h ⊢; exact mq10 h, keepD dq12_10 rfl, fun h h' => eq9_10 (by rw [also_of (by decide)] at h; exact h) (by rw [also_of (by decide)] at h'; exact h')⟩
        · intro L act W hI hno hdep
          rw [HI.out] at hI
          obtain ⟨vq0, vq1, vq2, vq3, vq4, vq5, vq6, vq7, vq8, vq9, vq10, hact, hS, hsz, hq0, hq1, hq2, hq3, hq4, hq5, hq6, hq7, hq8, mq9, dq11_9, mq10, dq12_10, eq9_10⟩ := hI
          subst hact
          obtain rfl := hq0 (hdep ⟨0, .data⟩ (by simp) rfl)
          obtain rfl := hq4 (hdep ⟨4, .data⟩ (by simp) rfl)
          rw [hT0]; simp only [sets, List.setIfInBounds_toArray, List.set_cons_zero, List.set_cons_succ]
          go_simp
          refine (CM.out _).mono ?_
          rintro e W2 ⟨rfl, hb⟩
          have hsz2 := Nat.le_trans hsz hb.size
          rw [HI.out]
          exact ⟨wv (high), vq1, vq2, vq3, wv (GAP p), .tuple #[wv pl, wv ph], vq6, vq7, vq8, vq9, vq10, by simp only [sets, List.setIfInBounds_toArray, List.set_cons_zero, List.set_cons_succ], (hS.keep hb), hsz2, fun _ => rfl, keepI hq1 rfl, keepI hq2 rfl, keepI hq3 rfl, fun _ => rfl, fun _ => rfl, keepI hq6 rfl, keepI hq7 rfl, keepI hq8 rfl, fun h => by rw [also_of (by decide)] at h ⊢; exact (fun h => (mq9 h).keep hb) h, keepD dq11_9 rfl, fun h => by rw [also_of (by decide)] at h ⊢; exact (fun h => (mq10 h).keep hb) h, keepD dq12_10 rfl, fun h h' => eq9_10 (by rw [also_of (by decide)] at h; exact h) (by rw [also_of (by decide)] at h'; exact h')⟩
        · intro L act W hI hno hdep
          rw [HI.out] at hI
          obtain ⟨vq0, vq1, vq2, vq3, vq4, vq5, vq6, vq7, vq8, vq9, vq10, hact, hS, hsz, hq0, hq1, hq2, hq3, hq4, hq5, hq6, hq7, hq8, mq9, dq11_9, mq10, dq12_10, eq9_10⟩ := hI
          subst hact
          obtain rfl := hq5 (hdep ⟨5, .data⟩ (by simp) rfl)
          rw [hT0]; simp only [sets, List.setIfInBounds_toArray, List.set_cons_zero, List.set_cons_succ]
          go_simp
          rw [HI.out]
          exact ⟨vq0, vq1, vq2, vq3, vq4, .tuple #[wv pl, wv ph], .tuple #[wv pl, wv ph], vq7, vq8, vq9, vq10, by simp only [sets, List.setIfInBounds_toArray, List.set_cons_zero, List.set_cons_succ], hS, hsz, keepI hq0 rfl, keepI hq1 rfl, keepI hq2 rfl, keepI hq3 rfl, keepI hq4 rfl, fun _ => rfl, fun _ => rfl, keepI hq7 rfl, keepI hq8 rfl, fun h => by rw [also_of (by decide)] at h ⊢; exact mq9 h, keepD dq11_9 rfl, fun h => by rw [also_of (by decide)] at h ⊢; exact mq10 h, keepD dq12_10 rfl, fun h h' => eq9_10 (by rw [also_of (by decide)] at h; exact h) (by rw [also_of (by decide)] at h'; exact h')⟩
        · intro L act W hI hno hdep
          rw [HI.out] at hI
          obtain ⟨vq0, vq1, vq2, vq3, vq4, vq5, vq6, vq7, vq8, vq9, vq10, hact, hS, hsz, hq0, hq1, hq2, hq3, hq4, hq5, hq6, hq7, hq8, mq9, dq11_9, mq10, dq12_10, eq9_10⟩ := hI
          subst hact
          obtain rfl := hq6 (hdep ⟨6, .data⟩ (by simp) rfl)
          rw [hT0]; simp only [sets, List.setIfInBounds_toArray, List.set_cons_zero, List.set_cons_succ]
          go_simp
          rw [HI.out]
          exact ⟨vq0, vq1, vq2, vq3, vq4, vq5, .tuple #[wv pl, wv ph], wv pl, vq8, vq9, vq10, by simp only [sets, List.setIfInBounds_toArray, List.set_cons_zero, List.set_cons_succ], hS, hsz, keepI hq0 rfl, keepI hq1 rfl, keepI hq2 rfl, keepI hq3 rfl, keepI hq4 rfl, keepI hq5 rfl, fun _ => rfl, fun _ => rfl, keepI hq8 rfl, fun h => by rw [also_of (by decide)] at h ⊢; exact mq9 h, keepD dq11_9 rfl, fun h => by rw [also_of (by decide)] at h ⊢; exact mq10 h, keepD dq12_10 rfl, fun h h' => eq9_10 (by rw [also_of (by decide)] at h; exact h) (by rw [also_of (by decide)] at h'; exact h')⟩
        · intro L act W hI hno hdep
          rw [HI.out] at hI
          obtain ⟨vq0, vq1, vq2, vq3, vq4, vq5, vq6, vq7, vq8, vq9, vq10, hact, hS, hsz, hq0, hq1, hq2, hq3, hq4, hq5, hq6, hq7, hq8, mq9, dq11_9, mq10, dq12_10, eq9_10⟩ := hI
          subst hact
          obtain rfl := hq6 (hdep ⟨6, .data⟩ (by simp) rfl)
          rw [hT0]; simp only [sets, List.setIfInBounds_toArray, List.set_cons_zero, List.set_cons_succ]
          go_simp
          rw [HI.out]
          exact ⟨vq0, vq1, vq2, vq3, vq4, vq5, .tuple #[wv pl, wv ph], vq7, wv ph, vq9, vq10, by simp only [sets, List.setIfInBounds_toArray, List.set_cons_zero, List.set_cons_succ], hS, hsz, keepI hq0 rfl, keepI hq1 rfl, keepI hq2 rfl, keepI hq3 rfl, keepI hq4 rfl, keepI hq5 rfl, fun _ => rfl, keepI hq7 rfl, fun _ => rfl, fun h => by rw [also_of (by decide)] at h ⊢; exact mq9 h, keepD dq11_9 rfl, fun h => by rw [also_of (by decide)] at h ⊢; exact mq10 h, keepD dq12_10 rfl, fun h h' => eq9_10 (by rw [also_of (by decide)] at h; exact h) (by rw [also_of (by decide)] at h'; exact h')⟩
        · intro L act W hI hno hdep
          rw [HI.out] at hI
          obtain ⟨vq0, vq1, vq2, vq3, vq4, vq5, vq6, vq7, vq8, vq9, vq10, hact, hS, hsz, hq0, hq1, hq2, hq3, hq4, hq5, hq6, hq7, hq8, mq9, dq11_9, mq10, dq12_10, eq9_10⟩ := hI
          subst hact
          have hsF := noF dq11_9 hno
          rw [hT0]; simp only [sets, List.setIfInBounds_toArray, List.set_cons_zero, List.set_cons_succ]
          go_simp
          rw [HI.out]
          exact ⟨vq0, vq1, vq2, vq3, vq4, vq5, vq6, vq7, vq8, (.pointer (some ⟨W.heap.size, 0, none⟩)), vq10, by simp only [sets, List.setIfInBounds_toArray, List.set_cons_zero, List.set_cons_succ], (hS.alloc0 _), (by simp at *; omega), keepI hq0 rfl, keepI hq1 rfl, keepI hq2 rfl, keepI hq3 rfl, keepI hq4 rfl, keepI hq5 rfl, keepI hq6 rfl, keepI hq7 rfl, keepI hq8 rfl, fun _ => Made.new' W _ _ (by omega) _ _ (by simp [also, hsF]), keepD dq11_9 rfl, fun h => by rw [also_of (by decide)] at h ⊢; exact (fun h => (mq10 h).alloc _) h, keepD dq12_10 rfl, fun _ h e => (mq10 (by rw [also_of (by decide)] at h; exact h)).ne e.symm⟩
        · intro L act W hI hno hdep
          rw [HI.out] at hI
          obtain ⟨vq0, vq1, vq2, vq3, vq4, vq5, vq6, vq7, vq8, vq9, vq10, hact, hS, hsz, hq0, hq1, hq2, hq3, hq4, hq5, hq6, hq7, hq8, mq9, dq11_9, mq10, dq12_10, eq9_10⟩ := hI
          subst hact
          have hsF := noF dq12_10 hno
          rw [hT0]; simp only [sets, List.setIfInBounds_toArray, List.set_cons_zero, List.set_cons_succ]
          go_simp
          rw [HI.out]
          exact ⟨vq0, vq1, vq2, vq3, vq4, vq5, vq6, vq7, vq8, vq9, (.pointer (some ⟨W.heap.size, 0, none⟩)), by simp only [sets, List.setIfInBounds_toArray, List.set_cons_zero, List.set_cons_succ], (hS.alloc0 _), (by simp at *; omega), keepI hq0 rfl, keepI hq1 rfl, keepI hq2 rfl, keepI hq3 rfl, keepI hq4 rfl, keepI hq5 rfl, keepI hq6 rfl, keepI hq7 rfl, keepI hq8 rfl, fun h => by rw [also_of (by decide)] at h ⊢; exact (fun h => (mq9 h).alloc _) h, keepD dq11_9 rfl, fun _ => Made.new' W _ _ (by omega) _ _ (by simp [also, hsF]), keepD dq12_10 rfl, fun h _ e => (mq9 (by rw [also_of (by decide)] at h; exact h)).ne e⟩
        · intro L act W hI hno hdep
          rw [HI.out] at hI
          obtain ⟨vq0, vq1, vq2, vq3, vq4, vq5, vq6, vq7, vq8, vq9, vq10, hact, hS, hsz, hq0, hq1, hq2, hq3, hq4, hq5, hq6, hq7, hq8, mq9, dq11_9, mq10, dq12_10, eq9_10⟩ := hI
          subst hact
          obtain rfl := hq7 (hdep ⟨7, .data⟩ (by simp) rfl)
          rw [hT0]; simp only [sets, List.setIfInBounds_toArray, List.set_cons_zero, List.set_cons_succ]
          with_reducible refine wp_put_made (Operand.tmp 7) (Operand.tmp 21) rfl vq9 ?_ (pl) ?_ _ _ _ (mq9 (hdep ⟨9, .data⟩ (by simp) rfl)) hno ?_
          · rfl
          · rfl
          intro gx hgx hgn hg
          subst hgx
          rw [HI.out]
          exact ⟨vq0, vq1, vq2, vq3, vq4, vq5, vq6, wv pl, vq8, (.pointer (some ⟨gx, 0, none⟩)), vq10, by simp only [sets, Act.put, List.setIfInBounds_toArray, List.set_cons_zero, List.set_cons_succ], (hS.setRow (by omega) (fun p hp => Nat.ne_of_lt (Nat.lt_of_lt_of_le (hlow.out p hp) hgn)) _), (by simpa [World.setRow] using hsz), keepI hq0 rfl, keepI hq1 rfl, keepI hq2 rfl, keepI hq3 rfl, keepI hq4 rfl, keepI hq5 rfl, keepI hq6 rfl, fun _ => rfl, keepI hq8 rfl, fun _ => by rw [also_self]; exact Made.stored hg hgn _ _, fun _ => alsoD (hdep ⟨9, .data⟩ (by simp) rfl), fun h => by rw [also_of (by decide)] at h ⊢; exact (fun h => (mq10 h).other ((fun e => eq9_10 (hdep ⟨9, .phase⟩ (by simp) rfl) (hdep ⟨10, .phase⟩ (by simp) rfl) e.symm)) _) h, keepD dq12_10 rfl, fun h h' => eq9_10 (by rw [also_of (by decide)] at h; exact h) (by rw [also_of (by decide)] at h'; exact h')⟩
        · intro L act W hI hno hdep
          rw [HI.out] at hI
          obtain ⟨vq0, vq1, vq2, vq3, vq4, vq5, vq6, vq7, vq8, vq9, vq10, hact, hS, hsz, hq0, hq1, hq2, hq3, hq4, hq5, hq6, hq7, hq8, mq9, dq11_9, mq10, dq12_10, eq9_10⟩ := hI
          subst hact
          obtain rfl := hq8 (hdep ⟨8, .data⟩ (by simp) rfl)
          rw [hT0]; simp only [sets, List.setIfInBounds_toArray, List.set_cons_zero, List.set_cons_succ]
          with_reducible refine wp_put_made (Operand.tmp 8) (Operand.tmp 22) rfl vq10 ?_ (ph) ?_ _ _ _ (mq10 (hdep ⟨10, .data⟩ (by simp) rfl)) hno ?_
          · rfl
          · rfl
          intro gx hgx hgn hg
          subst hgx
          rw [HI.out]
          exact ⟨vq0, vq1, vq2, vq3, vq4, vq5, vq6, vq7, wv ph, vq9, (.pointer (some ⟨gx, 0, none⟩)), by simp only [sets, Act.put, List.setIfInBounds_toArray, List.set_cons_zero, List.set_cons_succ], (hS.setRow (by omega) (fun p hp => Nat.ne_of_lt (Nat.lt_of_lt_of_le (hlow.out p hp) hgn)) _), (by simpa [World.setRow] using hsz), keepI hq0 rfl, keepI hq1 rfl, keepI hq2 rfl, keepI hq3 rfl, keepI hq4 rfl, keepI hq5 rfl, keepI hq6 rfl, keepI hq7 rfl, fun _ => rfl, fun h => by rw [also_of (by decide)] at h ⊢; exact (fun h => (mq9 h).other (eq9_10 (hdep ⟨9, .phase⟩ (by simp) rfl) (hdep ⟨10, .phase⟩ (by simp) rfl)) _) h, keepD dq11_9 rfl, fun _ => by rw [also_self]; exact Made.stored hg hgn _ _, fun _ => alsoD (hdep ⟨10, .data⟩ (by simp) rfl), fun h h' => eq9_10 (by rw [also_of (by decide)] at h; exact h) (by rw [also_of (by decide)] at h'; exact h')⟩
      case fin =>
        intro L act W hall hI
        rw [HI.out] at hI
        obtain ⟨vq0, vq1, vq2, vq3, vq4, vq5, vq6, vq7, vq8, vq9, vq10, hact, hS, hsz, hq0, hq1, hq2, hq3, hq4, hq5, hq6, hq7, hq8, mq9, dq11_9, mq10, dq12_10, eq9_10⟩ := hI
        subst hact
        obtain rfl := hq0 (hall 0 (by decide))
        obtain rfl := hq1 (hall 1 (by decide))
        obtain rfl := hq2 (hall 2 (by decide))
        obtain rfl := hq3 (hall 3 (by decide))
        obtain rfl := hq4 (hall 4 (by decide))
        obtain rfl := hq5 (hall 5 (by decide))
        obtain rfl := hq6 (hall 6 (by decide))
        obtain rfl := hq7 (hall 7 (by decide))
        obtain rfl := hq8 (hall 8 (by decide))
        obtain ⟨g7, rfl, g7n, g7r⟩ := mq9 (hall 9 (by decide))
        rw [hall 11 (by decide)] at g7r
        have g7h := Lib.hid (show W.heap[g7]? = some (wrow (pl)) from g7r); clear g7r
        obtain ⟨g8, rfl, g8n, g8r⟩ := mq10 (hall 10 (by decide))
        rw [hall 12 (by decide)] at g8r
        have g8h := Lib.hid (show W.heap[g8]? = some (wrow (ph)) from g8r); clear g8r
        clear hq0 hq1 hq2 hq3 hq4 hq5 hq6 hq7 hq8 mq9 dq11_9 mq10 dq12_10 eq9_10 hall
        rw [hT0]; simp only [sets, List.setIfInBounds_toArray, List.set_cons_zero, List.set_cons_succ]
        clear hT0 HI
        obtain ⟨LX, hLX0⟩ : ∃ L, L = (g8, wrow ph) :: (g7, wrow pl) :: LA := ⟨_, rfl⟩
        have SX : St w LX W := by rw [hLX0]; exact (hS.cons g7h.out).cons g8h.out
        have jx4 : (w.heap.size, wrow low) ∈ LX := by rw [hLX0]; exact List.Mem.tail _ (List.Mem.tail _ ja4)
        have jx7 : (g7, wrow pl) ∈ LX := by rw [hLX0]; exact List.Mem.tail _ (List.Mem.head _)
        have jx8 : (g8, wrow ph) ∈ LX := by rw [hLX0]; exact List.Mem.head _
        have hAX : Hid (∀ q, q ∈ LA → q ∈ LX) := by rw [hLX0]; exact fun q hq => List.Mem.tail _ (List.Mem.tail _ hq)
        clear hLX0
        go_wp2_with (first | (refine wpList_wide rfl _ rfl _ rfl (SX) _ jx4 ?_) | (refine wpList_wide rfl _ rfl _ rfl (SX) _ jx7 ?_) | fail)
        refine (CA.out _).mono ?_
        rintro e W5 ⟨rfl, hb⟩
        have S5 := (SX.keep hb).alloc (wrow s) (W5.heap.size) rfl
        have h5z : Hid (w.heap.size + 3 ≤ W5.heap.size) := Nat.le_trans hsz hb.size
        have hW5 : Hid (W.heap.size ≤ W5.heap.size) := hb.size
        clear hb
        obtain ⟨LC0, hLC00'⟩ : ∃ L, L = (W5.heap.size, wrow s) :: LR := ⟨_, rfl⟩
        obtain ⟨LB, hLB0⟩ : ∃ L, L = (W5.heap.size, wrow s) :: (w.heap.size + 1, wrow high) :: (w.heap.size, wrow low) :: LR := ⟨_, rfl⟩
        have SBx : St w LB (W5.alloc (wrow s)) := by
          rw [hLB0]
          exact S5.drop (fun q hq => by
            rcases List.mem_cons.1 hq with rfl | hq
            · exact List.Mem.head _
            · refine List.Mem.tail _ (hAX.out q ?_)
              rcases List.mem_cons.1 hq with rfl | hq
              · exact ja5
              · rcases List.mem_cons.1 hq with rfl | hq
                · exact ja4
                · exact hRA.out q hq)
        have G8 := Lib.hid (S5.get (List.Mem.tail _ jx8))
        have hg8lt : Hid (g8 < W5.heap.size) := Nat.lt_of_lt_of_le (lt_of_block (SX.get jx8)) hW5.out
        have hg8 : w.heap.size + 3 ≤ g8 := g8n
        have jb9 : (W5.heap.size, wrow s) ∈ LB := by rw [hLB0]; exact List.Mem.head _
        have jb5 : (w.heap.size + 1, wrow high) ∈ LB := by rw [hLB0]; exact List.Mem.tail _ (List.Mem.head _)
        have jb4 : (w.heap.size, wrow low) ∈ LB := by rw [hLB0]; exact List.Mem.tail _ (List.Mem.tail _ (List.Mem.head _))
        have jc9 : (W5.heap.size, wrow s) ∈ LC0 := by rw [hLC00']; exact List.Mem.head _
        have hRC : Hid (∀ q, q ∈ LR → q ∈ LC0) := by rw [hLC00']; exact fun q hq => List.Mem.tail _ hq
        have hCB : Hid (∀ q, q ∈ LC0 → q ∈ LB) := by
          rw [hLC00', hLB0]; intro q hq; rcases List.mem_cons.1 hq with rfl | hq
          · exact List.Mem.head _
          · exact List.Mem.tail _ (List.Mem.tail _ (List.Mem.tail _ hq))
        have hLC00 : Hid (∀ q, q ∈ LC0 → q.1 ≠ w.heap.size ∧ q.1 ≠ w.heap.size + 1) := by
          rw [hLC00']; intro q hq; have h5 := h5z.out; rcases List.mem_cons.1 hq with rfl | hq
          · exact ⟨by show W5.heap.size ≠ _; omega, by show W5.heap.size ≠ _; omega⟩
          · exact ⟨(hLR.out q hq).1, (hLR.out q hq).2.1⟩
        have hLB : Hid (∀ q, q ∈ LB → q.1 ≠ g8) := by
          rw [hLB0]; intro q hq; have h8 := hg8lt.out
          rcases List.mem_cons.1 hq with rfl | hq
          · show W5.heap.size ≠ g8; omega
          · rcases List.mem_cons.1 hq with rfl | hq
            · show w.heap.size + 1 ≠ g8; omega
            · rcases List.mem_cons.1 hq with rfl | hq
              · show w.heap.size ≠ g8; omega
              · have := (hLR.out q hq).2.2; omega
        clear hLC00' hLB0
        cases m with
        | true =>
          have CN := Lib.hid (fun W => add_n ph 1 (Nat.lt_trans FD.out.2.1 (gap_lt p)) (by decide) h2 false (by
            have h1 := FD.out.2.1; have h3 := gap_small p; have h4 : W256 = 115792089237316195423570985008687907853269984665640564039457584007913129639936 := by decide +kernel
            rw [HH2.out]; simp only [if_true]; exact Nat.mod_eq_of_lt (by omega)) (by
            have h1 := FD.out.2.1; have h3 := gap_small p; have h4 : W256 = 115792089237316195423570985008687907853269984665640564039457584007913129639936 := by decide +kernel
            simp; omega) W)
          have SB := SBx
          go_wp2_with fail
          obtain ⟨I, hI0⟩ : ∃ I : Array Value → (Nat → Bool) → Act → World → Prop, I = (fun T0 L act W => ∃ vq0 vq1 vq2 vq3 vq4 vq5, act = ⟨sets T0 [(31, vq0), (32, vq1), (33, vq2), (30, vq3), (34, vq4), (35, vq5)], []⟩ ∧ St w LB W ∧ (L 0 = true → vq0 = wv (ph)) ∧ (L 1 = true → vq1 = wv 1) ∧ (L 2 = true → vq2 = .tuple #[wv h2, .bool false]) ∧ (L 3 = true → vq3 = .tuple #[wv h2, .bool false]) ∧ (L 4 = true → vq4 = wv h2) ∧ (L 5 = true → vq5 = .bool false) ∧ (L 6 = false → W.heap[g8]? = some (wrow ph)) ∧ (L 6 = true → W.heap[g8]? = some (wrow h2)) ∧ (L 6 = true → L 0 = true)) := ⟨_, rfl⟩
          have HI := Lib.hid hI0; clear hI0
          refine wp_region_frame (by kernel_rfl) (by kernel_rfl) I (fun T0 hT0 => ⟨?start, ?step, ?fin⟩)
          case start =>
            rw [HI.out]
            exact ⟨T0.getD 31 undef, T0.getD 32 undef, T0.getD 33 undef, T0.getD 30 undef, T0.getD 34 undef, T0.getD 35 undef, by (refine Eq.trans ?_ (congrArg (fun T => Act.mk T []) (sets_self [31, 32, 33, 30, 34, 35] T0).symm)); rw [hT0], SB.drew, nofun, nofun, nofun, nofun, nofun, nofun, fun _ => G8.out, nofun, nofun⟩
          case step =>
            refine ⟨?_, ?_, ?_, ?_, ?_, ?_, ?_, trivial⟩
            · intro L act W hI hno hdep
              rw [HI.out] at hI
              obtain ⟨vq0, vq1, vq2, vq3, vq4, vq5, hact, hS, hq0, hq1, hq2, hq3, hq4, hq5, oq6, nq6, dq6_0⟩ := hI
              subst hact
              rw [hT0]; simp only [sets, List.setIfInBounds_toArray, List.set_cons_zero, List.set_cons_succ]
              with_reducible refine wp_wide (Operand.tmp 8) rfl g8 ?_ (ph) (oq6 (noF dq6_0 hno)) ?_
              · rfl
              rw [HI.out]
              exact ⟨wv (ph), vq1, vq2, vq3, vq4, vq5, by simp only [sets, Act.put, List.setIfInBounds_toArray, List.set_cons_zero, List.set_cons_succ], hS, fun _ => rfl, keepI hq1 rfl, keepI hq2 rfl, keepI hq3 rfl, keepI hq4 rfl, keepI hq5 rfl, keepF oq6, keepI nq6 rfl, keepD dq6_0 rfl⟩
            · intro L act W hI hno hdep
              rw [HI.out] at hI
              obtain ⟨vq0, vq1, vq2, vq3, vq4, vq5, hact, hS, hq0, hq1, hq2, hq3, hq4, hq5, oq6, nq6, dq6_0⟩ := hI
              subst hact
              rw [hT0]; simp only [sets, List.setIfInBounds_toArray, List.set_cons_zero, List.set_cons_succ]
              go_simp
              refine (CO.out _).mono ?_
              rintro e W2 ⟨rfl, hb⟩
              rw [HI.out]
              exact ⟨vq0, wv 1, vq2, vq3, vq4, vq5, by simp only [sets, List.setIfInBounds_toArray, List.set_cons_zero, List.set_cons_succ], (hS.keep hb), keepI hq0 rfl, fun _ => rfl, keepI hq2 rfl, keepI hq3 rfl, keepI hq4 rfl, keepI hq5 rfl, keepF (fun h => keepH hb (oq6 h)), keepI (fun h => keepH hb (nq6 h)) rfl, keepD dq6_0 rfl⟩
            · intro L act W hI hno hdep
              rw [HI.out] at hI
              obtain ⟨vq0, vq1, vq2, vq3, vq4, vq5, hact, hS, hq0, hq1, hq2, hq3, hq4, hq5, oq6, nq6, dq6_0⟩ := hI
              subst hact
              obtain rfl := hq0 (hdep ⟨0, .data⟩ (by simp) rfl)
              obtain rfl := hq1 (hdep ⟨1, .data⟩ (by simp) rfl)
              rw [hT0]; simp only [sets, List.setIfInBounds_toArray, List.set_cons_zero, List.set_cons_succ]
              go_simp
              refine (CN.out _).mono ?_
              rintro e W2 ⟨rfl, hb⟩
              rw [HI.out]
              exact ⟨wv (ph), wv 1, .tuple #[wv h2, .bool false], vq3, vq4, vq5, by simp only [sets, List.setIfInBounds_toArray, List.set_cons_zero, List.set_cons_succ], (hS.keep hb), fun _ => rfl, fun _ => rfl, fun _ => rfl, keepI hq3 rfl, keepI hq4 rfl, keepI hq5 rfl, keepF (fun h => keepH hb (oq6 h)), keepI (fun h => keepH hb (nq6 h)) rfl, keepD dq6_0 rfl⟩
            · intro L act W hI hno hdep
              rw [HI.out] at hI
              obtain ⟨vq0, vq1, vq2, vq3, vq4, vq5, hact, hS, hq0, hq1, hq2, hq3, hq4, hq5, oq6, nq6, dq6_0⟩ := hI
              subst hact
              obtain rfl := hq2 (hdep ⟨2, .data⟩ (by simp) rfl)
              rw [hT0]; simp only [sets, List.setIfInBounds_toArray, List.set_cons_zero, List.set_cons_succ]
              go_simp
              rw [HI.out]
              exact ⟨vq0, vq1, .tuple #[wv h2, .bool false], .tuple #[wv h2, .bool false], vq4, vq5, by simp only [sets, List.setIfInBounds_toArray, List.set_cons_zero, List.set_cons_succ], hS, keepI hq0 rfl, keepI hq1 rfl, fun _ => rfl, fun _ => rfl, keepI hq4 rfl, keepI hq5 rfl, keepF oq6, keepI nq6 rfl, keepD dq6_0 rfl⟩
            · intro L act W hI hno hdep
              rw [HI.out] at hI
              obtain ⟨vq0, vq1, vq2, vq3, vq4, vq5, hact, hS, hq0, hq1, hq2, hq3, hq4, hq5, oq6, nq6, dq6_0⟩ := hI
              subst hact
              obtain rfl := hq3 (hdep ⟨3, .data⟩ (by simp) rfl)
              rw [hT0]; simp only [sets, List.setIfInBounds_toArray, List.set_cons_zero, List.set_cons_succ]
              go_simp
              rw [HI.out]
              exact ⟨vq0, vq1, vq2, .tuple #[wv h2, .bool false], wv h2, vq5, by simp only [sets, List.setIfInBounds_toArray, List.set_cons_zero, List.set_cons_succ], hS, keepI hq0 rfl, keepI hq1 rfl, keepI hq2 rfl, fun _ => rfl, fun _ => rfl, keepI hq5 rfl, keepF oq6, keepI nq6 rfl, keepD dq6_0 rfl⟩
            · intro L act W hI hno hdep
              rw [HI.out] at hI
              obtain ⟨vq0, vq1, vq2, vq3, vq4, vq5, hact, hS, hq0, hq1, hq2, hq3, hq4, hq5, oq6, nq6, dq6_0⟩ := hI
              subst hact
              obtain rfl := hq3 (hdep ⟨3, .data⟩ (by simp) rfl)
              rw [hT0]; simp only [sets, List.setIfInBounds_toArray, List.set_cons_zero, List.set_cons_succ]
              go_simp
              rw [HI.out]
              exact ⟨vq0, vq1, vq2, .tuple #[wv h2, .bool false], vq4, .bool false, by simp only [sets, List.setIfInBounds_toArray, List.set_cons_zero, List.set_cons_succ], hS, keepI hq0 rfl, keepI hq1 rfl, keepI hq2 rfl, fun _ => rfl, keepI hq4 rfl, fun _ => rfl, keepF oq6, keepI nq6 rfl, keepD dq6_0 rfl⟩
            · intro L act W hI hno hdep
              rw [HI.out] at hI
              obtain ⟨vq0, vq1, vq2, vq3, vq4, vq5, hact, hS, hq0, hq1, hq2, hq3, hq4, hq5, oq6, nq6, dq6_0⟩ := hI
              subst hact
              obtain rfl := hq4 (hdep ⟨4, .data⟩ (by simp) rfl)
              have hg := oq6 hno
              rw [hT0]; simp only [sets, List.setIfInBounds_toArray, List.set_cons_zero, List.set_cons_succ]
              with_reducible refine wp_put (Operand.tmp 8) (Operand.tmp 34) rfl g8 ?_ (h2) (ph) ?_ hg ?_
              · rfl
              · rfl
              rw [HI.out]
              exact ⟨vq0, vq1, vq2, vq3, wv h2, vq5, by simp only [sets, Act.put, List.setIfInBounds_toArray, List.set_cons_zero, List.set_cons_succ], (hS.setRow (by omega) (fun q hq => hLB.out q hq) _), keepI hq0 rfl, keepI hq1 rfl, keepI hq2 rfl, keepI hq3 rfl, fun _ => rfl, keepI hq5 rfl, alsoF, fun _ => setRow_heap W _ _ _ _ _ hg, fun _ => alsoD (hdep ⟨0, .phase⟩ (by simp) rfl)⟩
          case fin =>
            intro L act W hall hI
            rw [HI.out] at hI
            obtain ⟨vq0, vq1, vq2, vq3, vq4, vq5, hact, hS, hq0, hq1, hq2, hq3, hq4, hq5, oq6, nq6, dq6_0⟩ := hI
            subst hact
            obtain rfl := hq0 (hall 0 (by decide))
            obtain rfl := hq1 (hall 1 (by decide))
            obtain rfl := hq2 (hall 2 (by decide))
            obtain rfl := hq3 (hall 3 (by decide))
            obtain rfl := hq4 (hall 4 (by decide))
            obtain rfl := hq5 (hall 5 (by decide))
            have tbh := Lib.hid (nq6 (hall 6 (by decide)))
            clear hq0 hq1 hq2 hq3 hq4 hq5 oq6 nq6 dq6_0 hall
            rw [hT0]; simp only [sets, List.setIfInBounds_toArray, List.set_cons_zero, List.set_cons_succ]
            clear hT0 HI
            have SD := hS.cons tbh.out
            obtain ⟨LC, hLC0⟩ : ∃ L, L = (g8, wrow h2) :: LC0 := ⟨_, rfl⟩
            have SC : St w LC W := by rw [hLC0]; exact (SD.drop (by intro q hq; rcases List.mem_cons.1 hq with rfl | hq; exact List.Mem.head _; exact List.Mem.tail _ (hCB.out q hq)))
            have C4 := Lib.hid (hS.get jb4)
            have C5 := Lib.hid (hS.get jb5)
            have c9 : (W5.heap.size, wrow s) ∈ LC := by rw [hLC0]; exact List.Mem.tail _ jc9
            have c8 : (g8, wrow h2) ∈ LC := by rw [hLC0]; exact List.Mem.head _
            have hLC : Hid (∀ q, q ∈ LC → q.1 ≠ w.heap.size ∧ q.1 ≠ w.heap.size + 1) := by
              rw [hLC0]; intro q hq; rcases List.mem_cons.1 hq with rfl | hq
              · exact ⟨by show g8 ≠ _; omega, by show g8 ≠ _; omega⟩
              · exact hLC00.out q hq
            have hLRC : Hid (∀ q, q ∈ LR → q ∈ LC) := by rw [hLC0]; exact fun q hq => List.Mem.tail _ (hRC.out q hq)
            clear hLC0
            go_wp2_with fail
            obtain ⟨I, hI0⟩ : ∃ I : Array Value → (Nat → Bool) → Act → World → Prop, I = (fun T0 L act W => ∃ vq0 vq1, act = ⟨sets T0 [(36, vq0), (37, vq1)], []⟩ ∧ St w LC W ∧ (L 0 = true → vq0 = wv (s)) ∧ (L 1 = true → vq1 = wv (h2)) ∧ (L 2 = false → W.heap[w.heap.size]? = some (wrow low)) ∧ (L 2 = true → W.heap[w.heap.size]? = some (wrow s)) ∧ (L 3 = false → W.heap[(w.heap.size + 1)]? = some (wrow high)) ∧ (L 3 = true → W.heap[(w.heap.size + 1)]? = some (wrow h2))) := ⟨_, rfl⟩
            have HI := Lib.hid hI0; clear hI0
            refine wp_region_frame (by kernel_rfl) (by kernel_rfl) I (fun T0 hT0 => ⟨?start, ?step, ?fin⟩)
            case start =>
              rw [HI.out]
              exact ⟨T0.getD 36 undef, T0.getD 37 undef, by (refine Eq.trans ?_ (congrArg (fun T => Act.mk T []) (sets_self [36, 37] T0).symm)); rw [hT0], SC.drew, nofun, nofun, fun _ => C4.out, nofun, fun _ => C5.out, nofun⟩
            case step =>
              refine ⟨?_, ?_, ?_, ?_, trivial⟩
              · intro L act W hI hno hdep
                rw [HI.out] at hI
                obtain ⟨vq0, vq1, hact, hS, hq0, hq1, oq2, nq2, oq3, nq3⟩ := hI
                subst hact
                rw [hT0]; simp only [sets, List.setIfInBounds_toArray, List.set_cons_zero, List.set_cons_succ]
                with_reducible refine wp_wide (Operand.tmp 9) rfl W5.heap.size ?_ (s) (hS.get c9) ?_
                · rfl
                rw [HI.out]
                exact ⟨wv (s), vq1, by simp only [sets, Act.put, List.setIfInBounds_toArray, List.set_cons_zero, List.set_cons_succ], hS, fun _ => rfl, keepI hq1 rfl, keepF oq2, keepI nq2 rfl, keepF oq3, keepI nq3 rfl⟩
              · intro L act W hI hno hdep
                rw [HI.out] at hI
                obtain ⟨vq0, vq1, hact, hS, hq0, hq1, oq2, nq2, oq3, nq3⟩ := hI
                subst hact
                rw [hT0]; simp only [sets, List.setIfInBounds_toArray, List.set_cons_zero, List.set_cons_succ]
                with_reducible refine wp_wide (Operand.tmp 8) rfl g8 ?_ (h2) (hS.get c8) ?_
                · rfl
                rw [HI.out]
                exact ⟨vq0, wv (h2), by simp only [sets, Act.put, List.setIfInBounds_toArray, List.set_cons_zero, List.set_cons_succ], hS, keepI hq0 rfl, fun _ => rfl, keepF oq2, keepI nq2 rfl, keepF oq3, keepI nq3 rfl⟩
              · intro L act W hI hno hdep
                rw [HI.out] at hI
                obtain ⟨vq0, vq1, hact, hS, hq0, hq1, oq2, nq2, oq3, nq3⟩ := hI
                subst hact
                obtain rfl := hq0 (hdep ⟨0, .data⟩ (by simp) rfl)
                have hg := oq2 hno
                rw [hT0]; simp only [sets, List.setIfInBounds_toArray, List.set_cons_zero, List.set_cons_succ]
                with_reducible refine wp_put (Operand.tmp 4) (Operand.tmp 36) rfl w.heap.size ?_ (s) (low) ?_ hg ?_
                · rfl
                · rfl
                rw [HI.out]
                exact ⟨wv (s), vq1, by simp only [sets, Act.put, List.setIfInBounds_toArray, List.set_cons_zero, List.set_cons_succ], (hS.setRow (Nat.le_refl _) (fun q hq => (hLC.out q hq).1) _), fun _ => rfl, keepI hq1 rfl, alsoF, fun _ => setRow_heap W _ _ _ _ _ hg, keepF (fun h => (setRow_other _ _ _ _ (by omega)).trans (oq3 h)), keepI (fun h => (setRow_other _ _ _ _ (by omega)).trans (nq3 h)) rfl⟩
              · intro L act W hI hno hdep
                rw [HI.out] at hI
                obtain ⟨vq0, vq1, hact, hS, hq0, hq1, oq2, nq2, oq3, nq3⟩ := hI
                subst hact
                obtain rfl := hq1 (hdep ⟨1, .data⟩ (by simp) rfl)
                have hg := oq3 hno
                rw [hT0]; simp only [sets, List.setIfInBounds_toArray, List.set_cons_zero, List.set_cons_succ]
                with_reducible refine wp_put (Operand.tmp 5) (Operand.tmp 37) rfl (w.heap.size + 1) ?_ (h2) (high) ?_ hg ?_
                · rfl
                · rfl
                rw [HI.out]
                exact ⟨vq0, wv (h2), by simp only [sets, Act.put, List.setIfInBounds_toArray, List.set_cons_zero, List.set_cons_succ], (hS.setRow (by omega) (fun q hq => (hLC.out q hq).2) _), keepI hq0 rfl, fun _ => rfl, keepF (fun h => (setRow_other _ _ _ _ (by omega)).trans (oq2 h)), keepI (fun h => (setRow_other _ _ _ _ (by omega)).trans (nq2 h)) rfl, alsoF, fun _ => setRow_heap W _ _ _ _ _ hg⟩
            case fin =>
              intro L act W hall hI
              rw [HI.out] at hI
              obtain ⟨vq0, vq1, hact, hS, hq0, hq1, oq2, nq2, oq3, nq3⟩ := hI
              subst hact
              obtain rfl := hq0 (hall 0 (by decide))
              obtain rfl := hq1 (hall 1 (by decide))
              have tah := Lib.hid (nq2 (hall 2 (by decide)))
              have tbh := Lib.hid (nq3 (hall 3 (by decide)))
              clear hq0 hq1 oq2 nq2 oq3 nq3 hall
              rw [hT0]; simp only [sets, List.setIfInBounds_toArray, List.set_cons_zero, List.set_cons_succ]
              clear hT0 HI
              have FI : Hid (FoldInv w p LR t (s + W256 * h2) s h2 W) := ⟨hS.drop hLRC.out, tah.out, tbh.out, FD.out.1, FD.out.2.2.1, FD.out.2.2.2.2.1.trans HJ.out.rest, rfl⟩
              go_wp2_with fail
              go_roundg (s + W256 * h2)
              case measure => have := FD.out.2.2.2.2.2; have := HJ.out.ghost; omega
              case rel => exact ⟨s, h2, FI⟩
        | false =>
          obtain rfl : h2 = ph := by have := HH2.out; simpa using this
          obtain ⟨LC, hLC0⟩ : ∃ L, L = (g8, wrow h2) :: LC0 := ⟨_, rfl⟩
          have SC : St w LC (W5.alloc (wrow s)) := by rw [hLC0]; exact ((SBx.cons G8.out).drop (by intro q hq; rcases List.mem_cons.1 hq with rfl | hq; exact List.Mem.head _; exact List.Mem.tail _ (hCB.out q hq)))
          have C4 := Lib.hid (SBx.get jb4)
          have C5 := Lib.hid (SBx.get jb5)
          have c9 : (W5.heap.size, wrow s) ∈ LC := by rw [hLC0]; exact List.Mem.tail _ jc9
          have c8 : (g8, wrow h2) ∈ LC := by rw [hLC0]; exact List.Mem.head _
          have hLC : Hid (∀ q, q ∈ LC → q.1 ≠ w.heap.size ∧ q.1 ≠ w.heap.size + 1) := by
            rw [hLC0]; intro q hq; rcases List.mem_cons.1 hq with rfl | hq
            · exact ⟨by show g8 ≠ _; omega, by show g8 ≠ _; omega⟩
            · exact hLC00.out q hq
          have hLRC : Hid (∀ q, q ∈ LR → q ∈ LC) := by rw [hLC0]; exact fun q hq => List.Mem.tail _ (hRC.out q hq)
          clear hLC0
          go_wp2_with fail
          obtain ⟨I, hI0⟩ : ∃ I : Array Value → (Nat → Bool) → Act → World → Prop, I = (fun T0 L act W => ∃ vq0 vq1, act = ⟨sets T0 [(36, vq0), (37, vq1)], []⟩ ∧ St w LC W ∧ (L 0 = true → vq0 = wv (s)) ∧ (L 1 = true → vq1 = wv (h2)) ∧ (L 2 = false → W.heap[w.heap.size]? = some (wrow low)) ∧ (L 2 = true → W.heap[w.heap.size]? = some (wrow s)) ∧ (L 3 = false → W.heap[(w.heap.size + 1)]? = some (wrow high)) ∧ (L 3 = true → W.heap[(w.heap.size + 1)]? = some (wrow h2))) := ⟨_, rfl⟩
          have HI := Lib.hid hI0; clear hI0
          refine wp_region_frame (by kernel_rfl) (by kernel_rfl) I (fun T0 hT0 => ⟨?start, ?step, ?fin⟩)
          case start =>
            rw [HI.out]
            exact ⟨T0.getD 36 undef, T0.getD 37 undef, by (refine Eq.trans ?_ (congrArg (fun T => Act.mk T []) (sets_self [36, 37] T0).symm)); rw [hT0], SC.drew, nofun, nofun, fun _ => C4.out, nofun, fun _ => C5.out, nofun⟩
          case step =>
            refine ⟨?_, ?_, ?_, ?_, trivial⟩
            · intro L act W hI hno hdep
              rw [HI.out] at hI
              obtain ⟨vq0, vq1, hact, hS, hq0, hq1, oq2, nq2, oq3, nq3⟩ := hI
              subst hact
              rw [hT0]; simp only [sets, List.setIfInBounds_toArray, List.set_cons_zero, List.set_cons_succ]
              with_reducible refine wp_wide (Operand.tmp 9) rfl W5.heap.size ?_ (s) (hS.get c9) ?_
              · rfl
              rw [HI.out]
              exact ⟨wv (s), vq1, by simp only [sets, Act.put, List.setIfInBounds_toArray, List.set_cons_zero, List.set_cons_succ], hS, fun _ => rfl, keepI hq1 rfl, keepF oq2, keepI nq2 rfl, keepF oq3, keepI nq3 rfl⟩
            · intro L act W hI hno hdep
              rw [HI.out] at hI
              obtain ⟨vq0, vq1, hact, hS, hq0, hq1, oq2, nq2, oq3, nq3⟩ := hI
              subst hact
              rw [hT0]; simp only [sets, List.setIfInBounds_toArray, List.set_cons_zero, List.set_cons_succ]
              with_reducible refine wp_wide (Operand.tmp 8) rfl g8 ?_ (h2) (hS.get c8) ?_
              · rfl
              rw [HI.out]
              exact ⟨vq0, wv (h2), by simp only [sets, Act.put, List.setIfInBounds_toArray, List.set_cons_zero, List.set_cons_succ], hS, keepI hq0 rfl, fun _ => rfl, keepF oq2, keepI nq2 rfl, keepF oq3, keepI nq3 rfl⟩
            · intro L act W hI hno hdep
              rw [HI.out] at hI
              obtain ⟨vq0, vq1, hact, hS, hq0, hq1, oq2, nq2, oq3, nq3⟩ := hI
              subst hact
              obtain rfl := hq0 (hdep ⟨0, .data⟩ (by simp) rfl)
              have hg := oq2 hno
              rw [hT0]; simp only [sets, List.setIfInBounds_toArray, List.set_cons_zero, List.set_cons_succ]
              with_reducible refine wp_put (Operand.tmp 4) (Operand.tmp 36) rfl w.heap.size ?_ (s) (low) ?_ hg ?_
              · rfl
              · rfl
              rw [HI.out]
              exact ⟨wv (s), vq1, by simp only [sets, Act.put, List.setIfInBounds_toArray, List.set_cons_zero, List.set_cons_succ], (hS.setRow (Nat.le_refl _) (fun q hq => (hLC.out q hq).1) _), fun _ => rfl, keepI hq1 rfl, alsoF, fun _ => setRow_heap W _ _ _ _ _ hg, keepF (fun h => (setRow_other _ _ _ _ (by omega)).trans (oq3 h)), keepI (fun h => (setRow_other _ _ _ _ (by omega)).trans (nq3 h)) rfl⟩
            · intro L act W hI hno hdep
              rw [HI.out] at hI
              obtain ⟨vq0, vq1, hact, hS, hq0, hq1, oq2, nq2, oq3, nq3⟩ := hI
              subst hact
              obtain rfl := hq1 (hdep ⟨1, .data⟩ (by simp) rfl)
              have hg := oq3 hno
              rw [hT0]; simp only [sets, List.setIfInBounds_toArray, List.set_cons_zero, List.set_cons_succ]
              with_reducible refine wp_put (Operand.tmp 5) (Operand.tmp 37) rfl (w.heap.size + 1) ?_ (h2) (high) ?_ hg ?_
              · rfl
              · rfl
              rw [HI.out]
              exact ⟨vq0, wv (h2), by simp only [sets, Act.put, List.setIfInBounds_toArray, List.set_cons_zero, List.set_cons_succ], (hS.setRow (by omega) (fun q hq => (hLC.out q hq).2) _), keepI hq0 rfl, fun _ => rfl, keepF (fun h => (setRow_other _ _ _ _ (by omega)).trans (oq2 h)), keepI (fun h => (setRow_other _ _ _ _ (by omega)).trans (nq2 h)) rfl, alsoF, fun _ => setRow_heap W _ _ _ _ _ hg⟩
          case fin =>
            intro L act W hall hI
            rw [HI.out] at hI
            obtain ⟨vq0, vq1, hact, hS, hq0, hq1, oq2, nq2, oq3, nq3⟩ := hI
            subst hact
            obtain rfl := hq0 (hall 0 (by decide))
            obtain rfl := hq1 (hall 1 (by decide))
            have tah := Lib.hid (nq2 (hall 2 (by decide)))
            have tbh := Lib.hid (nq3 (hall 3 (by decide)))
            clear hq0 hq1 oq2 nq2 oq3 nq3 hall
            rw [hT0]; simp only [sets, List.setIfInBounds_toArray, List.set_cons_zero, List.set_cons_succ]
            clear hT0 HI
            have FI : Hid (FoldInv w p LR t (s + W256 * h2) s h2 W) := ⟨hS.drop hLRC.out, tah.out, tbh.out, FD.out.1, FD.out.2.2.1, FD.out.2.2.2.2.1.trans HJ.out.rest, rfl⟩
            go_wp2_with fail
            go_roundg (s + W256 * h2)
            case measure => have := FD.out.2.2.2.2.2; have := HJ.out.ghost; omega
            case rel => exact ⟨s, h2, FI⟩
end Go.Proofs.Ytbaifchbpnmkpaa
namespace Go.Proofs.Ytbaifchbpnmkpaa
open Go.RowKit
set_option maxRecDepth 100000 in
set_option maxHeartbeats 4000000 in
theorem mul_rc (g a b : Nat) (p : Bool) (ha : a < W256) (hb : b < W256) (w : World) (hr : w.heap[g]? = some (rrow p)) :
    Calls Try.prog 62 #[rptr g, wv a, wv b] w fun e w' => e = .returned (wv (a * b % PRM p)) ∧ Below w.heap.size w w' := by
  have R0 := Lib.hid hr
  have HA := Lib.hid ha; have HB := Lib.hid hb
  obtain ⟨l, hl⟩ : ∃ x, a * b % W256 = x := ⟨_, rfl⟩
  obtain ⟨h, hh⟩ : ∃ x, a * b / W256 = x := ⟨_, rfl⟩
  have CM := Lib.hid (fun W => mul_n a b ha hb l h hl hh W)
  have CF := Lib.hid (fun W hW => fold_c g l h p (by rw [← hl]; exact Nat.mod_lt _ (by decide)) (by rw [← hh]; exact Nat.div_lt_of_lt_mul (Nat.mul_lt_mul'' ha hb)) W hW)
  have HE : Hid (l + W256 * h = a * b) := by rw [← hl, ← hh]; exact Nat.mod_add_div _ _
  rw [HE.out] at CF
  clear hr ha hb hl hh
  go_enter Try.func62, Try.ntmps62
  have S0 := (((((St.nil w).cons R0.out)).alloc (wrow (a)) (w.heap.size) rfl).alloc (wrow (b)) (w.heap.size + 1) (by simp)).alloc (wrow (0)) (w.heap.size + 1 + 1) (by simp)
  obtain ⟨L0, hL0⟩ : ∃ L, L = [(w.heap.size + 1 + 1, wrow (0)), (w.heap.size + 1, wrow (b)), (w.heap.size, wrow (a)), (g, rrow p)] := ⟨_, rfl⟩
  rw [← hL0] at S0
  have mv0 : (w.heap.size, wrow (a)) ∈ L0 := by rw [hL0]; exact (List.Mem.tail _ (List.Mem.tail _ (List.Mem.head _)))
  have mv1 : (w.heap.size + 1, wrow (b)) ∈ L0 := by rw [hL0]; exact (List.Mem.tail _ (List.Mem.head _))
  have mv2 : (w.heap.size + 1 + 1, wrow (0)) ∈ L0 := by rw [hL0]; exact (List.Mem.head _)
  have mr : (g, rrow p) ∈ L0 := by rw [hL0]; exact (List.Mem.tail _ (List.Mem.tail _ (List.Mem.tail _ (List.Mem.head _))))
  have hlow : Hid (∀ q, q ∈ L0 → q.1 < w.heap.size + 3) := by
    rw [hL0]; intro q hq; have hg0 := lt_of_block R0.out; simp at hq; rcases hq with rfl | rfl | rfl | rfl <;> simp <;> omega
  clear hL0
  go_wp2_with (first | (refine wpList_wide rfl _ rfl _ rfl (S0) _ mv0 ?_) | (refine wpList_wide rfl _ rfl _ rfl (S0) _ mv1 ?_) | fail)
  refine (CM.out _).mono ?_
  rintro e W1 ⟨rfl, hb⟩
  have S1 := S0.keep hb
  clear hb
  go_wp2_with fail
  refine (CF.out _ (S1.get mr)).mono ?_
  rintro e W2 ⟨rfl, hb⟩
  have S2 := S1.keep hb
  clear hb
  go_wp2_with (refine wpList_put rfl _ _ rfl (w.heap.size + 1 + 1) rfl (a * b % PRM p) 0 rfl (S2.get mv2) ?_)
  refine bodyPost_ret (results_cell_row rfl _ _ (w.heap.size + 1 + 1) 73 (limbs4 (a * b % PRM p)) (0, 0) _ rfl (set_row (S2.get mv2)) Try.underlying73 rfl (by kernel_rfl)) rfl ?_
  exact ⟨rfl, below_setRow S2.below (by omega) _⟩
set_option maxRecDepth 100000 in
set_option maxHeartbeats 4000000 in
theorem add_rc (g a b : Nat) (p : Bool) (ha : a < W256) (hb : b < W256) (w : World) (hr : w.heap[g]? = some (rrow p)) :
    Calls Try.prog 73 #[rptr g, wv a, wv b] w fun e w' => e = .returned (wv ((a + b) % PRM p)) ∧ Below w.heap.size w w' := by
  have R0 := Lib.hid hr
  have HA := Lib.hid ha; have HB := Lib.hid hb
  have hM : ∀ x, x % PRM p < W256 := fun x => Nat.lt_trans (Nat.mod_lt _ (by have := prm_big p; omega)) (prm_lt p)
  obtain ⟨s, hs⟩ : ∃ x, (a % PRM p + b % PRM p) % W256 = x := ⟨_, rfl⟩
  obtain ⟨m, hm⟩ : ∃ x, decide (W256 ≤ a % PRM p + b % PRM p) = x := ⟨_, rfl⟩
  obtain ⟨z, hz⟩ : ∃ x, (a + b) % PRM p = x := ⟨_, rfl⟩
  have C1 := Lib.hid (fun W h => one_f g a p ha W h)
  have C2 := Lib.hid (fun W h => one_f g b p hb W h)
  have CA := Lib.hid (fun W => add_n (a % PRM p) (b % PRM p) (hM a) (hM b) s m hs hm W)
  have C3 := Lib.hid (fun W h => one_c g s p m (by rw [← hs]; exact Nat.mod_lt _ (by decide)) W h)
  have HE : (s + if m then W256 else 0) % PRM p = z := by
    rw [← hz, Nat.add_mod a b]
    congr 1
    have h1 := hM a; have h2 := hM b
    cases m with
    | true =>
      have hc : W256 ≤ a % PRM p + b % PRM p := by simpa using hm
      rw [Nat.mod_eq_sub_mod hc, Nat.mod_eq_of_lt (by omega)] at hs
      simp only [if_true]; omega
    | false =>
      have hc : ¬ W256 ≤ a % PRM p + b % PRM p := by simpa using hm
      rw [Nat.mod_eq_of_lt (by omega)] at hs
      simp; omega
  rw [HE] at C3
  rw [hz]
  clear hr ha hb hs hm hz HE hM
  go_enter Try.func73, Try.ntmps73
  have S0 := (((((St.nil w).cons R0.out)).alloc (wrow (a)) (w.heap.size) rfl).alloc (wrow (b)) (w.heap.size + 1) (by simp)).alloc (wrow (0)) (w.heap.size + 1 + 1) (by simp)
  obtain ⟨L0, hL0⟩ : ∃ L, L = [(w.heap.size + 1 + 1, wrow (0)), (w.heap.size + 1, wrow (b)), (w.heap.size, wrow (a)), (g, rrow p)] := ⟨_, rfl⟩
  rw [← hL0] at S0
  have mv0 : (w.heap.size, wrow (a)) ∈ L0 := by rw [hL0]; exact (List.Mem.tail _ (List.Mem.tail _ (List.Mem.head _)))
  have mv1 : (w.heap.size + 1, wrow (b)) ∈ L0 := by rw [hL0]; exact (List.Mem.tail _ (List.Mem.head _))
  have mv2 : (w.heap.size + 1 + 1, wrow (0)) ∈ L0 := by rw [hL0]; exact (List.Mem.head _)
  have mr : (g, rrow p) ∈ L0 := by rw [hL0]; exact (List.Mem.tail _ (List.Mem.tail _ (List.Mem.tail _ (List.Mem.head _))))
  have hlow : Hid (∀ q, q ∈ L0 → q.1 < w.heap.size + 3) := by
    rw [hL0]; intro q hq; have hg0 := lt_of_block R0.out; simp at hq; rcases hq with rfl | rfl | rfl | rfl <;> simp <;> omega
  clear hL0
  obtain ⟨LR, hLR0⟩ : ∃ L, L = [(w.heap.size + 1, wrow b), (w.heap.size, wrow a), (g, rrow p)] := ⟨_, rfl⟩
  have S1r := S0.drop (L' := LR) (by rw [hLR0]; intro q hq; simp at hq; rcases hq with rfl | rfl | rfl; exact mv1; exact mv0; exact mr)
  have n1 : (w.heap.size + 1, wrow b) ∈ LR := by rw [hLR0]; exact List.Mem.head _
  have n0 : (w.heap.size, wrow a) ∈ LR := by rw [hLR0]; exact List.Mem.tail _ (List.Mem.head _)
  have nr : (g, rrow p) ∈ LR := by rw [hLR0]; exact List.Mem.tail _ (List.Mem.tail _ (List.Mem.head _))
  have hLR : Hid (∀ q, q ∈ LR → q.1 ≠ w.heap.size + 1 + 1) := by
    rw [hLR0]; intro q hq; have hg0 := lt_of_block R0.out; simp at hq; rcases hq with rfl | rfl | rfl <;> simp <;> omega
  clear hLR0
  go_wp2_with fail
  obtain ⟨I, hI0⟩ : ∃ I : Array Value → (Nat → Bool) → Act → World → Prop, I = (fun T0 L act W => ∃ vq0 vq1 vq2 vq3 vq4 vq5 vq6 vq7 vq8 vq9 vq10, act = ⟨sets T0 [(7, vq0), (8, vq1), (9, vq2), (10, vq3), (11, vq4), (12, vq5), (13, vq6), (14, vq7), (15, vq8), (16, vq9), (17, vq10)], []⟩ ∧ St w LR W ∧ (L 0 = true → vq0 = rptr g) ∧ (L 1 = true → vq1 = rptr g) ∧ (L 2 = true → vq2 = wv (a)) ∧ (L 3 = true → vq3 = wv (a % PRM p)) ∧ (L 4 = true → vq4 = rptr g) ∧ (L 5 = true → vq5 = wv (b)) ∧ (L 6 = true → vq6 = wv (b % PRM p)) ∧ (L 7 = true → vq7 = .tuple #[wv s, .bool m]) ∧ (L 8 = true → vq8 = wv s) ∧ (L 9 = true → vq9 = .bool m) ∧ (L 10 = true → vq10 = wv z) ∧ (L 11 = false → W.heap[(w.heap.size + 1 + 1)]? = some (wrow 0)) ∧ (L 11 = true → W.heap[(w.heap.size + 1 + 1)]? = some (wrow z))) := ⟨_, rfl⟩
  have HI := Lib.hid hI0; clear hI0
  refine wp_region_frame (by kernel_rfl) (by kernel_rfl) I (fun T0 hT0 => ⟨?start, ?step, ?fin⟩)
  case start =>
    rw [HI.out]
    exact ⟨T0.getD 7 undef, T0.getD 8 undef, T0.getD 9 undef, T0.getD 10 undef, T0.getD 11 undef, T0.getD 12 undef, T0.getD 13 undef, T0.getD 14 undef, T0.getD 15 undef, T0.getD 16 undef, T0.getD 17 undef, by (refine Eq.trans ?_ (congrArg (fun T => Act.mk T []) (sets_self [7, 8, 9, 10, 11, 12, 13, 14, 15, 16, 17] T0).symm)); rw [hT0], S1r.drew, nofun, nofun, nofun, nofun, nofun, nofun, nofun, nofun, nofun, nofun, nofun, fun _ => S0.get mv2, nofun⟩
  case step =>
    refine ⟨?_, ?_, ?_, ?_, ?_, ?_, ?_, ?_, ?_, ?_, ?_, ?_, trivial⟩
    · intro L act W hI hno hdep
      rw [HI.out] at hI
      obtain ⟨vq0, vq1, vq2, vq3, vq4, vq5, vq6, vq7, vq8, vq9, vq10, hact, hS, hq0, hq1, hq2, hq3, hq4, hq5, hq6, hq7, hq8, hq9, hq10, oq11, nq11⟩ := hI
      subst hact
      rw [hT0]; simp only [sets, List.setIfInBounds_toArray, List.set_cons_zero, List.set_cons_succ]
      go_simp
      rw [HI.out]
      exact ⟨rptr g, vq1, vq2, vq3, vq4, vq5, vq6, vq7, vq8, vq9, vq10, by simp only [sets, List.setIfInBounds_toArray, List.set_cons_zero, List.set_cons_succ], hS, fun _ => rfl, keepI hq1 rfl, keepI hq2 rfl, keepI hq3 rfl, keepI hq4 rfl, keepI hq5 rfl, keepI hq6 rfl, keepI hq7 rfl, keepI hq8 rfl, keepI hq9 rfl, keepI hq10 rfl, keepF oq11, keepI nq11 rfl⟩
    · intro L act W hI hno hdep
      rw [HI.out] at hI
      obtain ⟨vq0, vq1, vq2, vq3, vq4, vq5, vq6, vq7, vq8, vq9, vq10, hact, hS, hq0, hq1, hq2, hq3, hq4, hq5, hq6, hq7, hq8, hq9, hq10, oq11, nq11⟩ := hI
      subst hact
      rw [hT0]; simp only [sets, List.setIfInBounds_toArray, List.set_cons_zero, List.set_cons_succ]
      go_simp
      rw [HI.out]
      exact ⟨vq0, rptr g, vq2, vq3, vq4, vq5, vq6, vq7, vq8, vq9, vq10, by simp only [sets, List.setIfInBounds_toArray, List.set_cons_zero, List.set_cons_succ], hS, keepI hq0 rfl, fun _ => rfl, keepI hq2 rfl, keepI hq3 rfl, keepI hq4 rfl, keepI hq5 rfl, keepI hq6 rfl, keepI hq7 rfl, keepI hq8 rfl, keepI hq9 rfl, keepI hq10 rfl, keepF oq11, keepI nq11 rfl⟩
    · intro L act W hI hno hdep
      rw [HI.out] at hI
      obtain ⟨vq0, vq1, vq2, vq3, vq4, vq5, vq6, vq7, vq8, vq9, vq10, hact, hS, hq0, hq1, hq2, hq3, hq4, hq5, hq6, hq7, hq8, hq9, hq10, oq11, nq11⟩ := hI
      subst hact
      rw [hT0]; simp only [sets, List.setIfInBounds_toArray, List.set_cons_zero, List.set_cons_succ]
      with_reducible refine wp_wide (Operand.tmp 4) rfl w.heap.size ?_ (a) (hS.get n0) ?_
      · rfl
      rw [HI.out]
      exact ⟨vq0, vq1, wv (a), vq3, vq4, vq5, vq6, vq7, vq8, vq9, vq10, by simp only [sets, Act.put, List.setIfInBounds_toArray, List.set_cons_zero, List.set_cons_succ], hS, keepI hq0 rfl, keepI hq1 rfl, fun _ => rfl, keepI hq3 rfl, keepI hq4 rfl, keepI hq5 rfl, keepI hq6 rfl, keepI hq7 rfl, keepI hq8 rfl, keepI hq9 rfl, keepI hq10 rfl, keepF oq11, keepI nq11 rfl⟩
    · intro L act W hI hno hdep
      rw [HI.out] at hI
      obtain ⟨vq0, vq1, vq2, vq3, vq4, vq5, vq6, vq7, vq8, vq9, vq10, hact, hS, hq0, hq1, hq2, hq3, hq4, hq5, hq6, hq7, hq8, hq9, hq10, oq11, nq11⟩ := hI
      subst hact
      obtain rfl := hq1 (hdep ⟨1, .data⟩ (by simp) rfl)
      obtain rfl := hq2 (hdep ⟨2, .data⟩ (by simp) rfl)
      rw [hT0]; simp only [sets, List.setIfInBounds_toArray, List.set_cons_zero, List.set_cons_succ]
      go_simp
      refine (C1.out _ (hS.get nr)).mono ?_
      rintro e W2 ⟨rfl, hb⟩
      rw [HI.out]
      exact ⟨vq0, rptr g, wv (a), wv (a % PRM p), vq4, vq5, vq6, vq7, vq8, vq9, vq10, by simp only [sets, List.setIfInBounds_toArray, List.set_cons_zero, List.set_cons_succ], (hS.keep hb), keepI hq0 rfl, fun _ => rfl, fun _ => rfl, fun _ => rfl, keepI hq4 rfl, keepI hq5 rfl, keepI hq6 rfl, keepI hq7 rfl, keepI hq8 rfl, keepI hq9 rfl, keepI hq10 rfl, keepF (fun h => keepH hb (oq11 h)), keepI (fun h => keepH hb (nq11 h)) rfl⟩
    · intro L act W hI hno hdep
      rw [HI.out] at hI
      obtain ⟨vq0, vq1, vq2, vq3, vq4, vq5, vq6, vq7, vq8, vq9, vq10, hact, hS, hq0, hq1, hq2, hq3, hq4, hq5, hq6, hq7, hq8, hq9, hq10, oq11, nq11⟩ := hI
      subst hact
      rw [hT0]; simp only [sets, List.setIfInBounds_toArray, List.set_cons_zero, List.set_cons_succ]
      go_simp
      rw [HI.out]
      exact ⟨vq0, vq1, vq2, vq3, rptr g, vq5, vq6, vq7, vq8, vq9, vq10, by simp only [sets, List.setIfInBounds_toArray, List.set_cons_zero, List.set_cons_succ], hS, keepI hq0 rfl, keepI hq1 rfl, keepI hq2 rfl, keepI hq3 rfl, fun _ => rfl, keepI hq5 rfl, keepI hq6 rfl, keepI hq7 rfl, keepI hq8 rfl, keepI hq9 rfl, keepI hq10 rfl, keepF oq11, keepI nq11 rfl⟩
    · intro L act W hI hno hdep
      rw [HI.out] at hI
      obtain ⟨vq0, vq1, vq2, vq3, vq4, vq5, vq6, vq7, vq8, vq9, vq10, hact, hS, hq0, hq1, hq2, hq3, hq4, hq5, hq6, hq7, hq8, hq9, hq10, oq11, nq11⟩ := hI
      subst hact
      rw [hT0]; simp only [sets, List.setIfInBounds_toArray, List.set_cons_zero, List.set_cons_succ]
      with_reducible refine wp_wide (Operand.tmp 5) rfl (w.heap.size + 1) ?_ (b) (hS.get n1) ?_
      · rfl
      rw [HI.out]
      exact ⟨vq0, vq1, vq2, vq3, vq4, wv (b), vq6, vq7, vq8, vq9, vq10, by simp only [sets, Act.put, List.setIfInBounds_toArray, List.set_cons_zero, List.set_cons_succ], hS, keepI hq0 rfl, keepI hq1 rfl, keepI hq2 rfl, keepI hq3 rfl, keepI hq4 rfl, fun _ => rfl, keepI hq6 rfl, keepI hq7 rfl, keepI hq8 rfl, keepI hq9 rfl, keepI hq10 rfl, keepF oq11, keepI nq11 rfl⟩
    · intro L act W hI hno hdep
      rw [HI.out] at hI
      obtain ⟨vq0, vq1, vq2, vq3, vq4, vq5, vq6, vq7, vq8, vq9, vq10, hact, hS, hq0, hq1, hq2, hq3, hq4, hq5, hq6, hq7, hq8, hq9, hq10, oq11, nq11⟩ := hI
      subst hact
      obtain rfl := hq4 (hdep ⟨4, .data⟩ (by simp) rfl)
      obtain rfl := hq5 (hdep ⟨5, .data⟩ (by simp) rfl)
      rw [hT0]; simp only [sets, List.setIfInBounds_toArray, List.set_cons_zero, List.set_cons_succ]
      go_simp
      refine (C2.out _ (hS.get nr)).mono ?_
      rintro e W2 ⟨rfl, hb⟩
      rw [HI.out]
      exact ⟨vq0, vq1, vq2, vq3, rptr g, wv (b), wv (b % PRM p), vq7, vq8, vq9, vq10, by simp only [sets, List.setIfInBounds_toArray, List.set_cons_zero, List.set_cons_succ], (hS.keep hb), keepI hq0 rfl, keepI hq1 rfl, keepI hq2 rfl, keepI hq3 rfl, fun _ => rfl, fun _ => rfl, fun _ => rfl, keepI hq7 rfl, keepI hq8 rfl, keepI hq9 rfl, keepI hq10 rfl, keepF (fun h => keepH hb (oq11 h)), keepI (fun h => keepH hb (nq11 h)) rfl⟩
    · intro L act W hI hno hdep
      rw [HI.out] at hI
      obtain ⟨vq0, vq1, vq2, vq3, vq4, vq5, vq6, vq7, vq8, vq9, vq10, hact, hS, hq0, hq1, hq2, hq3, hq4, hq5, hq6, hq7, hq8, hq9, hq10, oq11, nq11⟩ := hI
      subst hact
      obtain rfl := hq3 (hdep ⟨3, .data⟩ (by simp) rfl)
      obtain rfl := hq6 (hdep ⟨6, .data⟩ (by simp) rfl)
      rw [hT0]; simp only [sets, List.setIfInBounds_toArray, List.set_cons_zero, List.set_cons_succ]
      go_simp
      refine (CA.out _).mono ?_
      rintro e W2 ⟨rfl, hb⟩
      rw [HI.out]
      exact ⟨vq0, vq1, vq2, wv (a % PRM p), vq4, vq5, wv (b % PRM p), .tuple #[wv s, .bool m], vq8, vq9, vq10, by simp only [sets, List.setIfInBounds_toArray, List.set_cons_zero, List.set_cons_succ], (hS.keep hb), keepI hq0 rfl, keepI hq1 rfl, keepI hq2 rfl, fun _ => rfl, keepI hq4 rfl, keepI hq5 rfl, fun _ => rfl, fun _ => rfl, keepI hq8 rfl, keepI hq9 rfl, keepI hq10 rfl, keepF (fun h => keepH hb (oq11 h)), keepI (fun h => keepH hb (nq11 h)) rfl⟩
    · intro L act W hI hno hdep
      rw [HI.out] at hI
      obtain ⟨vq0, vq1, vq2, vq3, vq4, vq5, vq6, vq7, vq8, vq9, vq10, hact, hS, hq0, hq1, hq2, hq3, hq4, hq5, hq6, hq7, hq8, hq9, hq10, oq11, nq11⟩ := hI
      subst hact
      obtain rfl := hq7 (hdep ⟨7, .data⟩ (by simp) rfl)
      rw [hT0]; simp only [sets, List.setIfInBounds_toArray, List.set_cons_zero, List.set_cons_succ]
      go_simp
      rw [HI.out]
      exact ⟨vq0, vq1, vq2, vq3, vq4, vq5, vq6, .tuple #[wv s, .bool m], wv s, vq9, vq10, by simp only [sets, List.setIfInBounds_toArray, List.set_cons_zero, List.set_cons_succ], hS, keepI hq0 rfl, keepI hq1 rfl, keepI hq2 rfl, keepI hq3 rfl, keepI hq4 rfl, keepI hq5 rfl, keepI hq6 rfl, fun _ => rfl, fun _ => rfl, keepI hq9 rfl, keepI hq10 rfl, keepF oq11, keepI nq11 rfl⟩
    · intro L act W hI hno hdep
      rw [HI.out] at hI
      obtain ⟨vq0, vq1, vq2, vq3, vq4, vq5, vq6, vq7, vq8, vq9, vq10, hact, hS, hq0, hq1, hq2, hq3, hq4, hq5, hq6, hq7, hq8, hq9, hq10, oq11, nq11⟩ := hI
      subst hact
      obtain rfl := hq7 (hdep ⟨7, .data⟩ (by simp) rfl)
      rw [hT0]; simp only [sets, List.setIfInBounds_toArray, List.set_cons_zero, List.set_cons_succ]
      go_simp
      rw [HI.out]
      exact ⟨vq0, vq1, vq2, vq3, vq4, vq5, vq6, .tuple #[wv s, .bool m], vq8, .bool m, vq10, by simp only [sets, List.setIfInBounds_toArray, List.set_cons_zero, List.set_cons_succ], hS, keepI hq0 rfl, keepI hq1 rfl, keepI hq2 rfl, keepI hq3 rfl, keepI hq4 rfl, keepI hq5 rfl, keepI hq6 rfl, fun _ => rfl, keepI hq8 rfl, fun _ => rfl, keepI hq10 rfl, keepF oq11, keepI nq11 rfl⟩
    · intro L act W hI hno hdep
      rw [HI.out] at hI
      obtain ⟨vq0, vq1, vq2, vq3, vq4, vq5, vq6, vq7, vq8, vq9, vq10, hact, hS, hq0, hq1, hq2, hq3, hq4, hq5, hq6, hq7, hq8, hq9, hq10, oq11, nq11⟩ := hI
      subst hact
      obtain rfl := hq0 (hdep ⟨0, .data⟩ (by simp) rfl)
      obtain rfl := hq8 (hdep ⟨8, .data⟩ (by simp) rfl)
      obtain rfl := hq9 (hdep ⟨9, .data⟩ (by simp) rfl)
      rw [hT0]; simp only [sets, List.setIfInBounds_toArray, List.set_cons_zero, List.set_cons_succ]
      go_simp
      refine (C3.out _ (hS.get nr)).mono ?_
      rintro e W2 ⟨rfl, hb⟩
      rw [HI.out]
      exact ⟨rptr g, vq1, vq2, vq3, vq4, vq5, vq6, vq7, wv s, .bool m, wv z, by simp only [sets, List.setIfInBounds_toArray, List.set_cons_zero, List.set_cons_succ], (hS.keep hb), fun _ => rfl, keepI hq1 rfl, keepI hq2 rfl, keepI hq3 rfl, keepI hq4 rfl, keepI hq5 rfl, keepI hq6 rfl, keepI hq7 rfl, fun _ => rfl, fun _ => rfl, fun _ => rfl, keepF (fun h => keepH hb (oq11 h)), keepI (fun h => keepH hb (nq11 h)) rfl⟩
    · intro L act W hI hno hdep
      rw [HI.out] at hI
      obtain ⟨vq0, vq1, vq2, vq3, vq4, vq5, vq6, vq7, vq8, vq9, vq10, hact, hS, hq0, hq1, hq2, hq3, hq4, hq5, hq6, hq7, hq8, hq9, hq10, oq11, nq11⟩ := hI
      subst hact
      obtain rfl := hq10 (hdep ⟨10, .data⟩ (by simp) rfl)
      have hg := oq11 hno
      rw [hT0]; simp only [sets, List.setIfInBounds_toArray, List.set_cons_zero, List.set_cons_succ]
      with_reducible refine wp_put (Operand.tmp 6) (Operand.tmp 17) rfl (w.heap.size + 1 + 1) ?_ (z) (0) ?_ hg ?_
      · rfl
      · rfl
      rw [HI.out]
      exact ⟨vq0, vq1, vq2, vq3, vq4, vq5, vq6, vq7, vq8, vq9, wv z, by simp only [sets, Act.put, List.setIfInBounds_toArray, List.set_cons_zero, List.set_cons_succ], (hS.setRow (by omega) (fun q hq => hLR.out q hq) _), keepI hq0 rfl, keepI hq1 rfl, keepI hq2 rfl, keepI hq3 rfl, keepI hq4 rfl, keepI hq5 rfl, keepI hq6 rfl, keepI hq7 rfl, keepI hq8 rfl, keepI hq9 rfl, fun _ => rfl, alsoF, fun _ => setRow_heap W _ _ _ _ _ hg⟩
  case fin =>
    intro L act W hall hI
    rw [HI.out] at hI
    obtain ⟨vq0, vq1, vq2, vq3, vq4, vq5, vq6, vq7, vq8, vq9, vq10, hact, hS, hq0, hq1, hq2, hq3, hq4, hq5, hq6, hq7, hq8, hq9, hq10, oq11, nq11⟩ := hI
    subst hact
    obtain rfl := hq0 (hall 0 (by decide))
    obtain rfl := hq1 (hall 1 (by decide))
    obtain rfl := hq2 (hall 2 (by decide))
    obtain rfl := hq3 (hall 3 (by decide))
    obtain rfl := hq4 (hall 4 (by decide))
    obtain rfl := hq5 (hall 5 (by decide))
    obtain rfl := hq6 (hall 6 (by decide))
    obtain rfl := hq7 (hall 7 (by decide))
    obtain rfl := hq8 (hall 8 (by decide))
    obtain rfl := hq9 (hall 9 (by decide))
    obtain rfl := hq10 (hall 10 (by decide))
    have tah := Lib.hid (nq11 (hall 11 (by decide)))
    clear hq0 hq1 hq2 hq3 hq4 hq5 hq6 hq7 hq8 hq9 hq10 oq11 nq11 hall
    rw [hT0]; simp only [sets, List.setIfInBounds_toArray, List.set_cons_zero, List.set_cons_succ]
    clear hT0 HI
    go_wp2_with fail
    refine bodyPost_ret (results_cell_row rfl _ _ (w.heap.size + 1 + 1) 73 (limbs4 (z)) (0, 0) _ rfl tah.out Try.underlying73 rfl (by kernel_rfl)) rfl ?_
    exact ⟨rfl, hS.below⟩
set_option maxRecDepth 100000 in
set_option maxHeartbeats 4000000 in
theorem sub_rc (g a b : Nat) (p : Bool) (ha : a < W256) (hb : b < W256) (w : World) (hr : w.heap[g]? = some (rrow p)) :
    Calls Try.prog 55 #[rptr g, wv a, wv b] w fun e w' => e = .returned (wv ((a % PRM p + PRM p - b % PRM p) % PRM p)) ∧ Below w.heap.size w w' := by
  have R0 := Lib.hid hr
  have HA := Lib.hid ha; have HB := Lib.hid hb
  have hML : ∀ x, x % PRM p < PRM p := fun x => Nat.mod_lt _ (by have := prm_big p; omega)
  have hM : ∀ x, x % PRM p < W256 := fun x => Nat.lt_trans (hML x) (prm_lt p)
  obtain ⟨d, hd⟩ : ∃ x, (a % PRM p + W256 - b % PRM p) % W256 = x := ⟨_, rfl⟩
  obtain ⟨m, hm⟩ : ∃ x, decide (a % PRM p < b % PRM p) = x := ⟨_, rfl⟩
  obtain ⟨z, hz⟩ : ∃ x, (a % PRM p + PRM p - b % PRM p) % PRM p = x := ⟨_, rfl⟩
  obtain ⟨m2, hm2⟩ : ∃ x, decide (W256 ≤ d + PRM p) = x := ⟨_, rfl⟩
  have C1 := Lib.hid (fun W h => one_f g a p ha W h)
  have C2 := Lib.hid (fun W h => one_f g b p hb W h)
  have CS := Lib.hid (fun W => sub_n (a % PRM p) (b % PRM p) (hM a) (hM b) d m hd hm W)
  have HD : Hid (m = false → d = z) := by
    intro hf
    rw [hf] at hm
    have hc : ¬ a % PRM p < b % PRM p := by simpa using hm
    have h1 := hML a; have h2 := hM a; have h3 := prm_lt p
    rw [show a % PRM p + W256 - b % PRM p = a % PRM p - b % PRM p + W256 by omega, Nat.add_mod_right, Nat.mod_eq_of_lt (by omega)] at hd
    rw [show a % PRM p + PRM p - b % PRM p = a % PRM p - b % PRM p + PRM p by omega, Nat.add_mod_right, Nat.mod_eq_of_lt (by omega)] at hz
    omega
  have HU : Hid (m = true → (d + PRM p) % W256 = z) := by
    intro ht
    rw [ht] at hm
    have hc : a % PRM p < b % PRM p := by simpa using hm
    have h1 := hML a; have h2 := hML b; have h3 := prm_lt p
    rw [Nat.mod_eq_of_lt (by omega)] at hd
    rw [Nat.mod_eq_of_lt (by omega)] at hz
    rw [show d + PRM p = z + W256 by omega, Nat.add_mod_right, Nat.mod_eq_of_lt (by omega)]
  have HDW : Hid (d < W256) := by rw [← hd]; exact Nat.mod_lt _ (by decide)
  have HM2 := Lib.hid hm2
  rw [hz]
  clear hr ha hb hd hm hz hM hML hm2
  go_enter Try.func55, Try.ntmps55
  have S0 := (((((St.nil w).cons R0.out)).alloc (wrow (a)) (w.heap.size) rfl).alloc (wrow (b)) (w.heap.size + 1) (by simp)).alloc (wrow (0)) (w.heap.size + 1 + 1) (by simp)
  obtain ⟨L0, hL0⟩ : ∃ L, L = [(w.heap.size + 1 + 1, wrow (0)), (w.heap.size + 1, wrow (b)), (w.heap.size, wrow (a)), (g, rrow p)] := ⟨_, rfl⟩
  rw [← hL0] at S0
  have mv0 : (w.heap.size, wrow (a)) ∈ L0 := by rw [hL0]; exact (List.Mem.tail _ (List.Mem.tail _ (List.Mem.head _)))
  have mv1 : (w.heap.size + 1, wrow (b)) ∈ L0 := by rw [hL0]; exact (List.Mem.tail _ (List.Mem.head _))
  have mv2 : (w.heap.size + 1 + 1, wrow (0)) ∈ L0 := by rw [hL0]; exact (List.Mem.head _)
  have mr : (g, rrow p) ∈ L0 := by rw [hL0]; exact (List.Mem.tail _ (List.Mem.tail _ (List.Mem.tail _ (List.Mem.head _))))
  have hlow : Hid (∀ q, q ∈ L0 → q.1 < w.heap.size + 3) := by
    rw [hL0]; intro q hq; have hg0 := lt_of_block R0.out; simp at hq; rcases hq with rfl | rfl | rfl | rfl <;> simp <;> omega
  clear hL0
  have hbase : w.heap.size + 3 ≤ (((w.alloc (wrow a)).alloc (wrow b)).alloc (wrow 0)).heap.size := by simp
  go_wp2_with fail
  obtain ⟨I, hI0⟩ : ∃ I : Array Value → (Nat → Bool) → Act → World → Prop, I = (fun T0 L act W => ∃ vq0 vq1 vq2 vq3 vq4 vq5 vq6 vq7 vq8 vq9 vq10 vq12, act = ⟨sets T0 [(10, vq0), (11, vq1), (12, vq2), (13, vq3), (14, vq4), (15, vq5), (16, vq6), (9, vq7), (17, vq8), (18, vq9), (7, vq10), (8, vq12)], []⟩ ∧ St w L0 W ∧ w.heap.size + 3 ≤ W.heap.size ∧ (L 0 = true → vq0 = rptr g) ∧ (L 1 = true → vq1 = wv (a)) ∧ (L 2 = true → vq2 = wv (a % PRM p)) ∧ (L 3 = true → vq3 = rptr g) ∧ (L 4 = true → vq4 = wv (b)) ∧ (L 5 = true → vq5 = wv (b % PRM p)) ∧ (L 6 = true → vq6 = .tuple #[wv d, .bool m]) ∧ (L 7 = true → vq7 = .tuple #[wv d, .bool m]) ∧ (L 8 = true → vq8 = wv d) ∧ (L 9 = true → vq9 = .bool m) ∧ (L 12 = true → vq12 = .bool m) ∧ (L 10 = true → Made W 73 (w.heap.size + 3) vq10 (L 11) (limbs4 0) (limbs4 (d))) ∧ (L 11 = true → L 10 = true)) := ⟨_, rfl⟩
  have HI := Lib.hid hI0; clear hI0
  refine wp_region_frame (by kernel_rfl) (by kernel_rfl) I (fun T0 hT0 => ⟨?start, ?step, ?fin⟩)
  case start =>
    rw [HI.out]
    exact ⟨T0.getD 10 undef, T0.getD 11 undef, T0.getD 12 undef, T0.getD 13 undef, T0.getD 14 undef, T0.getD 15 undef, T0.getD 16 undef, T0.getD 9 undef, T0.getD 17 undef, T0.getD 18 undef, T0.getD 7 undef, T0.getD 8 undef, by (refine Eq.trans ?_ (congrArg (fun T => Act.mk T []) (sets_self [10, 11, 12, 13, 14, 15, 16, 9, 17, 18, 7, 8] T0).symm)); rw [hT0], S0.drew, hbase, nofun, nofun, nofun, nofun, nofun, nofun, nofun, nofun, nofun, nofun, nofun, nofun, nofun⟩
  case step =>
    refine ⟨?_, ?_, ?_, ?_, ?_, ?_, ?_, ?_, ?_, ?_, ?_, ?_, ?_, trivial⟩
    · intro L act W hI hno hdep
      rw [HI.out] at hI
      obtain ⟨vq0, vq1, vq2, vq3, vq4, vq5, vq6, vq7, vq8, vq9, vq10, vq12, hact, hS, hsz, hq0, hq1, hq2, hq3, hq4, hq5, hq6, hq7, hq8, hq9, hq12, mq10, dq11_10⟩ := hI
      subst hact
      rw [hT0]; simp only [sets, List.setIfInBounds_toArray, List.set_cons_zero, List.set_cons_succ]
      go_simp
      rw [HI.out]
      exact ⟨rptr g, vq1, vq2, vq3, vq4, vq5, vq6, vq7, vq8, vq9, vq10, vq12, by simp only [sets, List.setIfInBounds_toArray, List.set_cons_zero, List.set_cons_succ], hS, hsz, fun _ => rfl, keepI hq1 rfl, keepI hq2 rfl, keepI hq3 rfl, keepI hq4 rfl, keepI hq5 rfl, keepI hq6 rfl, keepI hq7 rfl, keepI hq8 rfl, keepI hq9 rfl, keepI hq12 rfl, fun h => by rw [also_of (by decide)] at h ⊢; exact mq10 h, keepD dq11_10 rfl⟩
    · intro L act W hI hno hdep
      rw [HI.out] at hI
      obtain ⟨vq0, vq1, vq2, vq3, vq4, vq5, vq6, vq7, vq8, vq9, vq10, vq12, hact, hS, hsz, hq0, hq1, hq2, hq3, hq4, hq5, hq6, hq7, hq8, hq9, hq12, mq10, dq11_10⟩ := hI
      subst hact
      rw [hT0]; simp only [sets, List.setIfInBounds_toArray, List.set_cons_zero, List.set_cons_succ]
      with_reducible refine wp_wide (Operand.tmp 4) rfl w.heap.size ?_ (a) (hS.get mv0) ?_
      · rfl
      rw [HI.out]
      exact ⟨vq0, wv (a), vq2, vq3, vq4, vq5, vq6, vq7, vq8, vq9, vq10, vq12, by simp only [sets, Act.put, List.setIfInBounds_toArray, List.set_cons_zero, List.set_cons_succ], hS, hsz, keepI hq0 rfl, fun _ => rfl, keepI hq2 rfl, keepI hq3 rfl, keepI hq4 rfl, keepI hq5 rfl, keepI hq6 rfl, keepI hq7 rfl, keepI hq8 rfl, keepI hq9 rfl, keepI hq12 rfl, fun h => by rw [also_of (by decide)] at h ⊢; exact mq10 h, keepD dq11_10 rfl⟩
    · intro L act W hI hno hdep
      rw [HI.out] at hI
      obtain ⟨vq0, vq1, vq2, vq3, vq4, vq5, vq6, vq7, vq8, vq9, vq10, vq12, hact, hS, hsz, hq0, hq1, hq2, hq3, hq4, hq5, hq6, hq7, hq8, hq9, hq12, mq10, dq11_10⟩ := hI
      subst hact
      obtain rfl := hq0 (hdep ⟨0, .data⟩ (by simp) rfl)
      obtain rfl := hq1 (hdep ⟨1, .data⟩ (by simp) rfl)
      rw [hT0]; simp only [sets, List.setIfInBounds_toArray, List.set_cons_zero, List.set_cons_succ]
      go_simp
      refine (C1.out _ (hS.get mr)).mono ?_
      rintro e W2 ⟨rfl, hb⟩
      have hsz2 := Nat.le_trans hsz hb.size
      rw [HI.out]
      exact ⟨rptr g, wv (a), wv (a % PRM p), vq3, vq4, vq5, vq6, vq7, vq8, vq9, vq10, vq12, by simp only [sets, List.setIfInBounds_toArray, List.set_cons_zero, List.set_cons_succ], (hS.keep hb), hsz2, fun _ => rfl, fun _ => rfl, fun _ => rfl, keepI hq3 rfl, keepI hq4 rfl, keepI hq5 rfl, keepI hq6 rfl, keepI hq7 rfl, keepI hq8 rfl, keepI hq9 rfl, keepI hq12 rfl, fun h => by rw [also_of (by decide)] at h ⊢; exact (fun h => (mq10 h).keep hb) h, keepD dq11_10 rfl⟩
    · intro L act W hI hno hdep
      rw [HI.out] at hI
      obtain ⟨vq0, vq1, vq2, vq3, vq4, vq5, vq6, vq7, vq8, vq9, vq10, vq12, hact, hS, hsz, hq0, hq1, hq2, hq3, hq4, hq5, hq6, hq7, hq8, hq9, hq12, mq10, dq11_10⟩ := hI
      subst hact
      rw [hT0]; simp only [sets, List.setIfInBounds_toArray, List.set_cons_zero, List.set_cons_succ]
      go_simp
      rw [HI.out]
      exact ⟨vq0, vq1, vq2, rptr g, vq4, vq5, vq6, vq7, vq8, vq9, vq10, vq12, by simp only [sets, List.setIfInBounds_toArray, List.set_cons_zero, List.set_cons_succ], hS, hsz, keepI hq0 rfl, keepI hq1 rfl, keepI hq2 rfl, fun _ => rfl, keepI hq4 rfl, keepI hq5 rfl, keepI hq6 rfl, keepI hq7 rfl, keepI hq8 rfl, keepI hq9 rfl, keepI hq12 rfl, fun h => by rw [also_of (by decide)] at h ⊢; exact mq10 h, keepD dq11_10 rfl⟩
    · intro L act W hI hno hdep
      rw [HI.out] at hI
      obtain ⟨vq0, vq1, vq2, vq3, vq4, vq5, vq6, vq7, vq8, vq9, vq10, vq12, hact, hS, hsz, hq0, hq1, hq2, hq3, hq4, hq5, hq6, hq7, hq8, hq9, hq12, mq10, dq11_10⟩ := hI
      subst hact
      rw [hT0]; simp only [sets, List.setIfInBounds_toArray, List.set_cons_zero, List.set_cons_succ]
      with_reducible refine wp_wide (Operand.tmp 5) rfl (w.heap.size + 1) ?_ (b) (hS.get mv1) ?_
      · rfl
      rw [HI.out]
      exact ⟨vq0, vq1, vq2, vq3, wv (b), vq5, vq6, vq7, vq8, vq9, vq10, vq12, by simp only [sets, Act.put, List.setIfInBounds_toArray, List.set_cons_zero, List.set_cons_succ], hS, hsz, keepI hq0 rfl, keepI hq1 rfl, keepI hq2 rfl, keepI hq3 rfl, fun _ => rfl, keepI hq5 rfl, keepI hq6 rfl, keepI hq7 rfl, keepI hq8 rfl, keepI hq9 rfl, keepI hq12 rfl, fun h => by rw [also_of (by decide)] at h ⊢; exact mq10 h, keepD dq11_10 rfl⟩
    · intro L act W hI hno hdep
      rw [HI.out] at hI
      obtain ⟨vq0, vq1, vq2, vq3, vq4, vq5, vq6, vq7, vq8, vq9, vq10, vq12, hact, hS, hsz, hq0, hq1, hq2, hq3, hq4, hq5, hq6, hq7, hq8, hq9, hq12, mq10, dq11_10⟩ := hI
      subst hact
      obtain rfl := hq3 (hdep ⟨3, .data⟩ (by simp) rfl)
      obtain rfl := hq4 (hdep ⟨4, .data⟩ (by simp) rfl)
      rw [hT0]; simp only [sets, List.setIfInBounds_toArray, List.set_cons_zero, List.set_cons_succ]
      go_simp
      refine (C2.out _ (hS.get mr)).mono ?_
      rintro e W2 ⟨rfl, hb⟩
      have hsz2 := Nat.le_trans hsz hb.size
      rw [HI.out]
      exact ⟨vq0, vq1, vq2, rptr g, wv (b), wv (b % PRM p), vq6, vq7, vq8, vq9, vq10, vq12, by simp only [sets, List.setIfInBounds_toArray, List.set_cons_zero, List.set_cons_succ], (hS.keep hb), hsz2, keepI hq0 rfl, keepI hq1 rfl, keepI hq2 rfl, fun _ => rfl, fun _ => rfl, fun _ => rfl, keepI hq6 rfl, keepI hq7 rfl, keepI hq8 rfl, keepI hq9 rfl, keepI hq12 rfl, fun h => by rw [also_of (by decide)] at h ⊢; exact (fun h => (mq10 h).keep hb) h, keepD dq11_10 rfl⟩
    · intro L act W hI hno hdep
      rw [HI.out] at hI
      obtain ⟨vq0, vq1, vq2, vq3, vq4, vq5, vq6, vq7, vq8, vq9, vq10, vq12, hact, hS, hsz, hq0, hq1, hq2, hq3, hq4, hq5, hq6, hq7, hq8, hq9, hq12, mq10, dq11_10⟩ := hI
      subst hact
      obtain rfl := hq2 (hdep ⟨2, .data⟩ (by simp) rfl)
      obtain rfl := hq5 (hdep ⟨5, .data⟩ (by simp) rfl)
      rw [hT0]; simp only [sets, List.setIfInBounds_toArray, List.set_cons_zero, List.set_cons_succ]
      go_simp
      refine (CS.out _).mono ?_
      rintro e W2 ⟨rfl, hb⟩
      have hsz2 := Nat.le_trans hsz hb.size
      rw [HI.out]
      exact ⟨vq0, vq1, wv (a % PRM p), vq3, vq4, wv (b % PRM p), .tuple #[wv d, .bool m], vq7, vq8, vq9, vq10, vq12, by simp only [sets, List.setIfInBounds_toArray, List.set_cons_zero, List.set_cons_succ], (hS.keep hb), hsz2, keepI hq0 rfl, keepI hq1 rfl, fun _ => rfl, keepI hq3 rfl, keepI hq4 rfl, fun _ => rfl, fun _ => rfl, keepI hq7 rfl, keepI hq8 rfl, keepI hq9 rfl, keepI hq12 rfl, fun h => by rw [also_of (by decide)] at h ⊢; exact (fun h => (mq10 h).keep hb) h, keepD dq11_10 rfl⟩
    · intro L act W hI hno hdep
      rw [HI.out] at hI
      obtain ⟨vq0, vq1, vq2, vq3, vq4, vq5, vq6, vq7, vq8, vq9, vq10, vq12, hact, hS, hsz, hq0, hq1, hq2, hq3, hq4, hq5, hq6, hq7, hq8, hq9, hq12, mq10, dq11_10⟩ := hI
      subst hact
      obtain rfl := hq6 (hdep ⟨6, .data⟩ (by simp) rfl)
      rw [hT0]; simp only [sets, List.setIfInBounds_toArray, List.set_cons_zero, List.set_cons_succ]
      go_simp
      rw [HI.out]
      exact ⟨vq0, vq1, vq2, vq3, vq4, vq5, .tuple #[wv d, .bool m], .tuple #[wv d, .bool m], vq8, vq9, vq10, vq12, by simp only [sets, List.setIfInBounds_toArray, List.set_cons_zero, List.set_cons_succ], hS, hsz, keepI hq0 rfl, keepI hq1 rfl, keepI hq2 rfl, keepI hq3 rfl, keepI hq4 rfl, keepI hq5 rfl, fun _ => rfl, fun _ => rfl, keepI hq8 rfl, keepI hq9 rfl, keepI hq12 rfl, fun h => by rw [also_of (by decide)] at h ⊢; exact mq10 h, keepD dq11_10 rfl⟩
    · intro L act W hI hno hdep
      rw [HI.out] at hI
      obtain ⟨vq0, vq1, vq2, vq3, vq4, vq5, vq6, vq7, vq8, vq9, vq10, vq12, hact, hS, hsz, hq0, hq1, hq2, hq3, hq4, hq5, hq6, hq7, hq8, hq9, hq12, mq10, dq11_10⟩ := hI
      subst hact
      obtain rfl := hq7 (hdep ⟨7, .data⟩ (by simp) rfl)
      rw [hT0]; simp only [sets, List.setIfInBounds_toArray, List.set_cons_zero, List.set_cons_succ]
      go_simp
      rw [HI.out]
      exact ⟨vq0, vq1, vq2, vq3, vq4, vq5, vq6, .tuple #[wv d, .bool m], wv d, vq9, vq10, vq12, by simp only [sets, List.setIfInBounds_toArray, List.set_cons_zero, List.set_cons_succ], hS, hsz, keepI hq0 rfl, keepI hq1 rfl, keepI hq2 rfl, keepI hq3 rfl, keepI hq4 rfl, keepI hq5 rfl, keepI hq6 rfl, fun _ => rfl, fun _ => rfl, keepI hq9 rfl, keepI hq12 rfl, fun h => by rw [also_of (by decide)] at h ⊢; exact mq10 h, keepD dq11_10 rfl⟩
    · intro L act W hI hno hdep
      rw [HI.out] at hI
      obtain ⟨vq0, vq1, vq2, vq3, vq4, vq5, vq6, vq7, vq8, vq9, vq10, vq12, hact, hS, hsz, hq0, hq1, hq2, hq3, hq4, hq5, hq6, hq7, hq8, hq9, hq12, mq10, dq11_10⟩ := hI
      subst hact
      obtain rfl := hq7 (hdep ⟨7, .data⟩ (by simp) rfl)
      rw [hT0]; simp only [sets, List.setIfInBounds_toArray, List.set_cons_zero, List.set_cons_succ]
      go_simp
      rw [HI.out]
      exact ⟨vq0, vq1, vq2, vq3, vq4, vq5, vq6, .tuple #[wv d, .bool m], vq8, .bool m, vq10, vq12, by simp only [sets, List.setIfInBounds_toArray, List.set_cons_zero, List.set_cons_succ], hS, hsz, keepI hq0 rfl, keepI hq1 rfl, keepI hq2 rfl, keepI hq3 rfl, keepI hq4 rfl, keepI hq5 rfl, keepI hq6 rfl, fun _ => rfl, keepI hq8 rfl, fun _ => rfl, keepI hq12 rfl, fun h => by rw [also_of (by decide)] at h ⊢; exact mq10 h, keepD dq11_10 rfl⟩
    · intro L act W hI hno hdep
      rw [HI.out] at hI
      obtain ⟨vq0, vq1, vq2, vq3, vq4, vq5, vq6, vq7, vq8, vq9, vq10, vq12, hact, hS, hsz, hq0, hq1, hq2, hq3, hq4, hq5, hq6, hq7, hq8, hq9, hq12, mq10, dq11_10⟩ := hI
      subst hact
      have hsF := noF dq11_10 hno
      rw [hT0]; simp only [sets, List.setIfInBounds_toArray, List.set_cons_zero, List.set_cons_succ]
      go_simp
      rw [HI.out]
      exact ⟨vq0, vq1, vq2, vq3, vq4, vq5, vq6, vq7, vq8, vq9, (.pointer (some ⟨W.heap.size, 0, none⟩)), vq12, by simp only [sets, List.setIfInBounds_toArray, List.set_cons_zero, List.set_cons_succ], (hS.alloc0 _), (by simp at *; omega), keepI hq0 rfl, keepI hq1 rfl, keepI hq2 rfl, keepI hq3 rfl, keepI hq4 rfl, keepI hq5 rfl, keepI hq6 rfl, keepI hq7 rfl, keepI hq8 rfl, keepI hq9 rfl, keepI hq12 rfl, fun _ => Made.new' W _ _ (by omega) _ _ (by simp [also, hsF]), keepD dq11_10 rfl⟩
    · intro L act W hI hno hdep
      rw [HI.out] at hI
      obtain ⟨vq0, vq1, vq2, vq3, vq4, vq5, vq6, vq7, vq8, vq9, vq10, vq12, hact, hS, hsz, hq0, hq1, hq2, hq3, hq4, hq5, hq6, hq7, hq8, hq9, hq12, mq10, dq11_10⟩ := hI
      subst hact
      obtain rfl := hq8 (hdep ⟨8, .data⟩ (by simp) rfl)
      rw [hT0]; simp only [sets, List.setIfInBounds_toArray, List.set_cons_zero, List.set_cons_succ]
      with_reducible refine wp_put_made (Operand.tmp 7) (Operand.tmp 17) rfl vq10 ?_ (d) ?_ _ _ _ (mq10 (hdep ⟨10, .data⟩ (by simp) rfl)) hno ?_
      · rfl
      · rfl
      intro gx hgx hgn hg
      subst hgx
      rw [HI.out]
      exact ⟨vq0, vq1, vq2, vq3, vq4, vq5, vq6, vq7, wv d, vq9, (.pointer (some ⟨gx, 0, none⟩)), vq12, by simp only [sets, Act.put, List.setIfInBounds_toArray, List.set_cons_zero, List.set_cons_succ], (hS.setRow (by omega) (fun p hp => Nat.ne_of_lt (Nat.lt_of_lt_of_le (hlow.out p hp) hgn)) _), (by simpa [World.setRow] using hsz), keepI hq0 rfl, keepI hq1 rfl, keepI hq2 rfl, keepI hq3 rfl, keepI hq4 rfl, keepI hq5 rfl, keepI hq6 rfl, keepI hq7 rfl, fun _ => rfl, keepI hq9 rfl, keepI hq12 rfl, fun _ => by rw [also_self]; exact Made.stored hg hgn _ _, fun _ => alsoD (hdep ⟨10, .data⟩ (by simp) rfl)⟩
    · intro L act W hI hno hdep
      rw [HI.out] at hI
      obtain ⟨vq0, vq1, vq2, vq3, vq4, vq5, vq6, vq7, vq8, vq9, vq10, vq12, hact, hS, hsz, hq0, hq1, hq2, hq3, hq4, hq5, hq6, hq7, hq8, hq9, hq12, mq10, dq11_10⟩ := hI
      subst hact
      obtain rfl := hq9 (hdep ⟨9, .data⟩ (by simp) rfl)
      rw [hT0]; simp only [sets, List.setIfInBounds_toArray, List.set_cons_zero, List.set_cons_succ]
      go_simp
      rw [HI.out]
      exact ⟨vq0, vq1, vq2, vq3, vq4, vq5, vq6, vq7, vq8, .bool m, vq10, .bool m, by simp only [sets, List.setIfInBounds_toArray, List.set_cons_zero, List.set_cons_succ], hS, hsz, keepI hq0 rfl, keepI hq1 rfl, keepI hq2 rfl, keepI hq3 rfl, keepI hq4 rfl, keepI hq5 rfl, keepI hq6 rfl, keepI hq7 rfl, keepI hq8 rfl, fun _ => rfl, fun _ => rfl, fun h => by rw [also_of (by decide)] at h ⊢; exact mq10 h, keepD dq11_10 rfl⟩
  case fin =>
    intro L act W hall hI
    rw [HI.out] at hI
    obtain ⟨vq0, vq1, vq2, vq3, vq4, vq5, vq6, vq7, vq8, vq9, vq10, vq12, hact, hS, hsz, hq0, hq1, hq2, hq3, hq4, hq5, hq6, hq7, hq8, hq9, hq12, mq10, dq11_10⟩ := hI
    subst hact
    obtain rfl := hq0 (hall 0 (by decide))
    obtain rfl := hq1 (hall 1 (by decide))
    obtain rfl := hq2 (hall 2 (by decide))
    obtain rfl := hq3 (hall 3 (by decide))
    obtain rfl := hq4 (hall 4 (by decide))
    obtain rfl := hq5 (hall 5 (by decide))
    obtain rfl := hq6 (hall 6 (by decide))
    obtain rfl := hq7 (hall 7 (by decide))
    obtain rfl := hq8 (hall 8 (by decide))
    obtain rfl := hq9 (hall 9 (by decide))
    obtain rfl := hq12 (hall 12 (by decide))
    obtain ⟨g7, rfl, g7n, g7r⟩ := mq10 (hall 10 (by decide))
    rw [hall 11 (by decide)] at g7r
    have g7h := Lib.hid (show W.heap[g7]? = some (wrow (d)) from g7r); clear g7r
    clear hq0 hq1 hq2 hq3 hq4 hq5 hq6 hq7 hq8 hq9 hq12 mq10 dq11_10 hall
    rw [hT0]; simp only [sets, List.setIfInBounds_toArray, List.set_cons_zero, List.set_cons_succ]
    clear hT0 HI
    have hg7n : w.heap.size + 3 ≤ g7 := g7n
    cases m with
    | true =>
      have CA := Lib.hid (fun W => add_n d (PRM p) HDW.out (prm_lt p) z m2 (HU.out rfl) HM2.out W)
      go_wp2_with fail
      obtain ⟨I, hI0⟩ : ∃ I : Array Value → (Nat → Bool) → Act → World → Prop, I = (fun T0 L act W => ∃ vq0 vq1 vq2 vq3 vq4 vq5 vq6 vq7 vq8, act = ⟨sets T0 [(21, vq0), (22, vq1), (23, vq2), (24, vq3), (25, vq4), (26, vq5), (20, vq6), (27, vq7), (28, vq8)], []⟩ ∧ St w L0 W ∧ (L 0 = true → vq0 = wv (d)) ∧ (L 1 = true → vq1 = rptr g) ∧ (L 2 = true → vq2 = rptr g) ∧ (L 3 = true → vq3 = .pointer (some ⟨g, 0, none⟩)) ∧ (L 4 = true → vq4 = wv (PRM p)) ∧ (L 5 = true → vq5 = .tuple #[wv z, .bool m2]) ∧ (L 6 = true → vq6 = .tuple #[wv z, .bool m2]) ∧ (L 7 = true → vq7 = wv z) ∧ (L 8 = true → vq8 = .bool m2) ∧ (L 9 = false → W.heap[g7]? = some (wrow d)) ∧ (L 9 = true → W.heap[g7]? = some (wrow z)) ∧ (L 9 = true → L 0 = true)) := ⟨_, rfl⟩
      have HI := Lib.hid hI0; clear hI0
      refine wp_region_frame (by kernel_rfl) (by kernel_rfl) I (fun T0 hT0 => ⟨?start, ?step, ?fin⟩)
      case start =>
        rw [HI.out]
        exact ⟨T0.getD 21 undef, T0.getD 22 undef, T0.getD 23 undef, T0.getD 24 undef, T0.getD 25 undef, T0.getD 26 undef, T0.getD 20 undef, T0.getD 27 undef, T0.getD 28 undef, by (refine Eq.trans ?_ (congrArg (fun T => Act.mk T []) (sets_self [21, 22, 23, 24, 25, 26, 20, 27, 28] T0).symm)); rw [hT0], hS.drew, nofun, nofun, nofun, nofun, nofun, nofun, nofun, nofun, nofun, fun _ => g7h.out, nofun, nofun⟩
      case step =>
        refine ⟨?_, ?_, ?_, ?_, ?_, ?_, ?_, ?_, ?_, ?_, trivial⟩
        · intro L act W hI hno hdep
          rw [HI.out] at hI
          obtain ⟨vq0, vq1, vq2, vq3, vq4, vq5, vq6, vq7, vq8, hact, hS, hq0, hq1, hq2, hq3, hq4, hq5, hq6, hq7, hq8, oq9, nq9, dq9_0⟩ := hI
          subst hact
          rw [hT0]; simp only [sets, List.setIfInBounds_toArray, List.set_cons_zero, List.set_cons_succ]
          with_reducible refine wp_wide (Operand.tmp 7) rfl g7 ?_ (d) (oq9 (noF dq9_0 hno)) ?_
          · rfl
          rw [HI.out]
          exact ⟨wv (d), vq1, vq2, vq3, vq4, vq5, vq6, vq7, vq8, by simp only [sets, Act.put, List.setIfInBounds_toArray, List.set_cons_zero, List.set_cons_succ], hS, fun _ => rfl, keepI hq1 rfl, keepI hq2 rfl, keepI hq3 rfl, keepI hq4 rfl, keepI hq5 rfl, keepI hq6 rfl, keepI hq7 rfl, keepI hq8 rfl, keepF oq9, keepI nq9 rfl, keepD dq9_0 rfl⟩
        · intro L act W hI hno hdep
          rw [HI.out] at hI
          obtain ⟨vq0, vq1, vq2, vq3, vq4, vq5, vq6, vq7, vq8, hact, hS, hq0, hq1, hq2, hq3, hq4, hq5, hq6, hq7, hq8, oq9, nq9, dq9_0⟩ := hI
          subst hact
          rw [hT0]; simp only [sets, List.setIfInBounds_toArray, List.set_cons_zero, List.set_cons_succ]
          go_simp
          rw [HI.out]
          exact ⟨vq0, rptr g, vq2, vq3, vq4, vq5, vq6, vq7, vq8, by simp only [sets, List.setIfInBounds_toArray, List.set_cons_zero, List.set_cons_succ], hS, keepI hq0 rfl, fun _ => rfl, keepI hq2 rfl, keepI hq3 rfl, keepI hq4 rfl, keepI hq5 rfl, keepI hq6 rfl, keepI hq7 rfl, keepI hq8 rfl, keepF oq9, keepI nq9 rfl, keepD dq9_0 rfl⟩
        · intro L act W hI hno hdep
          rw [HI.out] at hI
          obtain ⟨vq0, vq1, vq2, vq3, vq4, vq5, vq6, vq7, vq8, hact, hS, hq0, hq1, hq2, hq3, hq4, hq5, hq6, hq7, hq8, oq9, nq9, dq9_0⟩ := hI
          subst hact
          obtain rfl := hq1 (hdep ⟨1, .data⟩ (by simp) rfl)
          rw [hT0]; simp only [sets, List.setIfInBounds_toArray, List.set_cons_zero, List.set_cons_succ]
          go_simp
          rw [HI.out]
          exact ⟨vq0, rptr g, rptr g, vq3, vq4, vq5, vq6, vq7, vq8, by simp only [sets, List.setIfInBounds_toArray, List.set_cons_zero, List.set_cons_succ], hS, keepI hq0 rfl, fun _ => rfl, fun _ => rfl, keepI hq3 rfl, keepI hq4 rfl, keepI hq5 rfl, keepI hq6 rfl, keepI hq7 rfl, keepI hq8 rfl, keepF oq9, keepI nq9 rfl, keepD dq9_0 rfl⟩
        · intro L act W hI hno hdep
          rw [HI.out] at hI
          obtain ⟨vq0, vq1, vq2, vq3, vq4, vq5, vq6, vq7, vq8, hact, hS, hq0, hq1, hq2, hq3, hq4, hq5, hq6, hq7, hq8, oq9, nq9, dq9_0⟩ := hI
          subst hact
          obtain rfl := hq2 (hdep ⟨2, .data⟩ (by simp) rfl)
          rw [hT0]; simp only [sets, List.setIfInBounds_toArray, List.set_cons_zero, List.set_cons_succ]
          go_simp
          rw [HI.out]
          exact ⟨vq0, vq1, rptr g, .pointer (some ⟨g, 0, none⟩), vq4, vq5, vq6, vq7, vq8, by simp only [sets, List.setIfInBounds_toArray, List.set_cons_zero, List.set_cons_succ], hS, keepI hq0 rfl, keepI hq1 rfl, fun _ => rfl, fun _ => rfl, keepI hq4 rfl, keepI hq5 rfl, keepI hq6 rfl, keepI hq7 rfl, keepI hq8 rfl, keepF oq9, keepI nq9 rfl, keepD dq9_0 rfl⟩
        · intro L act W hI hno hdep
          rw [HI.out] at hI
          obtain ⟨vq0, vq1, vq2, vq3, vq4, vq5, vq6, vq7, vq8, hact, hS, hq0, hq1, hq2, hq3, hq4, hq5, hq6, hq7, hq8, oq9, nq9, dq9_0⟩ := hI
          subst hact
          obtain rfl := hq3 (hdep ⟨3, .data⟩ (by simp) rfl)
          rw [hT0]; simp only [sets, List.setIfInBounds_toArray, List.set_cons_zero, List.set_cons_succ]
          with_reducible refine wp_part (Operand.tmp 24) rfl g 0 ?_ (PRM p) (ring_prime (hS.get mr)) ?_
          · rfl
          rw [HI.out]
          exact ⟨vq0, vq1, vq2, .pointer (some ⟨g, 0, none⟩), wv (PRM p), vq5, vq6, vq7, vq8, by simp only [sets, Act.put, List.setIfInBounds_toArray, List.set_cons_zero, List.set_cons_succ], hS, keepI hq0 rfl, keepI hq1 rfl, keepI hq2 rfl, fun _ => rfl, fun _ => rfl, keepI hq5 rfl, keepI hq6 rfl, keepI hq7 rfl, keepI hq8 rfl, keepF oq9, keepI nq9 rfl, keepD dq9_0 rfl⟩
        · intro L act W hI hno hdep
          rw [HI.out] at hI
          obtain ⟨vq0, vq1, vq2, vq3, vq4, vq5, vq6, vq7, vq8, hact, hS, hq0, hq1, hq2, hq3, hq4, hq5, hq6, hq7, hq8, oq9, nq9, dq9_0⟩ := hI
          subst hact
          obtain rfl := hq0 (hdep ⟨0, .data⟩ (by simp) rfl)
          obtain rfl := hq4 (hdep ⟨4, .data⟩ (by simp) rfl)
          rw [hT0]; simp only [sets, List.setIfInBounds_toArray, List.set_cons_zero, List.set_cons_succ]
          go_simp
          refine (CA.out _).mono ?_
          rintro e W2 ⟨rfl, hb⟩
          rw [HI.out]
          exact ⟨wv (d), vq1, vq2, vq3, wv (PRM p), .tuple #[wv z, .bool m2], vq6, vq7, vq8, by simp only [sets, List.setIfInBounds_toArray, List.set_cons_zero, List.set_cons_succ], (hS.keep hb), fun _ => rfl, keepI hq1 rfl, keepI hq2 rfl, keepI hq3 rfl, fun _ => rfl, fun _ => rfl, keepI hq6 rfl, keepI hq7 rfl, keepI hq8 rfl, keepF (fun h => keepH hb (oq9 h)), keepI (fun h => keepH hb (nq9 h)) rfl, keepD dq9_0 rfl⟩
        · intro L act W hI hno hdep
          rw [HI.out] at hI
          obtain ⟨vq0, vq1, vq2, vq3, vq4, vq5, vq6, vq7, vq8, hact, hS, hq0, hq1, hq2, hq3, hq4, hq5, hq6, hq7, hq8, oq9, nq9, dq9_0⟩ := hI
          subst hact
          obtain rfl := hq5 (hdep ⟨5, .data⟩ (by simp) rfl)
          rw [hT0]; simp only [sets, List.setIfInBounds_toArray, List.set_cons_zero, List.set_cons_succ]
          go_simp
          rw [HI.out]
          exact ⟨vq0, vq1, vq2, vq3, vq4, .tuple #[wv z, .bool m2], .tuple #[wv z, .bool m2], vq7, vq8, by simp only [sets, List.setIfInBounds_toArray, List.set_cons_zero, List.set_cons_succ], hS, keepI hq0 rfl, keepI hq1 rfl, keepI hq2 rfl, keepI hq3 rfl, keepI hq4 rfl, fun _ => rfl, fun _ => rfl, keepI hq7 rfl, keepI hq8 rfl, keepF oq9, keepI nq9 rfl, keepD dq9_0 rfl⟩
        · intro L act W hI hno hdep
          rw [HI.out] at hI
          obtain ⟨vq0, vq1, vq2, vq3, vq4, vq5, vq6, vq7, vq8, hact, hS, hq0, hq1, hq2, hq3, hq4, hq5, hq6, hq7, hq8, oq9, nq9, dq9_0⟩ := hI
          subst hact
          obtain rfl := hq6 (hdep ⟨6, .data⟩ (by simp) rfl)
          rw [hT0]; simp only [sets, List.setIfInBounds_toArray, List.set_cons_zero, List.set_cons_succ]
          go_simp
          rw [HI.out]
          exact ⟨vq0, vq1, vq2, vq3, vq4, vq5, .tuple #[wv z, .bool m2], wv z, vq8, by simp only [sets, List.setIfInBounds_toArray, List.set_cons_zero, List.set_cons_succ], hS, keepI hq0 rfl, keepI hq1 rfl, keepI hq2 rfl, keepI hq3 rfl, keepI hq4 rfl, keepI hq5 rfl, fun _ => rfl, fun _ => rfl, keepI hq8 rfl, keepF oq9, keepI nq9 rfl, keepD dq9_0 rfl⟩
        · intro L act W hI hno hdep
          rw [HI.out] at hI
          obtain ⟨vq0, vq1, vq2, vq3, vq4, vq5, vq6, vq7, vq8, hact, hS, hq0, hq1, hq2, hq3, hq4, hq5, hq6, hq7, hq8, oq9, nq9, dq9_0⟩ := hI
          subst hact
          obtain rfl := hq6 (hdep ⟨6, .data⟩ (by simp) rfl)
          rw [hT0]; simp only [sets, List.setIfInBounds_toArray, List.set_cons_zero, List.set_cons_succ]
          go_simp
          rw [HI.out]
          exact ⟨vq0, vq1, vq2, vq3, vq4, vq5, .tuple #[wv z, .bool m2], vq7, .bool m2, by simp only [sets, List.setIfInBounds_toArray, List.set_cons_zero, List.set_cons_succ], hS, keepI hq0 rfl, keepI hq1 rfl, keepI hq2 rfl, keepI hq3 rfl, keepI hq4 rfl, keepI hq5 rfl, fun _ => rfl, keepI hq7 rfl, fun _ => rfl, keepF oq9, keepI nq9 rfl, keepD dq9_0 rfl⟩
        · intro L act W hI hno hdep
          rw [HI.out] at hI
          obtain ⟨vq0, vq1, vq2, vq3, vq4, vq5, vq6, vq7, vq8, hact, hS, hq0, hq1, hq2, hq3, hq4, hq5, hq6, hq7, hq8, oq9, nq9, dq9_0⟩ := hI
          subst hact
          obtain rfl := hq7 (hdep ⟨7, .data⟩ (by simp) rfl)
          have hg := oq9 hno
          rw [hT0]; simp only [sets, List.setIfInBounds_toArray, List.set_cons_zero, List.set_cons_succ]
          with_reducible refine wp_put (Operand.tmp 7) (Operand.tmp 27) rfl g7 ?_ (z) (d) ?_ hg ?_
          · rfl
          · rfl
          rw [HI.out]
          exact ⟨vq0, vq1, vq2, vq3, vq4, vq5, vq6, wv z, vq8, by simp only [sets, Act.put, List.setIfInBounds_toArray, List.set_cons_zero, List.set_cons_succ], (hS.setRow (by omega) (fun q hq => Nat.ne_of_lt (Nat.lt_of_lt_of_le (hlow.out q hq) hg7n)) _), keepI hq0 rfl, keepI hq1 rfl, keepI hq2 rfl, keepI hq3 rfl, keepI hq4 rfl, keepI hq5 rfl, keepI hq6 rfl, fun _ => rfl, keepI hq8 rfl, alsoF, fun _ => setRow_heap W _ _ _ _ _ hg, fun _ => alsoD (hdep ⟨0, .phase⟩ (by simp) rfl)⟩
      case fin =>
        intro L act W hall hI
        rw [HI.out] at hI
        obtain ⟨vq0, vq1, vq2, vq3, vq4, vq5, vq6, vq7, vq8, hact, hS, hq0, hq1, hq2, hq3, hq4, hq5, hq6, hq7, hq8, oq9, nq9, dq9_0⟩ := hI
        subst hact
        obtain rfl := hq0 (hall 0 (by decide))
        obtain rfl := hq1 (hall 1 (by decide))
        obtain rfl := hq2 (hall 2 (by decide))
        obtain rfl := hq3 (hall 3 (by decide))
        obtain rfl := hq4 (hall 4 (by decide))
        obtain rfl := hq5 (hall 5 (by decide))
        obtain rfl := hq6 (hall 6 (by decide))
        obtain rfl := hq7 (hall 7 (by decide))
        obtain rfl := hq8 (hall 8 (by decide))
        have tbh := Lib.hid (nq9 (hall 9 (by decide)))
        clear hq0 hq1 hq2 hq3 hq4 hq5 hq6 hq7 hq8 oq9 nq9 dq9_0 hall
        rw [hT0]; simp only [sets, List.setIfInBounds_toArray, List.set_cons_zero, List.set_cons_succ]
        clear hT0 HI
        have S7 := hS.cons tbh.out
        go_wp2_with (first | (refine wpList_wide rfl _ rfl _ rfl S7 _ (List.Mem.head _) ?_) | (refine wpList_put rfl _ _ rfl (w.heap.size + 1 + 1) rfl z 0 rfl (hS.get mv2) ?_))
        refine bodyPost_ret (results_cell_row rfl _ _ (w.heap.size + 1 + 1) 73 (limbs4 (z)) (0, 0) _ rfl (set_row (hS.get mv2)) Try.underlying73 rfl (by kernel_rfl)) rfl ?_
        exact ⟨rfl, below_setRow hS.below (by omega) _⟩
    | false =>
      have hdz := HD.out rfl
      have S7 := hS.cons g7h.out
      clear HD HU
      subst hdz
      go_wp2_with (first | (refine wpList_wide rfl _ rfl _ rfl S7 _ (List.Mem.head _) ?_) | (refine wpList_put rfl _ _ rfl (w.heap.size + 1 + 1) rfl d 0 rfl (hS.get mv2) ?_))
      refine bodyPost_ret (results_cell_row rfl _ _ (w.heap.size + 1 + 1) 73 (limbs4 (d)) (0, 0) _ rfl (set_row (hS.get mv2)) Try.underlying73 rfl (by kernel_rfl)) rfl ?_
      exact ⟨rfl, below_setRow hS.below (by omega) _⟩
set_option maxHeartbeats 1000000 in
theorem modulus_c (g : Nat) (p : Bool) (w : World) (hr : w.heap[g]? = some (rrow p)) :
    Calls Try.prog 76 #[rptr g] w fun e w' => e = .returned (wv (PRM p)) ∧ Below w.heap.size w w' := by
  have R0 := Lib.hid hr
  have hlt := lt_of_block hr
  have c0 : w.cell? ⟨g, 0, none⟩ = some (.int .u64 (limb (PRM p) 0 : Nat)) := cell_of_row _ _ _ _ _ _ hr
  have c1 : w.cell? ⟨g, 1, none⟩ = some (.int .u64 (limb (PRM p) 1 : Nat)) := cell_of_row _ _ _ _ _ _ hr
  have c2 : w.cell? ⟨g, 2, none⟩ = some (.int .u64 (limb (PRM p) 2 : Nat)) := cell_of_row _ _ _ _ _ _ hr
  have c3 : w.cell? ⟨g, 3, none⟩ = some (.int .u64 (limb (PRM p) 3 : Nat)) := cell_of_row _ _ _ _ _ _ hr
  clear hr
  go_enter Try.func76, Try.ntmps76
  go_wp2
  go_returns
  exact ⟨rfl, by go_grown⟩
end Go.Proofs.Ytbaifchbpnmkpaa
namespace Go.Proofs.Ytbaifchbpnmkpaa
open Go.RowKit
theorem limbs4_get (n q : Nat) (h : q < 4) : (limbs4 n)[q]? = some (.int .u64 (limb n q : Nat)) := by
  match q, h with
  | 0, _ => rfl
  | 1, _ => rfl
  | 2, _ => rfl
  | 3, _ => rfl
theorem limb_bit (n i : Nat) : limb n (i / 64) / 2 ^ (i % 64) % 2 = n / 2 ^ i % 2 := by
  unfold limb
  have hr : i % 64 < 64 := Nat.mod_lt _ (by decide)
  have e : n / 2 ^ i = n / 18446744073709551616 ^ (i / 64) / 2 ^ (i % 64) := by
    rw [show (18446744073709551616 : Nat) = 2 ^ 64 from rfl, ← Nat.pow_mul, Nat.div_div_eq_div_mul, ← Nat.pow_add, show 64 * (i / 64) + i % 64 = i by omega]
  rw [e]
  generalize n / 18446744073709551616 ^ (i / 64) = x
  generalize i % 64 = r at hr
  have hs : (18446744073709551616 : Nat) = 2 ^ r * (2 * 2 ^ (63 - r)) := by
    rw [← Nat.mul_assoc, Nat.mul_comm (2 ^ r) 2, Nat.mul_assoc, ← Nat.pow_add, show r + (63 - r) = 63 by omega]
  rw [hs, Nat.mod_mul_right_div_self, Nat.mod_mul_right_mod]
theorem and_one (s : Nat) (hs : s < 18446744073709551616) : bits BinOp.and IntKind.u64 (s : Int) 1 = ((s % 2 : Nat) : Int) := by
  have := bits_and_u64_nat s 1 hs (by decide)
  rw [Nat.and_one_is_mod] at this
  exact this
theorem pow_sq (a e M : Nat) : (a ^ e % M) * (a ^ e % M) % M = a ^ (2 * e) % M := by
  rw [← Nat.mul_mod, ← Nat.pow_add, show e + e = 2 * e by omega]
theorem pow_one_more (a e M : Nat) : (a ^ e % M) * a % M = a ^ (e + 1) % M := by
  rw [Nat.pow_succ, Nat.mod_mul_mod]
theorem half_up' (a i : Nat) : a / 2 ^ i = 2 * (a / 2 ^ (i + 1)) + a / 2 ^ i % 2 := by
  rw [Nat.pow_succ, ← Nat.div_div_eq_div_mul]; omega
/-- What Pow's loop holds. -/
structure PowInv (w : World) (L0 : List (Nat × Obj)) (g7 a n k : Nat) (p : Bool) (wr : World) : Prop where
  st : St w L0 wr
  out : wr.heap[g7]? = some (wrow (a ^ (n / 2 ^ k) % PRM p))
  kn : k ≤ 256
set_option maxRecDepth 100000 in
set_option maxHeartbeats 4000000 in
theorem pow_rc (g a n : Nat) (p : Bool) (ha : a < W256) (hn : n < W256) (w : World) (hr : w.heap[g]? = some (rrow p)) :
    Calls Try.prog 70 #[rptr g, wv a, wv n] w fun e w' => e = .returned (wv (a ^ n % PRM p)) ∧ Below w.heap.size w w' := by
  have hM : ∀ x, x % PRM p < W256 := fun x => Nat.lt_trans (Nat.mod_lt _ (by have := prm_big p; omega)) (prm_lt p)
  have HM := Lib.hid hM
  have R0 := Lib.hid hr
  have HA := Lib.hid ha
  have CO := Lib.hid (fun W => of_n 1 1 rfl (by decide) W)
  have CB := Lib.hid (fun W => bits_c n hn W)
  have hbl : (blen n : Int) ≤ 256 := by have := (blen_le_iff n 256).2 (by rw [← W256_pow]; exact hn); omega
  have HB : Hid (n < 2 ^ blen n) := (blen_le_iff n (blen n)).1 (Nat.le_refl _)
  have hbl0 : (0 : Int) ≤ blen n := by omega
  clear hr ha hn hM
  go_enter Try.func70, Try.ntmps70
  have S0 := (((((St.nil w).cons R0.out)).alloc (wrow (a)) (w.heap.size) rfl).alloc (wrow (n)) (w.heap.size + 1) (by simp)).alloc (wrow (0)) (w.heap.size + 1 + 1) (by simp)
  obtain ⟨L0, hL0⟩ : ∃ L, L = [(w.heap.size + 1 + 1, wrow (0)), (w.heap.size + 1, wrow (n)), (w.heap.size, wrow (a)), (g, rrow p)] := ⟨_, rfl⟩
  rw [← hL0] at S0
  have mv0 : (w.heap.size, wrow (a)) ∈ L0 := by rw [hL0]; exact (List.Mem.tail _ (List.Mem.tail _ (List.Mem.head _)))
  have mv1 : (w.heap.size + 1, wrow (n)) ∈ L0 := by rw [hL0]; exact (List.Mem.tail _ (List.Mem.head _))
  have mv2 : (w.heap.size + 1 + 1, wrow (0)) ∈ L0 := by rw [hL0]; exact (List.Mem.head _)
  have mr : (g, rrow p) ∈ L0 := by rw [hL0]; exact (List.Mem.tail _ (List.Mem.tail _ (List.Mem.tail _ (List.Mem.head _))))
  have hlow : Hid (∀ q, q ∈ L0 → q.1 < w.heap.size + 3) := by
    rw [hL0]; intro q hq; have hg0 := lt_of_block R0.out; simp at hq; rcases hq with rfl | rfl | rfl | rfl <;> simp <;> omega
  clear hL0
  go_wp2_with fail
  refine (CO.out _).mono ?_
  rintro e W1 ⟨rfl, hb⟩
  have S1 := S0.keep hb
  have h1s : Hid (w.heap.size + 3 ≤ W1.heap.size) := by have := hb.size; simp at this; exact this
  clear hb
  have S1' := S1.alloc0 (wrow 1)
  have O1 : Hid ((W1.alloc (wrow 1)).heap[W1.heap.size]? = some (wrow 1)) := lastH _ _ _ rfl
  go_wp2_with (first | (refine wpList_wide rfl _ rfl _ rfl (S1') _ mv1 ?_) | fail)
  refine (CB.out _).mono ?_
  rintro e W2 ⟨rfl, hb⟩
  have I0 : Hid (PowInv w L0 W1.heap.size a n (blen n) p W2) := ⟨S1'.keep hb, by rw [Nat.div_eq_of_lt HB.out, Nat.pow_zero, Nat.mod_eq_of_lt (by have := prm_big p; omega)]; exact keepH hb O1.out, by omega⟩
  clear hb S1 S1' O1 S0
  go_wp2_with fail
  go_loopw [8] (fun iv wr => ∃ k : Nat, iv = .int .i64 ((k : Int) - 1) ∧ Hid (PowInv w L0 W1.heap.size a n k p wr)) (fun iv _ => (intOf iv + 1).toNat)
  case atStart => exact ⟨blen n, rfl, I0⟩
  case round =>
    obtain ⟨k, rfl, J⟩ := hrel
    by_cases hk0 : k = 0
    · subst hk0
      have SJ := J.out.st
      have OJ := Lib.hid J.out.out
      have S2 := SJ.cons OJ.out
      go_wp2_with (first | (refine wpList_wide rfl _ rfl _ rfl S2 _ (List.Mem.head _) ?_) | (refine wpList_put rfl _ _ rfl (w.heap.size + 1 + 1) rfl (a ^ (n / 2 ^ 0) % PRM p) 0 rfl (SJ.get mv2) ?_))
      refine bodyPost_ret (results_cell_row rfl _ _ (w.heap.size + 1 + 1) 73 (limbs4 (a ^ (n / 2 ^ 0) % PRM p)) (0, 0) _ rfl (set_row (SJ.get mv2)) Try.underlying73 rfl (by kernel_rfl)) rfl ?_
      exact ⟨by rw [Nat.pow_zero, Nat.div_one], below_setRow SJ.below (by omega) _⟩
    · obtain ⟨i, rfl⟩ : ∃ i, k = i + 1 := ⟨k - 1, by omega⟩
      have em : (((i + 1 : Nat) : Int) - 1) = i := by omega
      rw [em]
      have hk := J.out.kn
      have SJ := J.out.st
      obtain ⟨o, ho⟩ : ∃ o, a ^ (n / 2 ^ (i + 1)) % PRM p = o := ⟨_, rfl⟩
      have OJ : Hid (wr.heap[W1.heap.size]? = some (wrow o)) := by rw [← ho]; exact J.out.out
      have hoW : o < W256 := by rw [← ho]; exact HM.out _
      obtain ⟨o2, ho2⟩ : ∃ o2, o * o % PRM p = o2 := ⟨_, rfl⟩
      have ho2W : o2 < W256 := by rw [← ho2]; exact HM.out _
      have CM := Lib.hid (fun W h => mul_rc g o o p hoW hoW W h)
      rw [ho2] at CM
      have CM2 := Lib.hid (fun W h => mul_rc g o2 a p ho2W HA.out W h)
      have HO2 : Hid (o2 = a ^ (2 * (n / 2 ^ (i + 1))) % PRM p) := by rw [← ho2, ← ho]; exact pow_sq _ _ _
      obtain ⟨q, hq⟩ : ∃ q, i / 64 = q := ⟨_, rfl⟩
      obtain ⟨r, hr⟩ : ∃ r, i % 64 = r := ⟨_, rfl⟩
      have hqi : (i : Int) / 64 = q := by omega
      have hri : (i : Int) % 64 = r := by omega
      have hi0 : (i : Int) ≤ 256 := by omega
      have hq4 : q < 4 := by omega
      have hq4i : (q : Int) < 4 := by omega
      have hr64 : (r : Int) < 64 := by omega
      obtain ⟨s, hs⟩ : ∃ s, limb n q / 2 ^ r = s := ⟨_, rfl⟩
      have hsi : ((limb n q : Nat) : Int) / 2 ^ r = s := by rw [cast_div_pow, hs]
      have hsW : s < 18446744073709551616 := by rw [← hs]; exact Nat.lt_of_le_of_lt (Nat.div_le_self _ _) (limb_lt n q)
      have hbit : Hid (s % 2 = n / 2 ^ i % 2) := by rw [← hs, ← hq, ← hr]; exact limb_bit n i
      have hand := and_one s hsW
      have hup := Lib.hid (half_up' n i)
      clear em hk0 hq hr hs ho ho2 hsW hoW ho2W
      have S2 := SJ.cons OJ.out
      go_wp2_with (first | (refine wpList_wide rfl _ rfl _ rfl S2 _ (List.Mem.head _) ?_) | fail)
      refine (CM.out _ (SJ.get mr)).mono ?_
      rintro e W3 ⟨rfl, hb⟩
      have S3 := SJ.keep hb
      have O3 := Lib.hid (keepH hb OJ.out)
      have h13 : Hid (W1.heap.size < W3.heap.size) := lt_of_block O3.out
      clear hb
      have hap : Hid (∀ q, q ∈ L0 → q.1 ≠ W1.heap.size) := fun q hq => by have := hlow.out q hq; have := h1s.out; omega
      have S4 := S3.setRow (g := W1.heap.size) (by have := h1s.out; omega) hap.out (limbs4 o2)
      have O4 := Lib.hid (set_row (z := o2) O3.out)
      have ce : (W3.setRow W1.heap.size (limbs4 o2)).cell? ⟨w.heap.size + 1, q, none⟩ = some (.int .u64 (limb n q : Nat)) := by
        rw [cell_of_row _ _ _ _ _ _ (S4.get mv1), limbs4_get n q hq4]
      by_cases hb1 : s % 2 = 1
      · rw [hb1] at hand
        have S5 := S4.cons O4.out
        have HF : Hid (o2 * a % PRM p = a ^ (n / 2 ^ i) % PRM p) := by
          rw [HO2.out, pow_one_more, hup.out, ← hbit.out, hb1]; rfl
        go_wp2_with (first | (refine wpList_put rfl _ _ rfl W1.heap.size rfl o2 o rfl O3.out ?_) | (refine wpList_wide rfl _ rfl _ rfl S5 _ (List.Mem.head _) ?_) | (refine wpList_wide rfl _ rfl _ rfl S5 _ (List.Mem.tail _ mv0) ?_))
        refine (CM2.out _ (S4.get mr)).mono ?_
        rintro e W6 ⟨rfl, hb⟩
        have S6 := S4.keep hb
        have O6 := Lib.hid (keepH hb O4.out)
        clear hb
        have FI : Hid (PowInv w L0 W1.heap.size a n i p (W6.setRow W1.heap.size (limbs4 (o2 * a % PRM p)))) := ⟨S6.setRow (by have := h1s.out; omega) hap.out _, by rw [← HF.out]; exact set_row O6.out, by omega⟩
        go_wp2_with (refine wpList_put rfl _ _ rfl W1.heap.size rfl (o2 * a % PRM p) o2 rfl O6.out ?_)
        go_roundw
        case rel => exact ⟨i, rfl, FI⟩
        case measure => simp [intOf]
      · have hb0 : s % 2 = 0 := by omega
        rw [hb0] at hand
        have FI : Hid (PowInv w L0 W1.heap.size a n i p (W3.setRow W1.heap.size (limbs4 o2))) := ⟨S4, by
          have e : o2 = a ^ (n / 2 ^ i) % PRM p := by rw [HO2.out, hup.out, ← hbit.out, hb0]; rfl
          rw [← e]; exact O4.out, by omega⟩
        clear hb1
        go_wp2_with (first | (refine wpList_put rfl _ _ rfl W1.heap.size rfl o2 o rfl O3.out ?_))
        go_roundw
        case rel => exact ⟨i, rfl, FI⟩
        case measure => simp [intOf]
theorem results_cell_tmp {P : Program} {fn : Func} {p u : Tmp} {ty : TypeId} (h : fn.results = #[.cell p ty, .tmp u]) (tmps : Array Value) (w : World) (g : Nat) (t : TypeId) (cs : Array Value) (fr : Nat × Nat) (d : TypeDesc)
    (hp : tmps.getD p undef = .pointer (some ⟨g, 0, none⟩)) (hg : w.heap[g]? = some (.cells cs t fr))
    (hu : P.underlying ty = some d) (hd : (match d with | .struct _ | .array _ _ => true | _ => false) = true) (hi : (P.info? ty).map (·.size) = some cs.size) :
    (results fn tmps).run P w = .ok (.tuple #[.agg cs, tmps.getD u undef]) w := by
  have hp' : tmps[p]?.getD undef = .pointer (some ⟨g, 0, none⟩) := by simpa using hp
  simp [results, h, hp', asAddr, run_loadVar_row w g t ty cs fr d hg hu hd hi]
set_option maxRecDepth 100000 in
set_option maxHeartbeats 4000000 in
/-- Inv: the power of the prime less 2; nothing has none. -/
theorem inv_rc (g a : Nat) (p : Bool) (ha : a < W256) (w : World) (hr : w.heap[g]? = some (rrow p)) :
    Calls Try.prog 60 #[rptr g, wv a] w fun e w' => e = .returned (.tuple #[wv (if a % PRM p = 0 then 0 else a ^ (PRM p - 2) % PRM p), .int .i64 (if a % PRM p = 0 then 31 else 0)]) ∧ Below w.heap.size w w' := by
  have q1 := eql_wide0; have q2 := wide_guard
  have hp2 := prm_big p; have hpl := prm_lt p
  have R0 := Lib.hid hr
  have CF := Lib.hid (fun W h => one_f g a p ha W h)
  have CO := Lib.hid (fun W => of_n 2 2 rfl (by decide) W)
  have CS := Lib.hid (fun W => sub_n (PRM p) 2 (prm_lt p) (by decide) (PRM p - 2) false (by rw [show PRM p + W256 - 2 = PRM p - 2 + W256 by omega, Nat.add_mod_right, Nat.mod_eq_of_lt (by omega)]) (by simp; omega) W)
  have CP := Lib.hid (fun W h => pow_rc g a (PRM p - 2) p ha (by omega) W h)
  obtain ⟨t, ht⟩ : ∃ t, a % PRM p = t := ⟨_, rfl⟩
  have htW : t < W256 := by rw [← ht]; exact Nat.lt_trans (Nat.mod_lt _ (by omega)) hpl
  rw [ht] at CF
  rw [ht]
  clear hr ha hp2 hpl ht
  by_cases h0 : t = 0
  · have e0 : weq t 0 = true := eql_wide_iff htW (by decide) h0
    have H0 := Lib.hid h0
    clear h0 htW
    go_enter Try.func60, Try.ntmps60
    have S0 := ((((St.nil w).cons R0.out)).alloc (wrow (a)) (w.heap.size) rfl).alloc (wrow (0)) (w.heap.size + 1) (by simp)
    obtain ⟨L0, hL0⟩ : ∃ L, L = [(w.heap.size + 1, wrow (0)), (w.heap.size, wrow (a)), (g, rrow p)] := ⟨_, rfl⟩
    rw [← hL0] at S0
    have mv0 : (w.heap.size, wrow (a)) ∈ L0 := by rw [hL0]; exact (List.Mem.tail _ (List.Mem.head _))
    have mv1 : (w.heap.size + 1, wrow (0)) ∈ L0 := by rw [hL0]; exact (List.Mem.head _)
    have mr : (g, rrow p) ∈ L0 := by rw [hL0]; exact (List.Mem.tail _ (List.Mem.tail _ (List.Mem.head _)))
    have hlow : Hid (∀ q, q ∈ L0 → q.1 < w.heap.size + 2) := by
      rw [hL0]; intro q hq; have hg0 := lt_of_block R0.out; simp at hq; rcases hq with rfl | rfl | rfl <;> simp <;> omega
    clear hL0
    go_wp2_with (first | (refine wpList_wide rfl _ rfl _ rfl (S0) _ mv0 ?_) | fail)
    refine (CF.out _ (S0.get mr)).mono ?_
    rintro e W1 ⟨rfl, hb⟩
    have S1 := S0.keep hb
    clear hb
    go_wp2_with (refine wpList_put rfl _ _ rfl (w.heap.size + 1) rfl 0 0 rfl (S1.get mv1) ?_)
    refine bodyPost_ret (results_cell_tmp rfl _ _ (w.heap.size + 1) 73 (limbs4 (0)) (0, 0) _ rfl (set_row (S1.get mv1)) Try.underlying73 rfl (by kernel_rfl)) rfl ?_
    exact ⟨by (try rw [if_pos H0.out]); (try rw [if_pos H0.out]); rfl, below_setRow S1.below (by omega) _⟩
  · have e0 : weq t 0 = false := weq_false htW (by decide) h0
    have H0 := Lib.hid h0
    clear h0 htW
    go_enter Try.func60, Try.ntmps60
    have S0 := ((((St.nil w).cons R0.out)).alloc (wrow (a)) (w.heap.size) rfl).alloc (wrow (0)) (w.heap.size + 1) (by simp)
    obtain ⟨L0, hL0⟩ : ∃ L, L = [(w.heap.size + 1, wrow (0)), (w.heap.size, wrow (a)), (g, rrow p)] := ⟨_, rfl⟩
    rw [← hL0] at S0
    have mv0 : (w.heap.size, wrow (a)) ∈ L0 := by rw [hL0]; exact (List.Mem.tail _ (List.Mem.head _))
    have mv1 : (w.heap.size + 1, wrow (0)) ∈ L0 := by rw [hL0]; exact (List.Mem.head _)
    have mr : (g, rrow p) ∈ L0 := by rw [hL0]; exact (List.Mem.tail _ (List.Mem.tail _ (List.Mem.head _)))
    have hlow : Hid (∀ q, q ∈ L0 → q.1 < w.heap.size + 2) := by
      rw [hL0]; intro q hq; have hg0 := lt_of_block R0.out; simp at hq; rcases hq with rfl | rfl | rfl <;> simp <;> omega
    clear hL0
    go_wp2_with (first | (refine wpList_wide rfl _ rfl _ rfl (S0) _ mv0 ?_) | fail)
    refine (CF.out _ (S0.get mr)).mono ?_
    rintro e W1 ⟨rfl, hb⟩
    have S1 := S0.keep hb
    have hbase : w.heap.size + 2 ≤ W1.heap.size := by have := hb.size; simp at this; exact this
    clear hb
    go_wp2_with fail
    obtain ⟨I, hI0⟩ : ∃ I : Array Value → (Nat → Bool) → Act → World → Prop, I = (fun T0 L act W => ∃ vq0 vq1 vq2 vq3 vq4 vq5 vq6 vq7 vq8 vq9 vq11, act = ⟨sets T0 [(15, vq0), (16, vq1), (17, vq2), (18, vq3), (19, vq4), (20, vq5), (14, vq6), (21, vq7), (22, vq8), (6, vq9), (7, vq11)], []⟩ ∧ St w L0 W ∧ w.heap.size + 2 ≤ W.heap.size ∧ (L 0 = true → vq0 = rptr g) ∧ (L 1 = true → vq1 = rptr g) ∧ (L 2 = true → vq2 = .pointer (some ⟨g, 0, none⟩)) ∧ (L 3 = true → vq3 = wv (PRM p)) ∧ (L 4 = true → vq4 = wv 2) ∧ (L 5 = true → vq5 = .tuple #[wv (PRM p - 2), .bool false]) ∧ (L 6 = true → vq6 = .tuple #[wv (PRM p - 2), .bool false]) ∧ (L 7 = true → vq7 = wv (PRM p - 2)) ∧ (L 8 = true → vq8 = .bool false) ∧ (L 11 = true → vq11 = .bool false) ∧ (L 9 = true → Made W 73 (w.heap.size + 2) vq9 (L 10) (limbs4 0) (limbs4 (PRM p - 2))) ∧ (L 10 = true → L 9 = true)) := ⟨_, rfl⟩
    have HI := Lib.hid hI0; clear hI0
    refine wp_region_frame (by kernel_rfl) (by kernel_rfl) I (fun T0 hT0 => ⟨?start, ?step, ?fin⟩)
    case start =>
      rw [HI.out]
      exact ⟨T0.getD 15 undef, T0.getD 16 undef, T0.getD 17 undef, T0.getD 18 undef, T0.getD 19 undef, T0.getD 20 undef, T0.getD 14 undef, T0.getD 21 undef, T0.getD 22 undef, T0.getD 6 undef, T0.getD 7 undef, by (refine Eq.trans ?_ (congrArg (fun T => Act.mk T []) (sets_self [15, 16, 17, 18, 19, 20, 14, 21, 22, 6, 7] T0).symm)); rw [hT0], S1.drew, hbase, nofun, nofun, nofun, nofun, nofun, nofun, nofun, nofun, nofun, nofun, nofun, nofun⟩
    case step =>
      refine ⟨?_, ?_, ?_, ?_, ?_, ?_, ?_, ?_, ?_, ?_, ?_, ?_, trivial⟩
      · intro L act W hI hno hdep
        rw [HI.out] at hI
        obtain ⟨vq0, vq1, vq2, vq3, vq4, vq5, vq6, vq7, vq8, vq9, vq11, hact, hS, hsz, hq0, hq1, hq2, hq3, hq4, hq5, hq6, hq7, hq8, hq11, mq9, dq10_9⟩ := hI
        subst hact
        rw [hT0]; simp only [sets, List.setIfInBounds_toArray, List.set_cons_zero, List.set_cons_succ]
        go_simp
        rw [HI.out]
        exact ⟨rptr g, vq1, vq2, vq3, vq4, vq5, vq6, vq7, vq8, vq9, vq11, by simp only [sets, List.setIfInBounds_toArray, List.set_cons_zero, List.set_cons_succ], hS, hsz, fun _ => rfl, keepI hq1 rfl, keepI hq2 rfl, keepI hq3 rfl, keepI hq4 rfl, keepI hq5 rfl, keepI hq6 rfl, keepI hq7 rfl, keepI hq8 rfl, keepI hq11 rfl, fun h => by rw [also_of (by decide)] at h ⊢; exact mq9 h, keepD dq10_9 rfl⟩
      · intro L act W hI hno hdep
        rw [HI.out] at hI
        obtain ⟨vq0, vq1, vq2, vq3, vq4, vq5, vq6, vq7, vq8, vq9, vq11, hact, hS, hsz, hq0, hq1, hq2, hq3, hq4, hq5, hq6, hq7, hq8, hq11, mq9, dq10_9⟩ := hI
        subst hact
        obtain rfl := hq0 (hdep ⟨0, .data⟩ (by simp) rfl)
        rw [hT0]; simp only [sets, List.setIfInBounds_toArray, List.set_cons_zero, List.set_cons_succ]
        go_simp
        rw [HI.out]
        exact ⟨rptr g, rptr g, vq2, vq3, vq4, vq5, vq6, vq7, vq8, vq9, vq11, by simp only [sets, List.setIfInBounds_toArray, List.set_cons_zero, List.set_cons_succ], hS, hsz, fun _ => rfl, fun _ => rfl, keepI hq2 rfl, keepI hq3 rfl, keepI hq4 rfl, keepI hq5 rfl, keepI hq6 rfl, keepI hq7 rfl, keepI hq8 rfl, keepI hq11 rfl, fun h => by rw [also_of (by decide)] at h ⊢; exact mq9 h, keepD dq10_9 rfl⟩
      · intro L act W hI hno hdep
        rw [HI.out] at hI
        obtain ⟨vq0, vq1, vq2, vq3, vq4, vq5, vq6, vq7, vq8, vq9, vq11, hact, hS, hsz, hq0, hq1, hq2, hq3, hq4, hq5, hq6, hq7, hq8, hq11, mq9, dq10_9⟩ := hI
        subst hact
        obtain rfl := hq1 (hdep ⟨1, .data⟩ (by simp) rfl)
        rw [hT0]; simp only [sets, List.setIfInBounds_toArray, List.set_cons_zero, List.set_cons_succ]
        go_simp
        rw [HI.out]
        exact ⟨vq0, rptr g, .pointer (some ⟨g, 0, none⟩), vq3, vq4, vq5, vq6, vq7, vq8, vq9, vq11, by simp only [sets, List.setIfInBounds_toArray, List.set_cons_zero, List.set_cons_succ], hS, hsz, keepI hq0 rfl, fun _ => rfl, fun _ => rfl, keepI hq3 rfl, keepI hq4 rfl, keepI hq5 rfl, keepI hq6 rfl, keepI hq7 rfl, keepI hq8 rfl, keepI hq11 rfl, fun h => by rw [also_of (by decide)] at h ⊢; exact mq9 h, keepD dq10_9 rfl⟩
      · intro L act W hI hno hdep
        rw [HI.out] at hI
        obtain ⟨vq0, vq1, vq2, vq3, vq4, vq5, vq6, vq7, vq8, vq9, vq11, hact, hS, hsz, hq0, hq1, hq2, hq3, hq4, hq5, hq6, hq7, hq8, hq11, mq9, dq10_9⟩ := hI
        subst hact
        obtain rfl := hq2 (hdep ⟨2, .data⟩ (by simp) rfl)
        rw [hT0]; simp only [sets, List.setIfInBounds_toArray, List.set_cons_zero, List.set_cons_succ]
        with_reducible refine wp_part (Operand.tmp 17) rfl g 0 ?_ (PRM p) (ring_prime (hS.get mr)) ?_
        · rfl
        rw [HI.out]
        exact ⟨vq0, vq1, .pointer (some ⟨g, 0, none⟩), wv (PRM p), vq4, vq5, vq6, vq7, vq8, vq9, vq11, by simp only [sets, Act.put, List.setIfInBounds_toArray, List.set_cons_zero, List.set_cons_succ], hS, hsz, keepI hq0 rfl, keepI hq1 rfl, fun _ => rfl, fun _ => rfl, keepI hq4 rfl, keepI hq5 rfl, keepI hq6 rfl, keepI hq7 rfl, keepI hq8 rfl, keepI hq11 rfl, fun h => by rw [also_of (by decide)] at h ⊢; exact mq9 h, keepD dq10_9 rfl⟩
      · intro L act W hI hno hdep
        rw [HI.out] at hI
        obtain ⟨vq0, vq1, vq2, vq3, vq4, vq5, vq6, vq7, vq8, vq9, vq11, hact, hS, hsz, hq0, hq1, hq2, hq3, hq4, hq5, hq6, hq7, hq8, hq11, mq9, dq10_9⟩ := hI
        subst hact
        rw [hT0]; simp only [sets, List.setIfInBounds_toArray, List.set_cons_zero, List.set_cons_succ]
        go_simp
        refine (CO.out _).mono ?_
        rintro e W2 ⟨rfl, hb⟩
        have hsz2 := Nat.le_trans hsz hb.size
        rw [HI.out]
        exact ⟨vq0, vq1, vq2, vq3, wv 2, vq5, vq6, vq7, vq8, vq9, vq11, by simp only [sets, List.setIfInBounds_toArray, List.set_cons_zero, List.set_cons_succ], (hS.keep hb), hsz2, keepI hq0 rfl, keepI hq1 rfl, keepI hq2 rfl, keepI hq3 rfl, fun _ => rfl, keepI hq5 rfl, keepI hq6 rfl, keepI hq7 rfl, keepI hq8 rfl, keepI hq11 rfl, fun h => by rw [also_of (by decide)] at h ⊢; exact (fun h => (mq9 h).keep hb) h, keepD dq10_9 rfl⟩
      · intro L act W hI hno hdep
        rw [HI.out] at hI
        obtain ⟨vq0, vq1, vq2, vq3, vq4, vq5, vq6, vq7, vq8, vq9, vq11, hact, hS, hsz, hq0, hq1, hq2, hq3, hq4, hq5, hq6, hq7, hq8, hq11, mq9, dq10_9⟩ := hI
        subst hact
        obtain rfl := hq3 (hdep ⟨3, .data⟩ (by simp) rfl)
        obtain rfl := hq4 (hdep ⟨4, .data⟩ (by simp) rfl)
        rw [hT0]; simp only [sets, List.setIfInBounds_toArray, List.set_cons_zero, List.set_cons_succ]
        go_simp
        refine (CS.out _).mono ?_
        rintro e W2 ⟨rfl, hb⟩
        have hsz2 := Nat.le_trans hsz hb.size
        rw [HI.out]
        exact ⟨vq0, vq1, vq2, wv (PRM p), wv 2, .tuple #[wv (PRM p - 2), .bool false], vq6, vq7, vq8, vq9, vq11, by simp only [sets, List.setIfInBounds_toArray, List.set_cons_zero, List.set_cons_succ], (hS.keep hb), hsz2, keepI hq0 rfl, keepI hq1 rfl, keepI hq2 rfl, fun _ => rfl, fun _ => rfl, fun _ => rfl, keepI hq6 rfl, keepI hq7 rfl, keepI hq8 rfl, keepI hq11 rfl, fun h => by rw [also_of (by decide)] at h ⊢; exact (fun h => (mq9 h).keep hb) h, keepD dq10_9 rfl⟩
      · intro L act W hI hno hdep
        rw [HI.out] at hI
        obtain ⟨vq0, vq1, vq2, vq3, vq4, vq5, vq6, vq7, vq8, vq9, vq11, hact, hS, hsz, hq0, hq1, hq2, hq3, hq4, hq5, hq6, hq7, hq8, hq11, mq9, dq10_9⟩ := hI
        subst hact
        obtain rfl := hq5 (hdep ⟨5, .data⟩ (by simp) rfl)
        rw [hT0]; simp only [sets, List.setIfInBounds_toArray, List.set_cons_zero, List.set_cons_succ]
        go_simp
        rw [HI.out]
        exact ⟨vq0, vq1, vq2, vq3, vq4, .tuple #[wv (PRM p - 2), .bool false], .tuple #[wv (PRM p - 2), .bool false], vq7, vq8, vq9, vq11, by simp only [sets, List.setIfInBounds_toArray, List.set_cons_zero, List.set_cons_succ], hS, hsz, keepI hq0 rfl, keepI hq1 rfl, keepI hq2 rfl, keepI hq3 rfl, keepI hq4 rfl, fun _ => rfl, fun _ => rfl, keepI hq7 rfl, keepI hq8 rfl, keepI hq11 rfl, fun h => by rw [also_of (by decide)] at h ⊢; exact mq9 h, keepD dq10_9 rfl⟩
      · intro L act W hI hno hdep
        rw [HI.out] at hI
        obtain ⟨vq0, vq1, vq2, vq3, vq4, vq5, vq6, vq7, vq8, vq9, vq11, hact, hS, hsz, hq0, hq1, hq2, hq3, hq4, hq5, hq6, hq7, hq8, hq11, mq9, dq10_9⟩ := hI
        subst hact
        obtain rfl := hq6 (hdep ⟨6, .data⟩ (by simp) rfl)
        rw [hT0]; simp only [sets, List.setIfInBounds_toArray, List.set_cons_zero, List.set_cons_succ]
        go_simp
        rw [HI.out]
        exact ⟨vq0, vq1, vq2, vq3, vq4, vq5, .tuple #[wv (PRM p - 2), .bool false], wv (PRM p - 2), vq8, vq9, vq11, by simp only [sets, List.setIfInBounds_toArray, List.set_cons_zero, List.set_cons_succ], hS, hsz, keepI hq0 rfl, keepI hq1 rfl, keepI hq2 rfl, keepI hq3 rfl, keepI hq4 rfl, keepI hq5 rfl, fun _ => rfl, fun _ => rfl, keepI hq8 rfl, keepI hq11 rfl, fun h => by rw [also_of (by decide)] at h ⊢; exact mq9 h, keepD dq10_9 rfl⟩
      · intro L act W hI hno hdep
        rw [HI.out] at hI
        obtain ⟨vq0, vq1, vq2, vq3, vq4, vq5, vq6, vq7, vq8, vq9, vq11, hact, hS, hsz, hq0, hq1, hq2, hq3, hq4, hq5, hq6, hq7, hq8, hq11, mq9, dq10_9⟩ := hI
        subst hact
        obtain rfl := hq6 (hdep ⟨6, .data⟩ (by simp) rfl)
        rw [hT0]; simp only [sets, List.setIfInBounds_toArray, List.set_cons_zero, List.set_cons_succ]
        go_simp
        rw [HI.out]
        exact ⟨vq0, vq1, vq2, vq3, vq4, vq5, .tuple #[wv (PRM p - 2), .bool false], vq7, .bool false, vq9, vq11, by simp only [sets, List.setIfInBounds_toArray, List.set_cons_zero, List.set_cons_succ], hS, hsz, keepI hq0 rfl, keepI hq1 rfl, keepI hq2 rfl, keepI hq3 rfl, keepI hq4 rfl, keepI hq5 rfl, fun _ => rfl, keepI hq7 rfl, fun _ => rfl, keepI hq11 rfl, fun h => by rw [also_of (by decide)] at h ⊢; exact mq9 h, keepD dq10_9 rfl⟩
      · intro L act W hI hno hdep
        rw [HI.out] at hI
        obtain ⟨vq0, vq1, vq2, vq3, vq4, vq5, vq6, vq7, vq8, vq9, vq11, hact, hS, hsz, hq0, hq1, hq2, hq3, hq4, hq5, hq6, hq7, hq8, hq11, mq9, dq10_9⟩ := hI
        subst hact
        have hsF := noF dq10_9 hno
        rw [hT0]; simp only [sets, List.setIfInBounds_toArray, List.set_cons_zero, List.set_cons_succ]
        go_simp
        rw [HI.out]
        exact ⟨vq0, vq1, vq2, vq3, vq4, vq5, vq6, vq7, vq8, (.pointer (some ⟨W.heap.size, 0, none⟩)), vq11, by simp only [sets, List.setIfInBounds_toArray, List.set_cons_zero, List.set_cons_succ], (hS.alloc0 _), (by simp at *; omega), keepI hq0 rfl, keepI hq1 rfl, keepI hq2 rfl, keepI hq3 rfl, keepI hq4 rfl, keepI hq5 rfl, keepI hq6 rfl, keepI hq7 rfl, keepI hq8 rfl, keepI hq11 rfl, fun _ => Made.new' W _ _ (by omega) _ _ (by simp [also, hsF]), keepD dq10_9 rfl⟩
      · intro L act W hI hno hdep
        rw [HI.out] at hI
        obtain ⟨vq0, vq1, vq2, vq3, vq4, vq5, vq6, vq7, vq8, vq9, vq11, hact, hS, hsz, hq0, hq1, hq2, hq3, hq4, hq5, hq6, hq7, hq8, hq11, mq9, dq10_9⟩ := hI
        subst hact
        obtain rfl := hq7 (hdep ⟨7, .data⟩ (by simp) rfl)
        rw [hT0]; simp only [sets, List.setIfInBounds_toArray, List.set_cons_zero, List.set_cons_succ]
        with_reducible refine wp_put_made (Operand.tmp 6) (Operand.tmp 21) rfl vq9 ?_ (PRM p - 2) ?_ _ _ _ (mq9 (hdep ⟨9, .data⟩ (by simp) rfl)) hno ?_
        · rfl
        · rfl
        intro gx hgx hgn hg
        subst hgx
        rw [HI.out]
        exact ⟨vq0, vq1, vq2, vq3, vq4, vq5, vq6, wv (PRM p - 2), vq8, (.pointer (some ⟨gx, 0, none⟩)), vq11, by simp only [sets, Act.put, List.setIfInBounds_toArray, List.set_cons_zero, List.set_cons_succ], (hS.setRow (by omega) (fun p hp => Nat.ne_of_lt (Nat.lt_of_lt_of_le (hlow.out p hp) hgn)) _), (by simpa [World.setRow] using hsz), keepI hq0 rfl, keepI hq1 rfl, keepI hq2 rfl, keepI hq3 rfl, keepI hq4 rfl, keepI hq5 rfl, keepI hq6 rfl, fun _ => rfl, keepI hq8 rfl, keepI hq11 rfl, fun _ => by rw [also_self]; exact Made.stored hg hgn _ _, fun _ => alsoD (hdep ⟨9, .data⟩ (by simp) rfl)⟩
      · intro L act W hI hno hdep
        rw [HI.out] at hI
        obtain ⟨vq0, vq1, vq2, vq3, vq4, vq5, vq6, vq7, vq8, vq9, vq11, hact, hS, hsz, hq0, hq1, hq2, hq3, hq4, hq5, hq6, hq7, hq8, hq11, mq9, dq10_9⟩ := hI
        subst hact
        obtain rfl := hq8 (hdep ⟨8, .data⟩ (by simp) rfl)
        rw [hT0]; simp only [sets, List.setIfInBounds_toArray, List.set_cons_zero, List.set_cons_succ]
        go_simp
        rw [HI.out]
        exact ⟨vq0, vq1, vq2, vq3, vq4, vq5, vq6, vq7, .bool false, vq9, .bool false, by simp only [sets, List.setIfInBounds_toArray, List.set_cons_zero, List.set_cons_succ], hS, hsz, keepI hq0 rfl, keepI hq1 rfl, keepI hq2 rfl, keepI hq3 rfl, keepI hq4 rfl, keepI hq5 rfl, keepI hq6 rfl, keepI hq7 rfl, fun _ => rfl, fun _ => rfl, fun h => by rw [also_of (by decide)] at h ⊢; exact mq9 h, keepD dq10_9 rfl⟩
    case fin =>
      intro L act W hall hI
      rw [HI.out] at hI
      obtain ⟨vq0, vq1, vq2, vq3, vq4, vq5, vq6, vq7, vq8, vq9, vq11, hact, hS, hsz, hq0, hq1, hq2, hq3, hq4, hq5, hq6, hq7, hq8, hq11, mq9, dq10_9⟩ := hI
      subst hact
      obtain rfl := hq0 (hall 0 (by decide))
      obtain rfl := hq1 (hall 1 (by decide))
      obtain rfl := hq2 (hall 2 (by decide))
      obtain rfl := hq3 (hall 3 (by decide))
      obtain rfl := hq4 (hall 4 (by decide))
      obtain rfl := hq5 (hall 5 (by decide))
      obtain rfl := hq6 (hall 6 (by decide))
      obtain rfl := hq7 (hall 7 (by decide))
      obtain rfl := hq8 (hall 8 (by decide))
      obtain rfl := hq11 (hall 11 (by decide))
      obtain ⟨g6, rfl, g6n, g6r⟩ := mq9 (hall 9 (by decide))
      rw [hall 10 (by decide)] at g6r
      have g6h := Lib.hid (show W.heap[g6]? = some (wrow (PRM p - 2)) from g6r); clear g6r
      clear hq0 hq1 hq2 hq3 hq4 hq5 hq6 hq7 hq8 hq11 mq9 dq10_9 hall
      rw [hT0]; simp only [sets, List.setIfInBounds_toArray, List.set_cons_zero, List.set_cons_succ]
      clear hT0 HI
      have S7 := hS.cons g6h.out
      go_wp2_with (first | (refine wpList_wide rfl _ rfl _ rfl (S7) _ (List.Mem.head _) ?_) | (refine wpList_wide rfl _ rfl _ rfl (S7) _ (List.Mem.tail _ mv0) ?_) | fail)
      refine (CP.out _ (hS.get mr)).mono ?_
      rintro e W3 ⟨rfl, hb⟩
      have S8 := hS.keep hb
      clear hb
      go_wp2_with (refine wpList_put rfl _ _ rfl (w.heap.size + 1) rfl (a ^ (PRM p - 2) % PRM p) 0 rfl (S8.get mv1) ?_)
      refine bodyPost_ret (results_cell_tmp rfl _ _ (w.heap.size + 1) 73 (limbs4 (a ^ (PRM p - 2) % PRM p)) (0, 0) _ rfl (set_row (S8.get mv1)) Try.underlying73 rfl (by kernel_rfl)) rfl ?_
      exact ⟨by (try rw [if_neg H0.out]); (try rw [if_neg H0.out]); rfl, below_setRow S8.below (by omega) _⟩
end Go.Proofs.Ytbaifchbpnmkpaa
namespace Go.Proofs.Ytbaifchbpnmkpaa
open Go.RowKit
/-- What a call says that makes a ring. -/
def RetR (w : World) (p : Bool) (e : Ending) (w' : World) : Prop := ∃ g, e = .returned (rptr g) ∧ Hid (w'.heap[g]? = some (rrow p)) ∧ Below w.heap.size w w'
set_option maxHeartbeats 2000000 in
theorem ring_c (p : Bool) (w : World) : Calls Try.prog 67 #[wv (PRM p), .bool p] w (RetR w p) := by
  have CS := Lib.hid (fun W => sub_n 0 (PRM p) (by decide) (prm_lt p) (GAP p) true (by
    have := prm_gap p; have := gap_lt p; have := prm_lt p
    rw [Nat.zero_add]; unfold GAP; exact Nat.mod_eq_of_lt (by have := prm_big p; omega)) (by have := prm_big p; simp; omega) W)
  have z0 : (.agg #[.int .u64 0, .int .u64 0, .int .u64 0, .int .u64 0] : Value) = wv 0 := rfl
  have Z0 := Lib.hid z0
  clear z0
  go_enter Try.func67, Try.ntmps67
  have S0 := (St.nil w).alloc (wrow (PRM p)) _ rfl
  go_wp2_with (first | (refine wpList_wide rfl _ rfl _ rfl S0 _ (List.Mem.head _) ?_) | fail)
  refine (CS.out _).mono ?_
  rintro e W1 ⟨rfl, hb⟩
  have S1 := (S0.keep hb).alloc (wrow (GAP p)) _ rfl
  have hbl := Lib.hid (S0.keep hb).below
  clear hb
  go_wp2_with (first | (refine wpList_wide rfl _ rfl _ rfl S1 _ (List.Mem.head _) ?_) | (refine wpList_wide rfl _ rfl _ rfl S1 _ (List.Mem.tail _ (List.Mem.head _)) ?_))
  go_ret
  exact ⟨_, rfl, lastH _ _ _ (by simp), ((hbl.out.alloc hbl.out.size _).alloc (by have := hbl.out.size; simp; omega) _)⟩
theorem wv_P : (.agg #[.int .u64 18446744069414583343, .int .u64 18446744073709551615, .int .u64 18446744073709551615, .int .u64 18446744073709551615] : Value) = wv (PRM true) := by kernel_rfl
theorem wv_N : (.agg #[.int .u64 13822214165235122497, .int .u64 13451932020343611451, .int .u64 18446744073709551614, .int .u64 18446744073709551615] : Value) = wv (PRM false) := by kernel_rfl
set_option maxHeartbeats 1000000 in
theorem P_c (w : World) : Calls Try.prog 50 #[] w (RetR w true) := by
  have C := Lib.hid (fun W => ring_c true W)
  rw [← wv_P] at C
  go_enter Try.func50, Try.ntmps50
  go_wp2_with fail
  refine (C.out _).mono ?_
  rintro e W1 ⟨g, rfl, hg, hb⟩
  have HB := Lib.hid hb
  clear hb
  go_wp2_with fail
  go_ret
  exact ⟨g, rfl, hg, HB.out⟩
set_option maxHeartbeats 1000000 in
theorem N_c (w : World) : Calls Try.prog 59 #[] w (RetR w false) := by
  have C := Lib.hid (fun W => ring_c false W)
  rw [← wv_N] at C
  go_enter Try.func59, Try.ntmps59
  go_wp2_with fail
  refine (C.out _).mono ?_
  rintro e W1 ⟨g, rfl, hg, hb⟩
  have HB := Lib.hid hb
  clear hb
  go_wp2_with fail
  go_ret
  exact ⟨g, rfl, hg, HB.out⟩
end Go.Proofs.Ytbaifchbpnmkpaa
namespace Go.Proofs.Ytbaifchbpnmkpaa
/-- a to the power of e modulo m, by squaring. -/
def mpow (m : Nat) : Nat → Nat → Nat → Nat
  | 0, _, _ => 1 % m
  | f + 1, a, e => if e % 2 = 1 then a * mpow m f (a * a % m) (e / 2) % m else mpow m f (a * a % m) (e / 2)
theorem mpow_eq (m : Nat) : ∀ (f a e : Nat), e < 2 ^ f → mpow m f a e = a ^ e % m
  | 0, a, e, h => by
    obtain rfl : e = 0 := by simpa using h
    simp [mpow]
  | f + 1, a, e, h => by
    have ih := mpow_eq m f (a * a % m) (e / 2) (by rw [Nat.pow_succ] at h; omega)
    rw [mpow, ih, ← Nat.pow_mod, show a * a = a ^ 2 by rw [Nat.pow_succ, Nat.pow_one], ← Nat.pow_mul]
    split
    · rename_i h1
      rw [Nat.mul_mod_mod, Nat.mul_comm, ← Nat.pow_succ, show (2 * (e / 2)).succ = e by omega]
    · rename_i h1
      rw [show 2 * (e / 2) = e by omega]
end Go.Proofs.Ytbaifchbpnmkpaa
namespace Go.Proofs.Ytbaifchbpnmkpaa
/-- A prime number. -/
def Pr (p : Nat) : Prop := 2 ≤ p ∧ ∀ d, d ∣ p → d = 1 ∨ d = p
theorem pr_mul {p a b : Nat} (hp : Pr p) (h : p ∣ a * b) : p ∣ a ∨ p ∣ b := by
  rcases hp.2 _ (Nat.gcd_dvd_left p a) with h1 | h1
  · exact Or.inr (Nat.Coprime.dvd_of_dvd_mul_left h1 h)
  · exact Or.inl (by have := Nat.gcd_dvd_right p a; rwa [h1] at this)
theorem exists_pr (n : Nat) : 2 ≤ n → ∃ p, Pr p ∧ p ∣ n := by
  induction n using Nat.strongRecOn with
  | ind n ih =>
    intro hn
    by_cases h : ∀ d, d ∣ n → d = 1 ∨ d = n
    · exact ⟨n, ⟨hn, h⟩, Nat.dvd_refl n⟩
    · have ⟨d, hd⟩ := Classical.not_forall.1 h
      have ⟨h1, h2⟩ : d ∣ n ∧ ¬ (d = 1 ∨ d = n) := Classical.not_imp.1 hd
      have h3 := Nat.le_of_dvd (by omega) h1
      have h4 : 0 < d := Nat.pos_of_dvd_of_pos h1 (by omega)
      obtain ⟨p, hp, hpd⟩ := ih d (by omega) (by omega)
      exact ⟨p, hp, Nat.dvd_trans hpd h1⟩
/-- Binomials. -/
def ch : Nat → Nat → Nat
  | _, 0 => 1
  | 0, _ + 1 => 0
  | n + 1, k + 1 => ch n k + ch n (k + 1)
theorem ch_zero (n : Nat) : ch n 0 = 1 := by cases n <;> rfl
theorem ch_above : ∀ n k, n < k → ch n k = 0
  | _, 0, h => by omega
  | 0, _ + 1, _ => rfl
  | n + 1, k + 1, h => by rw [ch, ch_above n k (by omega), ch_above n (k + 1) (by omega)]
theorem ch_self : ∀ n, ch n n = 1
  | 0 => rfl
  | n + 1 => by rw [ch, ch_self n, ch_above n (n + 1) (by omega)]
theorem ch_mul : ∀ n k, (k + 1) * ch (n + 1) (k + 1) = (n + 1) * ch n k
  | 0, 0 => rfl
  | 0, k + 1 => by simp [ch]
  | n + 1, 0 => by
    have h := ch_mul n 0
    rw [ch_zero] at h ⊢
    rw [ch, ch_zero]
    omega
  | n + 1, k + 1 => by
    have h1 := ch_mul n k
    have h2 := ch_mul n (k + 1)
    have e1 : ch (n + 1 + 1) (k + 1 + 1) = ch (n + 1) (k + 1) + ch (n + 1) (k + 1 + 1) := rfl
    have e2 : ch (n + 1) (k + 1) = ch n k + ch n (k + 1) := rfl
    rw [e1]
    generalize ch (n + 1) (k + 1 + 1) = x at *
    generalize ch (n + 1) (k + 1) = y at *
    generalize ch n k = u at *
    generalize ch n (k + 1) = v at *
    subst e2
    have e3 : (k + 1 + 1) * (u + v + x) = (k + 1) * (u + v) + (u + v) + (k + 1 + 1) * x := by simp only [Nat.add_mul, Nat.mul_add, Nat.one_mul]; omega
    rw [e3, h1, h2]
    simp only [Nat.add_mul, Nat.mul_add, Nat.one_mul]; omega
/-- The first m summands of (a+1)^n. -/
def bs (n a : Nat) : Nat → Nat
  | 0 => 0
  | m + 1 => bs n a m + ch n m * a ^ m
theorem bs_succ (n a : Nat) : ∀ m, bs (n + 1) a (m + 1) = bs n a (m + 1) + a * bs n a m
  | 0 => by simp [bs, ch_zero]
  | m + 1 => by
    have h := bs_succ n a m
    rw [bs, h]
    show _ = bs n a (m + 1) + ch n (m + 1) * a ^ (m + 1) + a * (bs n a m + ch n m * a ^ m)
    have e : ch (n + 1) (m + 1) = ch n m + ch n (m + 1) := rfl
    have e2 : a * (ch n m * a ^ m) = ch n m * a ^ (m + 1) := by rw [Nat.pow_succ, Nat.mul_left_comm, Nat.mul_comm a]
    rw [e, Nat.add_mul, Nat.mul_add, e2]
    omega
theorem bs_all (a : Nat) : ∀ n, bs n a (n + 1) = (a + 1) ^ n
  | 0 => by simp [bs, ch]
  | n + 1 => by
    rw [bs_succ, show bs n a (n + 1 + 1) = bs n a (n + 1) by rw [bs, ch_above n (n + 1) (by omega)]; simp, bs_all a n, Nat.pow_succ, Nat.mul_comm a, Nat.mul_add, Nat.mul_one, Nat.add_comm]
theorem ch_dvd {p k : Nat} (hp : Pr p) (h0 : 0 < k) (hk : k < p) : p ∣ ch p k := by
  obtain ⟨n, rfl⟩ : ∃ n, p = n + 1 := ⟨p - 1, by omega⟩
  obtain ⟨j, rfl⟩ : ∃ j, k = j + 1 := ⟨k - 1, by omega⟩
  have h : n + 1 ∣ (j + 1) * ch (n + 1) (j + 1) := by rw [ch_mul]; exact Nat.dvd_mul_right _ _
  rcases pr_mul hp h with h | h
  · have := Nat.le_of_dvd (by omega) h
    omega
  · exact h
theorem bs_mod {p a : Nat} (hp : Pr p) : ∀ m, 0 < m → m ≤ p → bs p a m % p = 1 % p
  | 0, h, _ => by omega
  | 1, _, _ => by simp [bs, ch_zero]
  | m + 2, _, h => by
    have ih := bs_mod (a := a) hp (m + 1) (by omega) (by omega)
    rw [bs, Nat.add_mod, ih, Nat.mod_eq_zero_of_dvd (Nat.dvd_trans (ch_dvd hp (by omega) (by omega)) (Nat.dvd_mul_right _ _)), Nat.add_zero, Nat.mod_mod]
theorem fermat {p : Nat} (hp : Pr p) : ∀ a, a ^ p % p = a % p
  | 0 => by have := hp.1; rw [Nat.zero_pow (by omega)]
  | a + 1 => by
    have ih := fermat hp a
    have := hp.1
    rw [← bs_all, bs, ch_self, Nat.one_mul, Nat.add_mod, bs_mod hp p (by omega) (Nat.le_refl _), ih, ← Nat.add_mod, Nat.add_comm]
theorem fermat1 {p : Nat} (hp : Pr p) {a : Nat} (h : ¬ p ∣ a) : a ^ (p - 1) % p = 1 := by
  have h2 := hp.1
  have h1 := fermat hp a
  have e : a ^ p = a * a ^ (p - 1) := by rw [Nat.mul_comm, ← Nat.pow_succ, show (p - 1).succ = p by omega]
  have ha : 0 < a := Nat.pos_of_ne_zero (fun e => h (by rw [e]; exact Nat.dvd_zero p))
  have hq : 1 ≤ a ^ (p - 1) := Nat.pow_pos ha
  rw [e] at h1
  have hd : p ∣ a * (a ^ (p - 1) - 1) := by
    rw [Nat.mul_sub, Nat.mul_one]
    exact Nat.dvd_of_mod_eq_zero (Nat.sub_mod_eq_zero_of_mod_eq h1)
  rcases pr_mul hp hd with h3 | h3
  · exact absurd h3 h
  · obtain ⟨k, hk⟩ := h3
    rw [show a ^ (p - 1) = 1 + p * k by omega, Nat.add_mul_mod_self_left, Nat.mod_eq_of_lt (by omega)]
theorem pow_gcd (b r m n : Nat) : b ^ m % r = 1 % r → b ^ n % r = 1 % r → b ^ Nat.gcd m n % r = 1 % r := by
  induction m, n using Nat.gcd.induction with
  | H0 n => intro _ h; rwa [Nat.gcd_zero_left]
  | H1 m n hm ih =>
    intro h1 h2
    rw [Nat.gcd_rec]
    refine ih ?_ h1
    rw [← Nat.mod_add_div n m, Nat.pow_add, Nat.pow_mul, Nat.mul_mod, Nat.pow_mod (b ^ m), h1, ← Nat.pow_mod, Nat.one_pow, ← Nat.mul_mod, Nat.mul_one] at h2
    exact h2
/-- Pocklington's test. -/
theorem pock (N A B a : Nat) (hN : N = A * B + 1) (hA : 1 < A) (hB : 0 < B) (big : N < (A + 1) * (A + 1)) (h1 : a ^ (N - 1) % N = 1) (h2 : ∀ q, Pr q → q ∣ A → Nat.gcd (a ^ ((N - 1) / q) % N + N - 1) N = 1) : Pr N := by
  have hAB : 1 < A * B := Nat.lt_of_lt_of_le hA (Nat.le_mul_of_pos_right A hB)
  have key : ∀ r, Pr r → r ∣ N → A + 1 ≤ r := by
    intro r hr hrN
    have hr2 := hr.1
    have h1r : a ^ (A * B) % r = 1 % r := by
      have : a ^ (N - 1) % N % r = 1 % r := by rw [h1]
      rw [Nat.mod_mod_of_dvd _ hrN, show N - 1 = A * B by omega] at this
      exact this
    have hb : (a ^ B) ^ A % r = 1 % r := by rw [← Nat.pow_mul, Nat.mul_comm]; exact h1r
    have hra : ¬ r ∣ a ^ B := by
      intro hd
      have : r ∣ (a ^ B) ^ A := Nat.dvd_trans hd ⟨(a ^ B) ^ (A - 1), by rw [Nat.mul_comm, ← Nat.pow_succ, show (A - 1).succ = A by omega]⟩
      rw [Nat.mod_eq_zero_of_dvd this, Nat.mod_eq_of_lt (by omega)] at hb
      omega
    have hf := fermat1 hr hra
    have hg := pow_gcd (a ^ B) r A (r - 1) hb (by rw [hf, Nat.mod_eq_of_lt (by omega)])
    by_cases hgA : Nat.gcd A (r - 1) = A
    · have h := Nat.gcd_dvd_right A (r - 1)
      rw [hgA] at h
      have := Nat.le_of_dvd (by omega) h
      omega
    · exfalso
      obtain ⟨c, hc⟩ := Nat.gcd_dvd_left A (r - 1)
      generalize Nat.gcd A (r - 1) = g at hg hgA hc
      have hg0 : 0 < g := by exact Nat.pos_of_ne_zero (fun h => by rw [h, Nat.zero_mul] at hc; omega)
      have hc2 : 2 ≤ c := by
        rcases c with _ | _ | c
        · omega
        · omega
        · omega
      obtain ⟨q, hq, d, hd⟩ := exists_pr c hc2
      have hqA : q ∣ A := ⟨g * d, by rw [hc, hd, Nat.mul_left_comm]⟩
      have hq2 := hq.1
      have := h2 q hq hqA
      have e : (N - 1) / q = B * (g * d) := by
        rw [show N - 1 = A * B by omega, hc, hd]
        apply Nat.div_eq_of_eq_mul_right (by omega)
        simp only [Nat.mul_comm, Nat.mul_left_comm]
      have h3 : a ^ ((N - 1) / q) % r = 1 := by
        rw [e, Nat.pow_mul, Nat.pow_mul, Nat.pow_mod, hg, ← Nat.pow_mod, Nat.one_pow, Nat.mod_eq_of_lt (by omega)]
      have h4 : r ∣ a ^ ((N - 1) / q) % N + N - 1 := by
        have h5 : a ^ ((N - 1) / q) % N % r = 1 := by rw [Nat.mod_mod_of_dvd _ hrN]; exact h3
        obtain ⟨k, hk⟩ := hrN
        have h6 := Nat.mod_add_div (a ^ ((N - 1) / q) % N) r
        rw [h5] at h6
        exact ⟨a ^ ((N - 1) / q) % N / r + k, by rw [Nat.mul_add, ← hk]; omega⟩
      have h7 := Nat.dvd_gcd h4 hrN
      rw [this] at h7
      have := Nat.le_of_dvd (by omega) h7
      omega
  refine ⟨by omega, fun d hd => ?_⟩
  obtain ⟨c, hc⟩ := hd
  by_cases hd1 : d = 1
  · exact Or.inl hd1
  by_cases hdN : d = N
  · exact Or.inr hdN
  exfalso
  have hd0 : d ≠ 0 := fun e => by rw [e, Nat.zero_mul] at hc; omega
  have hc0 : c ≠ 0 := fun e => by rw [e, Nat.mul_zero] at hc; omega
  have hc1 : c ≠ 1 := fun e => by rw [e, Nat.mul_one] at hc; omega
  obtain ⟨r, hr, hrd⟩ := exists_pr d (by omega)
  obtain ⟨s, hs, hsc⟩ := exists_pr c (by omega)
  have k1 := key r hr (Nat.dvd_trans hrd ⟨c, hc⟩)
  have k2 := key s hs (Nat.dvd_trans hsc ⟨d, by rw [hc, Nat.mul_comm]⟩)
  have k3 := Nat.le_of_dvd (by omega) hrd
  have k4 := Nat.le_of_dvd (by omega) hsc
  have := Nat.mul_le_mul (Nat.le_trans k1 k3) (Nat.le_trans k2 k4)
  omega
theorem pock_m (N A B a k : Nat) (hk : N < 2 ^ k) (hN : N = A * B + 1) (hA : 1 < A) (hB : 0 < B) (big : N < (A + 1) * (A + 1)) (h1 : mpow N k a (N - 1) = 1) (h2 : ∀ q, Pr q → q ∣ A → Nat.gcd (mpow N k a ((N - 1) / q) + N - 1) N = 1) : Pr N := by
  refine pock N A B a hN hA hB big ?_ fun q hq hd => ?_
  · rw [← mpow_eq N k a _ (by omega)]; exact h1
  · rw [← mpow_eq N k a _ (Nat.lt_of_le_of_lt (Nat.div_le_self _ _) (by omega))]; exact h2 q hq hd
/-- Small primes, by trial. -/
def trial (n : Nat) : Nat → Nat → Bool
  | 0, d => n % (2 * d + 3) != 0
  | k + 1, d => trial n k d && trial n k (d + 2 ^ k)
theorem trial_all (n : Nat) : ∀ k d, trial n k d = true → ∀ i, d ≤ i → i < d + 2 ^ k → n % (2 * i + 3) ≠ 0
  | 0, d, h, i, h1, h2 => by
    obtain rfl : i = d := by simp at h2; omega
    simpa [trial] using h
  | k + 1, d, h, i, h1, h2 => by
    rw [trial, Bool.and_eq_true] at h
    rw [Nat.pow_succ] at h2
    by_cases hi : i < d + 2 ^ k
    · exact trial_all n k d h.1 i h1 hi
    · exact trial_all n k (d + 2 ^ k) h.2 i (by omega) (by omega)
theorem pr_small (n k : Nat) (h2 : 2 ≤ n) (ho : n % 2 = 1) (ht : trial n k 0 = true) (hb : n < (2 * 2 ^ k + 3) * (2 * 2 ^ k + 3)) : Pr n := by
  have key : ∀ r, Pr r → r ∣ n → 2 * 2 ^ k + 3 ≤ r := by
    intro r hr hd
    have hr2 := hr.1
    have e := Nat.mod_eq_zero_of_dvd hd
    have ho2 : r % 2 = 1 := by
      obtain ⟨c, hc⟩ := hd
      rcases Nat.mod_two_eq_zero_or_one r with h | h
      · rw [hc, Nat.mul_mod, h, Nat.zero_mul] at ho; simp at ho
      · exact h
    rcases Nat.lt_or_ge r (2 * 2 ^ k + 3) with h | h
    · exfalso
      refine trial_all n k 0 ht ((r - 3) / 2) (Nat.zero_le _) (by omega) ?_
      rw [show 2 * ((r - 3) / 2) + 3 = r by omega]
      exact e
    · exact h
  refine ⟨h2, fun d hd => ?_⟩
  obtain ⟨c, hc⟩ := hd
  by_cases hd1 : d = 1
  · exact Or.inl hd1
  by_cases hdN : d = n
  · exact Or.inr hdN
  exfalso
  have hd0 : d ≠ 0 := fun e => by rw [e, Nat.zero_mul] at hc; omega
  have hc0 : c ≠ 0 := fun e => by rw [e, Nat.mul_zero] at hc; omega
  have hc1 : c ≠ 1 := fun e => by rw [e, Nat.mul_one] at hc; omega
  obtain ⟨r, hr, hrd⟩ := exists_pr d (by omega)
  obtain ⟨s, hs, hsc⟩ := exists_pr c (by omega)
  have k1 := key r hr (Nat.dvd_trans hrd ⟨c, hc⟩)
  have k2 := key s hs (Nat.dvd_trans hsc ⟨d, by rw [hc, Nat.mul_comm]⟩)
  have k3 := Nat.le_of_dvd (by omega) hrd
  have k4 := Nat.le_of_dvd (by omega) hsc
  have := Nat.mul_le_mul (Nat.le_trans k1 k3) (Nat.le_trans k2 k4)
  omega
theorem pr_of_pr {p q : Nat} (hp : Pr p) (hq : Pr q) (h : q ∣ p) : q = p := (hp.2 q h).resolve_left (fun e => by have := hq.1; omega)
/-- What is not nought has an inverse. -/
theorem pr_inv {p a : Nat} (hp : Pr p) (h : a % p ≠ 0) : a * a ^ (p - 2) % p = 1 := by
  have h2 := hp.1
  have := fermat1 hp (fun hd => h (Nat.mod_eq_zero_of_dvd hd))
  rw [Nat.mul_comm, ← Nat.pow_succ, show (p - 2).succ = p - 1 by omega]
  exact this
end Go.Proofs.Ytbaifchbpnmkpaa
