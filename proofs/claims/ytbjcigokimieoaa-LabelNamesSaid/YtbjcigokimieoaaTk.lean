/-
  What a lock says: plain, and the laws that Split wants.
-/
import Derived.Test.YtbjcigokimieoaaTi
import Derived.Laws.Cover3
namespace Go.Proofs.Ytbjcigokimieoaa
open Go.RowKit

theorem noCm_lt : ∀ y, y ∈ noCm → y < 256 := fun y hy => by rw [(List.mem_replicate.1 hy).2]; decide
/-- A lock's deed, and what is behind it. -/
structure SplitOK (b : List Nat) (d : Dd) (r : List Nat) : Prop where
  right : d.right
  tells : d.kd ≠ 0
  len : d.cm.length = 20
  lt : ∀ y, y ∈ d.cm → y < 256
  eq : b = d.words ++ r
/-- How many pieces a deed of a kind has. -/
def many (k : Int) : Nat := if k = 1 then 1 else if k = 2 then 3 else 2
/-- A deed's pieces. -/
def Dd.pcs (d : Dd) : List (List Nat) := if d.kd = 1 then [d.cm] else if d.kd = 2 then [sb d.nm, sb d.rd, sb d.vl] else [sb d.nm, sb d.vl]
theorem Dd.words_eq {d : Dd} (h1 : 1 ≤ d.kd) (h3 : d.kd ≤ 3) : ∃ z, d.words = [(80 + d.kd).toNat] ++ pws d.pcs ++ z := by
  unfold Dd.words Dd.pcs
  by_cases e1 : d.kd = 1
  · rw [if_pos e1, if_pos e1, e1]; exact ⟨_, rfl⟩
  · by_cases e2 : d.kd = 2
    · rw [if_neg e1, if_neg e1, if_pos e2, if_pos e2, e2]; exact ⟨_, rfl⟩
    · have e3 : d.kd = 3 := by omega
      rw [if_neg e1, if_neg e1, if_neg e2, if_neg e2, if_pos e3, e3]; exact ⟨_, rfl⟩
theorem SplitOK.kd {b : List Nat} {d : Dd} {r : List Nat} (h : SplitOK b d r) : 1 ≤ d.kd ∧ d.kd ≤ 3 := by
  have h1 := Dd.right_kd h.right; have h2 := h.tells; omega
theorem SplitOK.code {b : List Nat} {d : Dd} {r : List Nat} (h : SplitOK b d r) : nth b 0 = (80 + d.kd).toNat := by
  obtain ⟨z, hz⟩ := Dd.words_eq h.kd.1 h.kd.2
  rw [h.eq, hz]; rfl
theorem Dd.pcs_len {d : Dd} : d.pcs.length = many d.kd := by
  unfold Dd.pcs many
  split
  · rfl
  · split <;> rfl
theorem SplitOK.short {b : List Nat} {d : Dd} {r : List Nat} (h : SplitOK b d r) : ∀ x, x ∈ d.pcs → x.length < 65536 := by
  intro x hx
  have hr := h.right
  have hl := h.len
  unfold Dd.right at hr
  unfold Dd.pcs at hx
  have s1 := sb_len d.nm; have s2 := sb_len d.vl; have s3 := sb_len d.rd
  split at hx
  · simp only [List.mem_cons, List.not_mem_nil, or_false] at hx; subst hx; omega
  · split at hx
    · simp only [List.mem_cons, List.not_mem_nil, or_false] at hx
      rcases hx with rfl | rfl | rfl <;> omega
    · simp only [List.mem_cons, List.not_mem_nil, or_false] at hx
      rcases hx with rfl | rfl <;> omega
/-- What such a lock's pieces are. -/
theorem SplitOK.par {b : List Nat} {d : Dd} {r : List Nat} (h : SplitOK b d r) : ∃ z, parS (b.drop 1) (many d.kd) = some (d.pcs, z) := by
  obtain ⟨z, hz⟩ := Dd.words_eq h.kd.1 h.kd.2
  refine ⟨z ++ r, ?_⟩
  have e : b.drop 1 = pws d.pcs ++ (z ++ r) := by rw [h.eq, hz]; simp
  rw [e, ← Dd.pcs_len]
  exact parS_all _ _ h.short
/-- The deed of given pieces. -/
def ofPcs (k : Int) (l : List (List Nat)) : Dd :=
  if k = 1 then ⟨1, .empty, .empty, .empty, l.getD 0 []⟩ else if k = 2 then ⟨2, nst (l.getD 0 []), nst (l.getD 2 []), nst (l.getD 1 []), noCm⟩ else ⟨3, nst (l.getD 0 []), nst (l.getD 1 []), .empty, noCm⟩
theorem SplitOK.deed {b : List Nat} {d : Dd} {r : List Nat} (h : SplitOK b d r) : d = ofPcs d.kd d.pcs := by
  have hk := h.kd
  have hr := h.right
  obtain ⟨k, nm, vl, rd, cm⟩ := d
  simp only at hk
  unfold Dd.right at hr
  simp only at hr
  obtain rfl | rfl | rfl : k = 1 ∨ k = 2 ∨ k = 3 := by omega
  · obtain ⟨a, b, c⟩ : nm.size = 0 ∧ vl.size = 0 ∧ rd.size = 0 := by omega
    rw [size0 a, size0 b, size0 c]; rfl
  · have e : cm = noCm := by rcases hr with h | h | h | h <;> first | omega | exact h.2.2.2.2.2.2 | (exfalso; have := h.1; omega)
    subst e
    show _ = (⟨2, nst (sb nm), nst (sb vl), nst (sb rd), noCm⟩ : Dd)
    rw [nst_sb, nst_sb, nst_sb]
  · have e : cm = noCm := by rcases hr with h | h | h | h <;> first | omega | exact h.2.2.2.2.2 | (exfalso; have := h.1; omega)
    subst e
    have hr0 : rd.size = 0 := by omega
    show _ = (⟨3, nst (sb nm), nst (sb vl), .empty, noCm⟩ : Dd)
    rw [nst_sb, nst_sb, size0 hr0]
/-- What Split gives back. -/
def RetS (w : World) (b : List Nat) (e : Ending) (w' : World) : Prop :=
  (¬ Says b ∧ ∃ v, e = .returned (.tuple #[.agg (dcells noDd), v, .int .i64 0]) ∧ PadR w v b w') ∨
    (Says b ∧ (∀ d r, ¬ SplitOK b d r) ∧ e = .returned (.tuple #[.agg (dcells noDd), .slice none 0 0, .int .i64 81]) ∧ Below w.heap.size w w') ∨
    (Says b ∧ ∃ d r v, SplitOK b d r ∧ e = .returned (.tuple #[.agg (dcells d), v, .int .i64 0]) ∧ PadR w v r w')
/-- No deed: the pieces can't be read, or the deed that they tell is none. -/
theorem no_split1 {b : List Nat} {k : Int} (hk : nth b 0 = (80 + k).toNat) (h1 : 1 ≤ k) (h3 : k ≤ 3) (hp : parS (b.drop 1) (many k) = none) (d : Dd) (r : List Nat) : ¬ SplitOK b d r := fun h => by
  have hc := h.code
  have hkd := h.kd
  have e : d.kd = k := by omega
  obtain ⟨z, hz⟩ := h.par
  rw [e, hp] at hz; cases hz
theorem no_split2 {b : List Nat} {k : Int} (hk : nth b 0 = (80 + k).toNat) (h1 : 1 ≤ k) (h3 : k ≤ 3) {l : List (List Nat)} {z : List Nat} (hp : parS (b.drop 1) (many k) = some (l, z)) {P : Prop} (hno : ∀ d r, d = ofPcs k l → SplitOK b d r → P) (hn : ¬ P) (d : Dd) (r : List Nat) : ¬ SplitOK b d r := fun h => hn (by
  have hc := h.code
  have hkd := h.kd
  have e : d.kd = k := by omega
  obtain ⟨z', hz⟩ := h.par
  rw [e, hp] at hz
  injection hz with hz; injection hz with h4 h5
  have hd := h.deed
  rw [e, ← h4] at hd
  exact hno d r hd h)
theorem setCells_row (g : Nat) (t : TypeId) : ∀ (l : List Value) (o : Nat) (cs : Array Value) (W : World), W.heap[g]? = some (.cells cs t (0, 0)) → ∃ cs', (W.setCells g o l).heap[g]? = some (.cells cs' t (0, 0)) ∧ cs'.size = cs.size ∧ (∀ i, i < o → cs'[i]? = cs[i]?) ∧ (∀ i, o + l.length ≤ i → cs'[i]? = cs[i]?) ∧ ∀ i, i < l.length → o + i < cs.size → cs'[o + i]? = l[i]?
  | [], o, cs, W, h => ⟨cs, h, rfl, fun _ _ => rfl, fun _ _ => rfl, fun i hi => absurd hi (Nat.not_lt_zero i)⟩
  | v :: l, o, cs, W, h => by
    have h1 := heap_setCell_same W g o cs t v h
    obtain ⟨cs', a1, a2, a3, a4, a5⟩ := setCells_row g t l (o + 1) _ _ h1
    refine ⟨cs', a1, by rw [a2]; simp, fun i hi => ?_, fun i hi => ?_, fun i hi hlt => ?_⟩
    · rw [a3 i (by omega), Array.getElem?_setIfInBounds, if_neg (by omega)]
    · rw [List.length_cons] at hi
      rw [a4 i (by omega), Array.getElem?_setIfInBounds, if_neg (by omega)]
    · cases i with
      | zero =>
        rw [Nat.add_zero, a3 o (by omega), Array.getElem?_setIfInBounds, if_pos rfl, if_pos (by omega)]; rfl
      | succ i =>
        have := a5 i (by simpa using hi) (by simp; omega)
        rw [show o + (i + 1) = o + 1 + i by omega, this]; rfl
/-- A deed's Commit is written. -/
theorem Sx.setCm {w W : World} {L : List (Nat × Obj)} {X : List Xt} (h : Sx w L X W) (i : Nat) {g : Nat} {d : Dd} (hi : L[i]? = some (g, .cells (dcells d) 29 (0, 0))) (hg : w.heap.size ≤ g) (cm : List Nat) (hl : cm.length = 20) :
    Sx w (L.set i (g, .cells (dcells ⟨d.kd, d.nm, d.vl, d.rd, cm⟩) 29 (0, 0))) X (W.setCells g 4 (wcells .u8 cm).toList) := by
  obtain ⟨cs', a1, a2, a3, a4, a5⟩ := setCells_row g 29 (wcells .u8 cm).toList 4 _ W (h.at i hi)
  have hwl : (wcells .u8 cm).toList.length = 20 := by simp [wcells_size, hl]
  have e : cs' = dcells ⟨d.kd, d.nm, d.vl, d.rd, cm⟩ := by
    apply Array.ext_getElem?
    intro j
    by_cases h4 : j < 4
    · rw [a3 j h4]
      match j, h4 with
      | 0, _ => rfl
      | 1, _ => rfl
      | 2, _ => rfl
      | 3, _ => rfl
    · by_cases h24 : j < 24
      · obtain ⟨q, rfl⟩ : ∃ q, j = 4 + q := ⟨j - 4, by omega⟩
        rw [a5 q (by omega) (by show 4 + q < 24; omega), Array.getElem?_toList]
        have h1 := congrArg (fun l => l[q]?) (cm_part' ⟨d.kd, d.nm, d.vl, d.rd, cm⟩ hl)
        simp only [List.getElem?_take, List.getElem?_drop] at h1
        rw [if_pos (by omega), Array.getElem?_toList, Array.getElem?_toList] at h1
        exact h1.symm
      · rw [Array.getElem?_eq_none (by rw [a2]; show 24 ≤ j; omega), Array.getElem?_eq_none (by show 24 ≤ j; omega)]
  subst e
  have keep : ∀ (l : List Value) (o : Nat) (V : World), (V.setCells g o l).heap.size = V.heap.size ∧ (V.setCells g o l).os = V.os ∧ (V.setCells g o l).tape = V.tape ∧ (V.setCells g o l).output = V.output := by
    intro l
    induction l with
    | nil => exact fun _ _ => ⟨rfl, rfl, rfl, rfl⟩
    | cons v l ih =>
      intro o V
      obtain ⟨b1, b2, b3, b4⟩ := ih (o + 1) (V.setCell ⟨g, o, none⟩ v)
      have k := Below.setCell (Below.refl 0 V) (p := ⟨g, o, none⟩) (Nat.zero_le _) v
      have ks : (V.setCell ⟨g, o, none⟩ v).heap.size = V.heap.size := by simp
      exact ⟨b1.trans ks, b2.trans k.os, b3.trans k.tape, b4.trans k.output⟩
  obtain ⟨b1, b2, b3, b4⟩ := keep (wcells .u8 cm).toList 4 W
  refine h.write i hi _ (h.below.trans ⟨b2, b3, b4, by rw [b1]; exact Nat.le_refl _, fun b hb => other_setCells (by omega) _ _ _⟩) (by rw [b1]; exact Nat.le_refl _) (fun b hb _ => other_setCells hb _ _ _) a1
theorem wp_arr {o : Oper} {a : Act} {K : Act → World → Prop} {Q : Exit → Act → World → Prop} {W : World} {x : Operand} {b of n c : Nat} (ho : o.op = .sliceToArrayPointer 27 x) (hx : a.eval x = .slice (some ⟨b, of, none⟩) n c) (hn : 20 ≤ n) (hk : Hid (K (a.put o.dst (.pointer (some ⟨b, of, none⟩))) W)) : o.wp Try.prog a W K Q := by
  unfold Oper.wp execOp
  simp only [ho, hx, Sem.run_bind, run_arrayAt W 27 _ 20 _ n c Try.underlying27 hn, Result.andThen_ok, Sem.run_pure]
  exact hk.out
theorem wp_ld20 {o : Oper} {a : Act} {K : Act → World → Prop} {Q : Exit → Act → World → Prop} {W : World} {x : Operand} {b of n c : Nat} {S : Nat → Prop} {l : List Nat} (ho : o.op = .load 27 x) (hx : a.eval x = .pointer (some ⟨b, of, none⟩)) (hp : PieceS W S (.slice (some ⟨b, of, none⟩) n c) l) (hl : l.length = 20) (hk : Hid (K (a.put o.dst (.agg (wcells .u8 l))) W)) : o.wp Try.prog a W K Q := by
  have hwl : (wcells .u8 l).toList.length = 20 := by simp [wcells_size, hl]
  refine wp_load_mid 27 x ho b of hx (wcells .u8 l).toList _ (fun j v hj => ?_) Try.underlying27 rfl (by rw [hwl]; kernel_rfl) ?_
  · have hj2 : j < 20 := by have := (List.getElem?_eq_some_iff.1 hj).1; omega
    rw [hp.at j _ (by omega) rfl, ← hj, Array.getElem?_toList, wcells_get .u8 l j (by omega)]
  · rw [Array.toArray_toList]; exact hk.out
theorem wp_stcm {o : Oper} {a : Act} {K : Act → World → Prop} {Q : Exit → Act → World → Prop} {w W : World} {L : List (Nat × Obj)} {X : List Xt} (h : Sx w L X W) (i : Nat) {g : Nat} {d : Dd} {x y : Operand} (ho : o.op = .store 27 x y) (hx : a.eval x = .pointer (some ⟨g, 4, none⟩)) {cm : List Nat} (hy : a.eval y = .agg (wcells .u8 cm)) (hi : L[i]? = some (g, .cells (dcells d) 29 (0, 0))) (hg : w.heap.size ≤ g) (hl : cm.length = 20)
    (hk : ∀ W', Sx w (L.set i (g, .cells (dcells ⟨d.kd, d.nm, d.vl, d.rd, cm⟩) 29 (0, 0))) X W' → K (a.put o.dst undef) W') : o.wp Try.prog a W K Q := by
  have hs : (wcells .u8 cm).size = 20 := by rw [wcells_size, hl]
  refine wp_store_mid 27 x y ho g 4 (wcells .u8 cm) hx hy (fun j hj => ⟨?_, frozen_of_row W g _ _ _ (h.at i hi)⟩) (by rw [hs]; kernel_rfl) (wcells_one _ _) (hk _ (h.setCm i hi hg cm hl))
  rw [cell_of_row _ _ _ _ _ _ (h.at i hi), Array.getElem?_eq_getElem (by show 4 + j < 24; omega)]; rfl
/-- A number below which all lies. -/
def xlow (B : Nat) : Xt := ⟨false, fun _ => False, fun W => B ≤ W.heap.size, fun _ _ _ hs h => Nat.le_trans h hs⟩
theorem Sx.low {w W : World} {L : List (Nat × Obj)} {X : List Xt} (h : Sx w L X W) : Sx w L (xlow W.heap.size :: X) W :=
  h.addX _ (Nat.le_refl W.heap.size) (fun _ _ hb => hb) (fun _ hb => hb.elim) (fun _ _ _ _ hb => hb.elim)
theorem Sx.addF {w W : World} {L : List (Nat × Obj)} {X : List Xt} (h : Sx w L X W) (q : Xt) (hex : q.ex = false) (hX : X.all (fun r => !r.ex) = true) (hq : q.holds W) (hs : ∀ p, p ∈ L → ¬ q.foot p.1) (hbd : ∀ b, q.foot b → b < W.heap.size) : Sx w L (q :: X) W :=
  h.addX q hq hs hbd (fun r hr hx => by
    have := List.all_eq_true.1 hX r hr
    rw [hex] at hx; simp at hx this; rw [this] at hx; cases hx)
theorem Sx.lies2 {w W : World} {L : List (Nat × Obj)} {X : List Xt} (h : Sx w L X W) (i : Nat) {S : Nat → Prop} {A : Option Addr} {n c : Nat} {bs : List Nat} (hi : X[i]? = some (xps S (.slice A n c) bs)) (h0 : 0 < bs.length) : ∃ b o, A = some ⟨b, o, none⟩ := by
  rcases h.ps i hi with ⟨-, h1⟩ | ⟨b, o, c', -, h1, -⟩
  · rw [h1] at h0; simp at h0
  · injection h1 with e; exact ⟨b, o, e⟩
/-- A slice whose place is known ahead. -/
theorem wp_cut_l' {o : Oper} {a : Act} {K : Act → World → Prop} {Q : Exit → Act → World → Prop} {W : World} {A a' : Option Addr} {n c lo m c' : Nat} {x y : Operand} {k : IntKind} (ho : o.op = .slice 22 x (some y) none none) (hx : a.eval x = .slice A n c) (hy : a.eval y = .int k (lo : Int)) (h1 : lo ≤ n) (e : sliced A lo n c 1 = .slice a' m c')
    (hk : Hid (K (a.put o.dst (.slice a' m c')) W)) : o.wp Try.prog a W K Q := by
  have hr : (Instr.sliceAt 22 (.slice A n c) (some (.int k (lo : Int))) none none).run Try.prog W = .ok (.slice a' m c') W := by
    rw [run_sliceAt_slice _ _ _ _ _ _ bytes_slice, run_slice_l W 22 A n c bytes_slice k (lo : Int) (Int.natCast_nonneg _) (by omega), byte_size]
    simp only [Result.andThen_ok, Int.toNat_natCast, e]
  unfold Oper.wp execOp
  simp only [ho, hx, hy, Option.map_some, Option.map_none, Sem.run_bind, hr, Result.andThen_ok, Sem.run_pure]
  exact hk.out
/-- A list of pieces in blocks from B0 on. -/
def PQ (B0 : Nat) (l : List (List Nat)) (v : Value) (W : World) : Prop := ∃ B1, PcsS W (fun b => B0 ≤ b ∧ b < B1) v l
def PT (B0 : Nat) (l : List (List Nat)) (v : Value) (W : World) : Prop := ∃ lv rv, v = .tuple #[lv, rv, .bool true] ∧ PQ B0 l lv W
theorem stable_pq (B0 : Nat) (l : List (List Nat)) : Stable (PQ B0 l) := fun _ _ _ hb ⟨B1, h⟩ => ⟨B1, PcsS.stays h (fun b _ hlt => hb.block b hlt) hb.size⟩
theorem stable_pt (B0 : Nat) (l : List (List Nat)) : Stable (PT B0 l) := fun _ W W' hb ⟨lv, rv, e, h⟩ => ⟨lv, rv, e, stable_pq B0 l lv W W' hb h⟩
/-- A slice of one's own from B0 on. -/
def PR (B0 : Nat) (n : Nat) (bs : List Nat) (v : Value) (W : World) : Prop := ∃ a c, v = .slice a n c ∧ RestV W (.slice a n c) bs ∧ ∀ b, (Value.slice a n c).ownBlock = some b → B0 ≤ b
theorem stable_pr (B0 n : Nat) (bs : List Nat) : Stable (PR B0 n bs) := fun _ _ _ hb ⟨a, c, e, h, h2⟩ => ⟨a, c, e, RestV.stays h (fun b _ hlt => hb.block b hlt), h2⟩
theorem PR.setRow {B0 n g : Nat} {bs : List Nat} {v : Value} {W : World} (h : PR B0 n bs v W) (hg : g < B0) (cs : Array Value) : PR B0 n bs v (W.setRow g cs) := by
  obtain ⟨a, c, e, h1, h2⟩ := h
  exact ⟨a, c, e, RestV.stays h1 (fun b hb _ => setRow_other W g b cs (by have := h2 b hb; omega)), h2⟩
theorem PR.of {w W : World} {B0 : Nat} {bs : List Nat} {v : Value} (h : PadR w v bs W) (hB : B0 ≤ w.heap.size) : PR B0 bs.length bs v W := by
  obtain ⟨a, c, rfl⟩ := h.rest.shape
  exact ⟨a, c, rfl, h.rest, fun b hb => Nat.le_trans hB (h.own b hb)⟩
/-- A cell that is only read. -/
def xcell (g o : Nat) (v : Value) : Xt := ⟨false, fun b => b = g, fun W => g < W.heap.size ∧ W.cell? ⟨g, o, none⟩ = some v, fun _ _ hk hs h => ⟨Nat.lt_of_lt_of_le h.1 hs, (cell_same (hk g rfl h.1)).trans h.2⟩⟩
theorem pcs_cell' {w W : World} {L : List (Nat × Obj)} {X : List Xt} (h : Sx w L X W) (i : Nat) {S : Nat → Prop} {A : Option Addr} {n c : Nat} {pss : List (List Nat)} (hi : X[i]? = some (xpcs S (.slice A n c) pss)) (k : Nat) (x : List Nat) (hk : pss[k]? = some x) :
    ∃ b o xa xc, A = some ⟨b, o, none⟩ ∧ Sx w L (xcell b (o + k) (.slice xa x.length xc) :: xps S (.slice xa x.length xc) x :: X) W := by
  have hp : PcsS W S (.slice A n c) pss := h.x i hi
  rcases hp.shape with ⟨-, h1⟩ | ⟨lb, lo, c', hb, h1, h2⟩
  · rw [h1] at hk; simp at hk
  · injection h1 with e1 e2 e3
    obtain ⟨xv, h3, h4⟩ := h2 k x hk
    obtain ⟨xa, xc, rfl⟩ := h4.shape
    have hS1 := h.dup i hi rfl (xps S (.slice xa x.length xc) x) rfl (fun _ h => h) ⟨hp.le, h4⟩
    exact ⟨lb, lo, xa, xc, e1, hS1.dup (i + 1) (by simpa using hi) rfl _ rfl (fun b hbb => by rw [show b = lb from hbb]; exact hb) ⟨hp.le lb hb, h3⟩⟩
theorem equal_ct {v v' : Value} {xs bs : List Nat} {w : World} (e : xs = bs) (hp : PieceV w w.heap.size v xs) (hq : PieceV w w.heap.size v' bs) (hl1 : xs.length ≤ 1000000000) : Calls Try.prog 21 #[v, v'] w fun e w' => e = .returned (.bool true) ∧ Below w.heap.size w w' := by
  have := equal_c v v' xs bs w hp hq hl1
  rwa [decide_eq_true e] at this
theorem equal_cf {v v' : Value} {xs bs : List Nat} {w : World} (e : ¬ xs = bs) (hp : PieceV w w.heap.size v xs) (hq : PieceV w w.heap.size v' bs) (hl1 : xs.length ≤ 1000000000) : Calls Try.prog 21 #[v, v'] w fun e w' => e = .returned (.bool false) ∧ Below w.heap.size w w' := by
  have := equal_c v v' xs bs w hp hq hl1
  rwa [decide_eq_false e] at this
/-- append of bytes to a slice that has no room at all. -/
theorem wp_app0 {o : Oper} {a : Act} {K : Act → World → Prop} {Q : Exit → Act → World → Prop} {W : World} {g : Nat} (s x : Operand) (ho : o.op = .call { callee := .builtin .append, args := #[s, x], argTypes := #[22, 22] }) (hg : W.heap[g]? = some (.cells #[] 5 (0, 0))) {xv : Value} (hsv : a.eval s = .slice (some ⟨g, 0, none⟩) 0 0) (hxv : a.eval x = xv) {S : Nat → Prop} {ys : List Nat} (hp : PieceS W S xv ys) (hn : ys.length ≤ 70368744177664)
    {B0 : Nat} (hB : B0 ≤ g) (hB2 : B0 ≤ W.heap.size) (h : ∀ v' W', PR B0 ys.length ys v' W' → Below W.heap.size W W' → K (a.put o.dst v') W') : o.wp Try.prog a W K Q := by
  obtain ⟨i, hi, hz, h1, h2⟩ := info_parts u8_row
  have hs : SrcB W xv ys := PieceS.src hp
  unfold Oper.wp execOp
  simp only [ho, resolve, invoke, builtin, Sem.run_bind, Sem.run_pure, Result.andThen_ok, List.map_toArray, List.map_cons, List.map_nil, hsv, hxv]
  by_cases hm : ys.length = 0
  · obtain rfl : ys = [] := List.eq_nil_of_length_eq_zero hm
    have hr := run_append_nothing' o.type i hi h1 W (some ⟨g, 0, none⟩) 0 0 (Nat.le_refl _) xv hs
    rw [hr]
    refine h _ _ ⟨_, _, rfl, Or.inr ⟨g, 0, 0, _, rfl, hg, Nat.le_refl _, Nat.le_refl _, fun i hi => absurd hi (Nat.not_lt_zero i)⟩, fun b hb => ?_⟩ (Below.refl _ _)
    have hb : some g = some b := hb
    injection hb with hb; omega
  · have hfit : Builtin.nextslicecap (0 + ys.length) 0 * i.bytes ≤ 281474976710656 := growslice_fits (by omega) (by rw [h2]; omega)
    have hr := run_append_grow_src (P := Try.prog) (w := W) 22 22 o.type 5 i (.int .u8 0) Try.underlying22 hi hz (some ⟨g, 0, none⟩) 0 0 [] (run_firstCells_some (P := Try.prog) W.drew i.size 0 ⟨g, 0, none⟩ 0 0 [] (by simp) (fun j u hj => by simp at hj)) xv ys.length (bcells ys) (by rw [h1]; exact hs) (by omega) (by omega) hfit
    have hge := grownCap_ge W (0 + ys.length) 0 5
    generalize grownCap W (0 + ys.length) 0 5 = gc at hr hge
    rw [hr]
    refine h _ _ ⟨_, gc, by rw [Nat.zero_add], Or.inr ⟨W.heap.size, 0, gc, _, rfl, heap_alloc_new W.drew _, by omega, ?_, ?_⟩, fun b hb => ?_⟩ ((Below.refl _ _).drew.alloc (Nat.le_refl _) _)
    · simp only [Array.size_append, List.size_toArray, List.length_append, bcells_len, size_zeroCells, List.length_nil]
      simp [Value.cells]; omega
    · intro k hk
      simp only [Nat.zero_add, List.nil_append]
      rw [Array.getElem?_append_left (by simpa [bcells_len] using hk), List.getElem?_toArray]
      exact bcells_get _ k hk
    · have hb : some W.heap.size = some b := by simpa [Value.ownBlock] using hb
      injection hb with hb; omega
/-- An empty row from B0 on. -/
def PE (B0 : Nat) (v : Value) (W : World) : Prop := ∃ g, v = .slice (some ⟨g, 0, none⟩) 0 0 ∧ B0 ≤ g ∧ W.heap[g]? = some (.cells #[] 5 (0, 0))
theorem stable_pe (B0 : Nat) : Stable (PE B0) := fun _ _ _ hb ⟨g, e, h1, h2⟩ => ⟨g, e, h1, keepH hb h2⟩
theorem PE.setRow {B0 g : Nat} {v : Value} {W : World} (h : PE B0 v W) (hg : g < B0) (cs : Array Value) : PE B0 v (W.setRow g cs) := by
  obtain ⟨q, e, h1, h2⟩ := h
  exact ⟨q, e, h1, (setRow_other W g q cs (by omega)).trans h2⟩
theorem wp_cut_h' {o : Oper} {a : Act} {K : Act → World → Prop} {Q : Exit → Act → World → Prop} {W : World} {A a' : Option Addr} {n c hi m c' : Nat} {x z : Operand} {k : IntKind} (ho : o.op = .slice 22 x none (some z) none) (hx : a.eval x = .slice A n c) (hz : a.eval z = .int k (hi : Int)) (h1 : hi ≤ c) (e : sliced A 0 hi c 1 = .slice a' m c')
    (hk : Hid (K (a.put o.dst (.slice a' m c')) W)) : o.wp Try.prog a W K Q := by
  have hr : (Instr.sliceAt 22 (.slice A n c) none (some (.int k (hi : Int))) none).run Try.prog W = .ok (.slice a' m c') W := by
    rw [run_sliceAt_slice _ _ _ _ _ _ bytes_slice, run_slice_h W 22 A n c bytes_slice k (hi : Int) (Int.natCast_nonneg _) (by omega), byte_size]
    simp only [Result.andThen_ok, Int.toNat_natCast, e]
  unfold Oper.wp execOp
  simp only [ho, hx, hz, Option.map_some, Option.map_none, Sem.run_bind, hr, Result.andThen_ok, Sem.run_pure]
  exact hk.out
theorem nst_inj {x y : List Nat} (hx : ∀ z, z ∈ x → z < 256) (hy : ∀ z, z ∈ y → z < 256) (h : nst x = nst y) : x = y := by
  rw [← sb_nst x hx, ← sb_nst y hy, h]
theorem SplitOK.uniq {b : List Nat} {d d' : Dd} {r r' : List Nat} (h : SplitOK b d r) (h' : SplitOK b d' r') : d = d' ∧ r = r' := by
  have hk : d.kd = d'.kd := by
    have h1 := h.code; have h2 := h'.code; have h3 := h.kd; have h4 := h'.kd; omega
  have hp : d.pcs = d'.pcs := by
    obtain ⟨z, hz⟩ := h.par
    obtain ⟨z', hz'⟩ := h'.par
    rw [hk, hz'] at hz
    injection hz with hz; injection hz with e; exact e.symm
  have hd : d = d' := by rw [h.deed, h'.deed, hk, hp]
  subst hd
  refine ⟨rfl, ?_⟩
  have := h.eq
  rw [h'.eq] at this
  exact (List.append_cancel_left this).symm
theorem getD_of {l : List (List Nat)} {i : Nat} {x : List Nat} (h : l[i]? = some x) : l.getD i [] = x := by
  rw [List.getD_eq_getElem?_getD, h]; rfl
end Go.Proofs.Ytbjcigokimieoaa
