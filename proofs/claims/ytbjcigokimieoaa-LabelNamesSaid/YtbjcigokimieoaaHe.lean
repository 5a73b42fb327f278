/-
  mix: the eight numbers behind a piece. (Printed by gen_mix.py.)
-/
import Derived.Test.YtbjcigokimieoaaHd
import Derived.Test.YtbjcigokimieoaaRw
namespace Go.Proofs.Ytbjcigokimieoaa
open Go.RowKit

theorem wp_put_madeG {o : Oper} {a : Act} {W : World} {K : Act → World → Prop} {Q : Exit → Act → World → Prop} (ty : TypeId) (x y : Operand) (ho : o.op = .store ty x y) (v : Value) (hx : a.eval x = v) (r : Array Value) (hy : a.eval y = .agg r)
    (T : TypeId) (n : Nat) (k : Bool) (z : Array Value) (hM : Made W T n v k z r) (hk : k = false) (hi : (Try.prog.info? ty).map (·.size) = some r.size) (hs : z.size = r.size) (h1 : r.all (·.oneCell') = true)
    (h : ∀ g, v = .pointer (some ⟨g, 0, none⟩) → n ≤ g → W.heap[g]? = some (.cells z T (0, 0)) → K (a.put o.dst undef) (W.setRow g r)) : o.wp Try.prog a W K Q := by
  obtain ⟨g, hv, h2, h3⟩ := hM
  subst hk
  exact wp_store_row ty x y ho g r (hx.trans hv) hy T z h3 hi hs h1 (h g hv h2 h3)

/-- What mix's first loop holds behind k rounds. -/
structure MixInv (w : World) (L : List (Nat × Obj)) (g7 : Nat) (S x : List Nat) (k : Nat) (wr : World) : Prop where
  st : St w L wr
  cur : wr.heap[g7]? = some (.cells (wcells .u32 (rnds S x k)) 77 (0, 0))

theorem not32 (e : Nat) (he : e < 4294967296) : bits .xor .u32 IntKind.u32.max (e : Int) = ((4294967295 - e : Nat) : Int) := by
  have hm : IntKind.u32.max = ((4294967295 : Nat) : Int) := by decide
  rw [hm, xor32 _ _ (by decide) he]
  congr 1
  apply Nat.eq_of_testBit_eq
  intro i
  have h1 : 4294967295 - e = 2 ^ 32 - (e + 1) := by omega
  have h2 : (4294967295 : Nat) = 2 ^ 32 - 1 := by decide
  rw [Nat.testBit_xor, h1, Nat.testBit_two_pow_sub_succ he, h2, Nat.testBit_two_pow_sub_one]
  by_cases hi : i < 32
  · simp [hi]
  · have : e.testBit i = false := Nat.testBit_lt_two_pow (Nat.lt_of_lt_of_le he (Nat.pow_le_pow_right Nat.two_pos (Nat.le_of_not_lt hi)))
    simp [hi, this]
theorem set_all8 (X : List Nat) (h : X.length = 8) (p0 p1 p2 p3 p4 p5 p6 p7 : Nat) : (((((((X.set 0 p0).set 1 p1).set 2 p2).set 3 p3).set 4 p4).set 5 p5).set 6 p6).set 7 p7 = [p0, p1, p2, p3, p4, p5, p6, p7] := by
  match X, h with
  | [_, _, _, _, _, _, _, _], _ => rfl
theorem MixInv.step {w wr : World} {L : List (Nat × Obj)} {g7 : Nat} {S x : List Nat} {k : Nat} (h : MixInv w L g7 S x k wr) (hL : ∀ q, q ∈ L → q.1 ≠ g7) (hg : w.heap.size ≤ g7) (hl : (rnds S x k).length = 8) {p0 p1 p2 p3 p4 p5 p6 p7 : Nat}
    (hs : rnds S x (k + 1) = [p0, p1, p2, p3, p4, p5, p6, p7]) : MixInv w L g7 S x (k + 1) ((((((((wr.setCell ⟨g7, 0, none⟩ (.int .u32 ((p0 : Nat) : Int))).setCell ⟨g7, 1, none⟩ (.int .u32 ((p1 : Nat) : Int))).setCell ⟨g7, 2, none⟩ (.int .u32 ((p2 : Nat) : Int))).setCell ⟨g7, 3, none⟩ (.int .u32 ((p3 : Nat) : Int))).setCell ⟨g7, 4, none⟩ (.int .u32 ((p4 : Nat) : Int))).setCell ⟨g7, 5, none⟩ (.int .u32 ((p5 : Nat) : Int))).setCell ⟨g7, 6, none⟩ (.int .u32 ((p6 : Nat) : Int))).setCell ⟨g7, 7, none⟩ (.int .u32 ((p7 : Nat) : Int))) := by
  have one : ∀ (W : World) (i : Nat) (v : Value), St w L W → St w L (W.setCell ⟨g7, i, none⟩ v) := fun W i v hS => ⟨hS.below.setCell hg _, fun p hp => (heap_setCell_other _ _ _ _ (hL p hp)).trans (hS.rows p hp)⟩
  refine ⟨one _ _ _ (one _ _ _ (one _ _ _ (one _ _ _ (one _ _ _ (one _ _ _ (one _ _ _ (one _ _ _ h.st))))))), ?_⟩
  rw [hs, ← set_all8 _ hl p0 p1 p2 p3 p4 p5 p6 p7]
  exact set_w (set_w (set_w (set_w (set_w (set_w (set_w (set_w h.cur 0 p0) 1 p1) 2 p2) 3 p3) 4 p4) 5 p5) 6 p6) 7 p7

/-- What its second holds. -/
structure SumInv (w : World) (L : List (Nat × Obj)) (x y : List Nat) (k : Nat) (wr : World) : Prop where
  st : St w L wr
  row : ∃ l : List Nat, l.length = 8 ∧ (∀ j, j < k → nth l j = (nth x j + nth y j) % 4294967296) ∧ (∀ j, k ≤ j → nth l j = nth x j) ∧ wr.heap[w.heap.size]? = some (.cells (wcells .u32 l) 77 (0, 0))
theorem SumInv.step {w wr : World} {L : List (Nat × Obj)} {x y : List Nat} {k : Nat} (h : SumInv w L x y k wr) (hL : ∀ q, q ∈ L → q.1 ≠ w.heap.size) (hk : k < 8) :
    SumInv w L x y (k + 1) (wr.setCell ⟨w.heap.size, k, none⟩ (.int .u32 (((nth x k + nth y k) % 4294967296 : Nat) : Int))).drew := by
  obtain ⟨l, hl, hp, hq, hr⟩ := h.row
  refine ⟨St.drew ⟨h.st.below.setCell (Nat.le_refl _) _, fun p hpm => ?_⟩, l.set k ((nth x k + nth y k) % 4294967296), by simpa using hl, fun j hj => ?_, fun j hj => ?_, set_w hr k _⟩
  · rw [heap_setCell_other _ _ _ _ (hL p hpm)]; exact h.st.rows p hpm
  · rw [nth_set _ _ _ _ (by omega)]
    split
    · next e => rw [e]
    · exact hp j (by omega)
  · rw [nth_set _ _ _ _ (by omega), if_neg (by omega)]; exact hq j (by omega)

set_option maxRecDepth 100000 in
set_option maxHeartbeats 4000000 in
theorem mix_c (b o c : Nat) (x : List Nat) (f : Nat → Nat) (hf : ∀ i, f i < 256) (hx8 : x.length = 8) (hxw : W32 x) (w : World) (h : Bt w b o 64 f) :
    Calls Try.prog 43 #[.agg (wcells .u32 x), bsv b o 64 c] w fun e w' => e = .returned (.agg (wcells .u32 (mixS x f))) ∧ Below w.heap.size w w' := by
  have CS : Hid (∀ W, Below w.heap.size w W → Calls Try.prog 44 #[bsv b o 64 c] W fun e w' => e = .returned (.agg (wcells .u32 (sch f 48))) ∧ Below W.heap.size W w') := fun W hb => spread_c b o c f hf W (h.keep hb)
  have HSL0 := sch_len f 48; have HSW0 := sch_w f hf 48
  have HM : Hid (mixS x f = addL x (rnds (sch f 48) x 64)) := rfl
  obtain ⟨S, hS⟩ : ∃ S, S = sch f 48 := ⟨_, rfl⟩
  rw [← hS] at CS HSL0 HSW0 HM
  have HX8 := Lib.hid hx8; have HXW := Lib.hid hxw; have HSL : Hid (S.length = 64) := HSL0; have HSW := Lib.hid HSW0
  rw [HM.out]
  have S0 := (((St.nil w).alloc (.cells (wcells .u32 x) 77) _ rfl).alloc (.cells (wcells .u32 (List.replicate 8 0)) 77) (w.heap.size + 1) (by simp))
  obtain ⟨L0, hL0⟩ : ∃ L, L = [(w.heap.size + 1, Obj.cells (wcells .u32 (List.replicate 8 0)) 77 (0, 0)), (w.heap.size, Obj.cells (wcells .u32 x) 77 (0, 0))] := ⟨_, rfl⟩
  rw [← hL0] at S0
  have m1 : (w.heap.size + 1, Obj.cells (wcells .u32 (List.replicate 8 0)) 77 (0, 0)) ∈ L0 := by rw [hL0]; exact List.Mem.head _
  have m0 : (w.heap.size, Obj.cells (wcells .u32 x) 77 (0, 0)) ∈ L0 := by rw [hL0]; exact List.Mem.tail _ (List.Mem.head _)
  have hlow : Hid (∀ q, q ∈ L0 → q.1 < w.heap.size + 2) := by
    rw [hL0]; intro q hq; simp at hq; rcases hq with rfl | rfl <;> simp
  have hbase : w.heap.size + 2 ≤ ((w.alloc (.cells (wcells .u32 x) 77)).alloc (.cells (wcells .u32 (List.replicate 8 0)) 77)).heap.size := by simp
  clear h hf hx8 hxw hS HSL0 HSW0 hL0 HM
  go_enter Try.func43, Try.ntmps43
  go_wp2_with fail
  obtain ⟨I, hI0⟩ : ∃ I : Array Value → (Nat → Bool) → Act → World → Prop, I = (fun T0 L act W => ∃ vq0 vq1 vq2 vq3 vq4 vq5 vq6, act = ⟨sets T0 [(14, vq0), (15, vq1), (16, vq2), (17, vq3), (5, vq4), (6, vq5), (7, vq6)], []⟩ ∧ St w L0 W ∧ w.heap.size + 2 ≤ W.heap.size ∧ (L 0 = true → vq0 = bsv b o 64 c) ∧ (L 1 = true → vq1 = .agg (wcells .u32 S)) ∧ (L 2 = true → vq2 = .agg (wcells .u32 KL)) ∧ (L 3 = true → vq3 = .agg (wcells .u32 x)) ∧ (L 4 = true → Made W 82 (w.heap.size + 2) vq4 (L 7) (wcells .u32 (List.replicate 64 0)) (wcells .u32 S)) ∧ (L 7 = true → L 4 = true) ∧ (L 5 = true → Made W 82 (w.heap.size + 2) vq5 (L 8) (wcells .u32 (List.replicate 64 0)) (wcells .u32 KL)) ∧ (L 8 = true → L 5 = true) ∧ (L 6 = true → Made W 77 (w.heap.size + 2) vq6 (L 9) (wcells .u32 (List.replicate 8 0)) (wcells .u32 x)) ∧ (L 9 = true → L 6 = true) ∧ (L 4 = true → L 5 = true → vq4 ≠ vq5) ∧ (L 4 = true → L 6 = true → vq4 ≠ vq6) ∧ (L 5 = true → L 6 = true → vq5 ≠ vq6)) := ⟨_, rfl⟩
  have HI := Lib.hid hI0; clear hI0
  refine wp_region_frame (by kernel_rfl) (by kernel_rfl) I (fun T0 hT0 => ⟨?start, ?step, ?fin⟩)
  case start =>
    rw [HI.out]
    exact ⟨T0.getD 14 undef, T0.getD 15 undef, T0.getD 16 undef, T0.getD 17 undef, T0.getD 5 undef, T0.getD 6 undef, T0.getD 7 undef, by (refine Eq.trans ?_ (congrArg (fun T => Act.mk T []) (sets_self [14, 15, 16, 17, 5, 6, 7] T0).symm)); rw [hT0], S0.drew, hbase, nofun, nofun, nofun, nofun, nofun, nofun, nofun, nofun, nofun, nofun, nofun, nofun, nofun⟩
  case step =>
    refine ⟨?_, ?_, ?_, ?_, ?_, ?_, ?_, ?_, ?_, ?_, trivial⟩
    · intro L act W hI hno hdep
      rw [HI.out] at hI
      obtain ⟨vq0, vq1, vq2, vq3, vq4, vq5, vq6, hact, hS, hsz, hq0, hq1, hq2, hq3, mq4, dq7_4, mq5, dq8_5, mq6, dq9_6, eq4_5, eq4_6, eq5_6⟩ := hI
      subst hact
      rw [hT0]; simp only [sets, List.setIfInBounds_toArray, List.set_cons_zero, List.set_cons_succ]
      go_simp
      rw [HI.out]
      exact ⟨bsv b o 64 c, vq1, vq2, vq3, vq4, vq5, vq6, by simp only [sets, List.setIfInBounds_toArray, List.set_cons_zero, List.set_cons_succ], hS, hsz, fun _ => rfl, keepI hq1 rfl, keepI hq2 rfl, keepI hq3 rfl, fun h => by rw [also_of (by decide)] at h ⊢; exact mq4 h, keepD dq7_4 rfl, fun h => by rw [also_of (by decide)] at h ⊢; exact mq5 h, keepD dq8_5 rfl, fun h => by rw [also_of (by decide)] at h ⊢; exact mq6 h, keepD dq9_6 rfl, fun h h' => eq4_5 (by rw [also_of (by decide)] at h; exact h) (by rw [also_of (by decide)] at h'; exact h'), fun h h' => eq4_6 (by rw [also_of (by decide)] at h; exact h) (by rw [also_of (by decide)] at h'; exact h'), fun h h' => eq5_6 (by rw [also_of (by decide)] at h; exact h) (by rw [also_of (by decide)] at h'; exact h')⟩
    · intro L act W hI hno hdep
      rw [HI.out] at hI
      obtain ⟨vq0, vq1, vq2, vq3, vq4, vq5, vq6, hact, hS, hsz, hq0, hq1, hq2, hq3, mq4, dq7_4, mq5, dq8_5, mq6, dq9_6, eq4_5, eq4_6, eq5_6⟩ := hI
      subst hact
      obtain rfl := hq0 (hdep ⟨0, .data⟩ (by simp) rfl)
      rw [hT0]; simp only [sets, List.setIfInBounds_toArray, List.set_cons_zero, List.set_cons_succ]
      go_simp
      refine (CS.out _ hS.below).mono ?_
      rintro e W2 ⟨rfl, hb⟩
      have hsz2 := Nat.le_trans hsz hb.size
      rw [HI.out]
      exact ⟨bsv b o 64 c, .agg (wcells .u32 S), vq2, vq3, vq4, vq5, vq6, by simp only [sets, List.setIfInBounds_toArray, List.set_cons_zero, List.set_cons_succ], (hS.keep hb), hsz2, fun _ => rfl, fun _ => rfl, keepI hq2 rfl, keepI hq3 rfl, fun h => by rw [also_of (by decide)] at h ⊢; exact (fun h => (mq4 h).keep hb) h, keepD dq7_4 rfl, fun h => by rw [also_of (by decide)] at h ⊢; exact (fun h => (mq5 h).keep hb) h, keepD dq8_5 rfl, fun h => by rw [also_of (by decide)] at h ⊢; exact (fun h => (mq6 h).keep hb) h, keepD dq9_6 rfl, fun h h' => eq4_5 (by rw [also_of (by decide)] at h; exact h) (by rw [also_of (by decide)] at h'; exact h'), fun h h' => eq4_6 (by rw [also_of (by decide)] at h; exact h) (by rw [also_of (by decide)] at h'; exact h'), fun h h' => eq5_6 (by rw [also_of (by decide)] at h; exact h) (by rw [also_of (by decide)] at h'; exact h')⟩
    · intro L act W hI hno hdep
      rw [HI.out] at hI
      obtain ⟨vq0, vq1, vq2, vq3, vq4, vq5, vq6, hact, hS, hsz, hq0, hq1, hq2, hq3, mq4, dq7_4, mq5, dq8_5, mq6, dq9_6, eq4_5, eq4_6, eq5_6⟩ := hI
      subst hact
      rw [hT0]; simp only [sets, List.setIfInBounds_toArray, List.set_cons_zero, List.set_cons_succ]
      go_simp
      refine (constants_c _).mono ?_
      rintro e W2 ⟨rfl, hb⟩
      have hsz2 := Nat.le_trans hsz hb.size
      rw [HI.out]
      exact ⟨vq0, vq1, .agg (wcells .u32 KL), vq3, vq4, vq5, vq6, by simp only [sets, List.setIfInBounds_toArray, List.set_cons_zero, List.set_cons_succ], (hS.keep hb), hsz2, keepI hq0 rfl, keepI hq1 rfl, fun _ => rfl, keepI hq3 rfl, fun h => by rw [also_of (by decide)] at h ⊢; exact (fun h => (mq4 h).keep hb) h, keepD dq7_4 rfl, fun h => by rw [also_of (by decide)] at h ⊢; exact (fun h => (mq5 h).keep hb) h, keepD dq8_5 rfl, fun h => by rw [also_of (by decide)] at h ⊢; exact (fun h => (mq6 h).keep hb) h, keepD dq9_6 rfl, fun h h' => eq4_5 (by rw [also_of (by decide)] at h; exact h) (by rw [also_of (by decide)] at h'; exact h'), fun h h' => eq4_6 (by rw [also_of (by decide)] at h; exact h) (by rw [also_of (by decide)] at h'; exact h'), fun h h' => eq5_6 (by rw [also_of (by decide)] at h; exact h) (by rw [also_of (by decide)] at h'; exact h')⟩
    · intro L act W hI hno hdep
      rw [HI.out] at hI
      obtain ⟨vq0, vq1, vq2, vq3, vq4, vq5, vq6, hact, hS, hsz, hq0, hq1, hq2, hq3, mq4, dq7_4, mq5, dq8_5, mq6, dq9_6, eq4_5, eq4_6, eq5_6⟩ := hI
      subst hact
      rw [hT0]; simp only [sets, List.setIfInBounds_toArray, List.set_cons_zero, List.set_cons_succ]
      with_reducible refine wp_load_row 77 (Operand.tmp 2) rfl w.heap.size ?_ 77 (wcells .u32 x) (0, 0) _ (hS.get m0) Try.underlying77 rfl (by rw [wcells_size, HX8.out]; kernel_rfl) ?_
      · rfl
      rw [HI.out]
      exact ⟨vq0, vq1, vq2, .agg (wcells .u32 x), vq4, vq5, vq6, by simp only [sets, Act.put, List.setIfInBounds_toArray, List.set_cons_zero, List.set_cons_succ], hS, hsz, keepI hq0 rfl, keepI hq1 rfl, keepI hq2 rfl, fun _ => rfl, fun h => by rw [also_of (by decide)] at h ⊢; exact mq4 h, keepD dq7_4 rfl, fun h => by rw [also_of (by decide)] at h ⊢; exact mq5 h, keepD dq8_5 rfl, fun h => by rw [also_of (by decide)] at h ⊢; exact mq6 h, keepD dq9_6 rfl, fun h h' => eq4_5 (by rw [also_of (by decide)] at h; exact h) (by rw [also_of (by decide)] at h'; exact h'), fun h h' => eq4_6 (by rw [also_of (by decide)] at h; exact h) (by rw [also_of (by decide)] at h'; exact h'), fun h h' => eq5_6 (by rw [also_of (by decide)] at h; exact h) (by rw [also_of (by decide)] at h'; exact h')⟩
    · intro L act W hI hno hdep
      rw [HI.out] at hI
      obtain ⟨vq0, vq1, vq2, vq3, vq4, vq5, vq6, hact, hS, hsz, hq0, hq1, hq2, hq3, mq4, dq7_4, mq5, dq8_5, mq6, dq9_6, eq4_5, eq4_6, eq5_6⟩ := hI
      subst hact
      have hsF := noF dq7_4 hno
      rw [hT0]; simp only [sets, List.setIfInBounds_toArray, List.set_cons_zero, List.set_cons_succ]
      go_simp
      rw [HI.out]
      exact ⟨vq0, vq1, vq2, vq3, (.pointer (some ⟨W.heap.size, 0, none⟩)), vq5, vq6, by simp only [sets, List.setIfInBounds_toArray, List.set_cons_zero, List.set_cons_succ], (hS.alloc0 _), (by simp at *; omega), keepI hq0 rfl, keepI hq1 rfl, keepI hq2 rfl, keepI hq3 rfl, fun _ => Made.new' W _ _ (by omega) _ _ (by simp [also, hsF]), keepD dq7_4 rfl, fun h => by rw [also_of (by decide)] at h ⊢; exact (fun h => (mq5 h).alloc _) h, keepD dq8_5 rfl, fun h => by rw [also_of (by decide)] at h ⊢; exact (fun h => (mq6 h).alloc _) h, keepD dq9_6 rfl, fun _ h e => (mq5 (by rw [also_of (by decide)] at h; exact h)).ne e.symm, fun _ h e => (mq6 (by rw [also_of (by decide)] at h; exact h)).ne e.symm, fun h h' => eq5_6 (by rw [also_of (by decide)] at h; exact h) (by rw [also_of (by decide)] at h'; exact h')⟩
    · intro L act W hI hno hdep
      rw [HI.out] at hI
      obtain ⟨vq0, vq1, vq2, vq3, vq4, vq5, vq6, hact, hS, hsz, hq0, hq1, hq2, hq3, mq4, dq7_4, mq5, dq8_5, mq6, dq9_6, eq4_5, eq4_6, eq5_6⟩ := hI
      subst hact
      have hsF := noF dq8_5 hno
      rw [hT0]; simp only [sets, List.setIfInBounds_toArray, List.set_cons_zero, List.set_cons_succ]
      go_simp
      rw [HI.out]
      exact ⟨vq0, vq1, vq2, vq3, vq4, (.pointer (some ⟨W.heap.size, 0, none⟩)), vq6, by simp only [sets, List.setIfInBounds_toArray, List.set_cons_zero, List.set_cons_succ], (hS.alloc0 _), (by simp at *; omega), keepI hq0 rfl, keepI hq1 rfl, keepI hq2 rfl, keepI hq3 rfl, fun h => by rw [also_of (by decide)] at h ⊢; exact (fun h => (mq4 h).alloc _) h, keepD dq7_4 rfl, fun _ => Made.new' W _ _ (by omega) _ _ (by simp [also, hsF]), keepD dq8_5 rfl, fun h => by rw [also_of (by decide)] at h ⊢; exact (fun h => (mq6 h).alloc _) h, keepD dq9_6 rfl, fun h _ e => (mq4 (by rw [also_of (by decide)] at h; exact h)).ne e, fun h h' => eq4_6 (by rw [also_of (by decide)] at h; exact h) (by rw [also_of (by decide)] at h'; exact h'), fun _ h e => (mq6 (by rw [also_of (by decide)] at h; exact h)).ne e.symm⟩
    · intro L act W hI hno hdep
      rw [HI.out] at hI
      obtain ⟨vq0, vq1, vq2, vq3, vq4, vq5, vq6, hact, hS, hsz, hq0, hq1, hq2, hq3, mq4, dq7_4, mq5, dq8_5, mq6, dq9_6, eq4_5, eq4_6, eq5_6⟩ := hI
      subst hact
      have hsF := noF dq9_6 hno
      rw [hT0]; simp only [sets, List.setIfInBounds_toArray, List.set_cons_zero, List.set_cons_succ]
      go_simp
      rw [HI.out]
      exact ⟨vq0, vq1, vq2, vq3, vq4, vq5, (.pointer (some ⟨W.heap.size, 0, none⟩)), by simp only [sets, List.setIfInBounds_toArray, List.set_cons_zero, List.set_cons_succ], (hS.alloc0 _), (by simp at *; omega), keepI hq0 rfl, keepI hq1 rfl, keepI hq2 rfl, keepI hq3 rfl, fun h => by rw [also_of (by decide)] at h ⊢; exact (fun h => (mq4 h).alloc _) h, keepD dq7_4 rfl, fun h => by rw [also_of (by decide)] at h ⊢; exact (fun h => (mq5 h).alloc _) h, keepD dq8_5 rfl, fun _ => Made.new' W _ _ (by omega) _ _ (by simp [also, hsF]), keepD dq9_6 rfl, fun h h' => eq4_5 (by rw [also_of (by decide)] at h; exact h) (by rw [also_of (by decide)] at h'; exact h'), fun h _ e => (mq4 (by rw [also_of (by decide)] at h; exact h)).ne e, fun h _ e => (mq5 (by rw [also_of (by decide)] at h; exact h)).ne e⟩
    · intro L act W hI hno hdep
      rw [HI.out] at hI
      obtain ⟨vq0, vq1, vq2, vq3, vq4, vq5, vq6, hact, hS, hsz, hq0, hq1, hq2, hq3, mq4, dq7_4, mq5, dq8_5, mq6, dq9_6, eq4_5, eq4_6, eq5_6⟩ := hI
      subst hact
      obtain rfl := hq1 (hdep ⟨1, .data⟩ (by simp) rfl)
      rw [hT0]; simp only [sets, List.setIfInBounds_toArray, List.set_cons_zero, List.set_cons_succ]
      with_reducible refine wp_put_madeG 82 (Operand.tmp 5) (Operand.tmp 15) rfl vq4 ?_ (wcells .u32 S) ?_ 82 _ _ _ (mq4 (hdep ⟨4, .data⟩ (by simp) rfl)) hno (by rw [wcells_size, HSL.out]; kernel_rfl) (by rw [wcells_size, wcells_size, HSL.out, List.length_replicate]) (wcells_one _ _) ?_
      · rfl
      · rfl
      intro gx hgx hgn hg
      subst hgx
      rw [HI.out]
      exact ⟨vq0, .agg (wcells .u32 S), vq2, vq3, (.pointer (some ⟨gx, 0, none⟩)), vq5, vq6, by simp only [sets, Act.put, List.setIfInBounds_toArray, List.set_cons_zero, List.set_cons_succ], (hS.setRow (by omega) (fun p hp => Nat.ne_of_lt (Nat.lt_of_lt_of_le (hlow.out p hp) hgn)) _), (by simpa [World.setRow] using hsz), keepI hq0 rfl, fun _ => rfl, keepI hq2 rfl, keepI hq3 rfl, fun _ => by rw [also_self]; exact Made.stored hg hgn _ _, fun _ => alsoD (hdep ⟨4, .data⟩ (by simp) rfl), fun h => by rw [also_of (by decide)] at h ⊢; exact (fun h => (mq5 h).other ((fun e => eq4_5 (hdep ⟨4, .phase⟩ (by simp) rfl) (hdep ⟨5, .phase⟩ (by simp) rfl) e.symm)) _) h, keepD dq8_5 rfl, fun h => by rw [also_of (by decide)] at h ⊢; exact (fun h => (mq6 h).other ((fun e => eq4_6 (hdep ⟨4, .phase⟩ (by simp) rfl) (hdep ⟨6, .phase⟩ (by simp) rfl) e.symm)) _) h, keepD dq9_6 rfl, fun h h' => eq4_5 (by rw [also_of (by decide)] at h; exact h) (by rw [also_of (by decide)] at h'; exact h'), fun h h' => eq4_6 (by rw [also_of (by decide)] at h; exact h) (by rw [also_of (by decide)] at h'; exact h'), fun h h' => eq5_6 (by rw [also_of (by decide)] at h; exact h) (by rw [also_of (by decide)] at h'; exact h')⟩
    · intro L act W hI hno hdep
      rw [HI.out] at hI
      obtain ⟨vq0, vq1, vq2, vq3, vq4, vq5, vq6, hact, hS, hsz, hq0, hq1, hq2, hq3, mq4, dq7_4, mq5, dq8_5, mq6, dq9_6, eq4_5, eq4_6, eq5_6⟩ := hI
      subst hact
      obtain rfl := hq2 (hdep ⟨2, .data⟩ (by simp) rfl)
      rw [hT0]; simp only [sets, List.setIfInBounds_toArray, List.set_cons_zero, List.set_cons_succ]
      with_reducible refine wp_put_madeG 82 (Operand.tmp 6) (Operand.tmp 16) rfl vq5 ?_ (wcells .u32 KL) ?_ 82 _ _ _ (mq5 (hdep ⟨5, .data⟩ (by simp) rfl)) hno (by rw [wcells_size, KL_len]; kernel_rfl) (by rw [wcells_size, wcells_size, KL_len, List.length_replicate]) (wcells_one _ _) ?_
      · rfl
      · rfl
      intro gx hgx hgn hg
      subst hgx
      rw [HI.out]
      exact ⟨vq0, vq1, .agg (wcells .u32 KL), vq3, vq4, (.pointer (some ⟨gx, 0, none⟩)), vq6, by simp only [sets, Act.put, List.setIfInBounds_toArray, List.set_cons_zero, List.set_cons_succ], (hS.setRow (by omega) (fun p hp => Nat.ne_of_lt (Nat.lt_of_lt_of_le (hlow.out p hp) hgn)) _), (by simpa [World.setRow] using hsz), keepI hq0 rfl, keepI hq1 rfl, fun _ => rfl, keepI hq3 rfl, fun h => by rw [also_of (by decide)] at h ⊢; exact (fun h => (mq4 h).other (eq4_5 (hdep ⟨4, .phase⟩ (by simp) rfl) (hdep ⟨5, .phase⟩ (by simp) rfl)) _) h, keepD dq7_4 rfl, fun _ => by rw [also_self]; exact Made.stored hg hgn _ _, fun _ => alsoD (hdep ⟨5, .data⟩ (by simp) rfl), fun h => by rw [also_of (by decide)] at h ⊢; exact (fun h => (mq6 h).other ((fun e => eq5_6 (hdep ⟨5, .phase⟩ (by simp) rfl) (hdep ⟨6, .phase⟩ (by simp) rfl) e.symm)) _) h, keepD dq9_6 rfl, fun h h' => eq4_5 (by rw [also_of (by decide)] at h; exact h) (by rw [also_of (by decide)] at h'; exact h'), fun h h' => eq4_6 (by rw [also_of (by decide)] at h; exact h) (by rw [also_of (by decide)] at h'; exact h'), fun h h' => eq5_6 (by rw [also_of (by decide)] at h; exact h) (by rw [also_of (by decide)] at h'; exact h')⟩
    · intro L act W hI hno hdep
      rw [HI.out] at hI
      obtain ⟨vq0, vq1, vq2, vq3, vq4, vq5, vq6, hact, hS, hsz, hq0, hq1, hq2, hq3, mq4, dq7_4, mq5, dq8_5, mq6, dq9_6, eq4_5, eq4_6, eq5_6⟩ := hI
      subst hact
      obtain rfl := hq3 (hdep ⟨3, .data⟩ (by simp) rfl)
      rw [hT0]; simp only [sets, List.setIfInBounds_toArray, List.set_cons_zero, List.set_cons_succ]
      with_reducible refine wp_put_madeG 77 (Operand.tmp 7) (Operand.tmp 17) rfl vq6 ?_ (wcells .u32 x) ?_ 77 _ _ _ (mq6 (hdep ⟨6, .data⟩ (by simp) rfl)) hno (by rw [wcells_size, HX8.out]; kernel_rfl) (by rw [wcells_size, wcells_size, HX8.out, List.length_replicate]) (wcells_one _ _) ?_
      · rfl
      · rfl
      intro gx hgx hgn hg
      subst hgx
      rw [HI.out]
      exact ⟨vq0, vq1, vq2, .agg (wcells .u32 x), vq4, vq5, (.pointer (some ⟨gx, 0, none⟩)), by simp only [sets, Act.put, List.setIfInBounds_toArray, List.set_cons_zero, List.set_cons_succ], (hS.setRow (by omega) (fun p hp => Nat.ne_of_lt (Nat.lt_of_lt_of_le (hlow.out p hp) hgn)) _), (by simpa [World.setRow] using hsz), keepI hq0 rfl, keepI hq1 rfl, keepI hq2 rfl, fun _ => rfl, fun h => by rw [also_of (by decide)] at h ⊢; exact (fun h => (mq4 h).other (eq4_6 (hdep ⟨4, .phase⟩ (by simp) rfl) (hdep ⟨6, .phase⟩ (by simp) rfl)) _) h, keepD dq7_4 rfl, fun h => by rw [also_of (by decide)] at h ⊢; exact (fun h => (mq5 h).other (eq5_6 (hdep ⟨5, .phase⟩ (by simp) rfl) (hdep ⟨6, .phase⟩ (by simp) rfl)) _) h, keepD dq8_5 rfl, fun _ => by rw [also_self]; exact Made.stored hg hgn _ _, fun _ => alsoD (hdep ⟨6, .data⟩ (by simp) rfl), fun h h' => eq4_5 (by rw [also_of (by decide)] at h; exact h) (by rw [also_of (by decide)] at h'; exact h'), fun h h' => eq4_6 (by rw [also_of (by decide)] at h; exact h) (by rw [also_of (by decide)] at h'; exact h'), fun h h' => eq5_6 (by rw [also_of (by decide)] at h; exact h) (by rw [also_of (by decide)] at h'; exact h')⟩
  case fin =>
    intro L act W hall hI
    rw [HI.out] at hI
    obtain ⟨vq0, vq1, vq2, vq3, vq4, vq5, vq6, hact, hS, hsz, hq0, hq1, hq2, hq3, mq4, dq7_4, mq5, dq8_5, mq6, dq9_6, eq4_5, eq4_6, eq5_6⟩ := hI
    subst hact
    obtain rfl := hq0 (hall 0 (by decide))
    obtain rfl := hq1 (hall 1 (by decide))
    obtain rfl := hq2 (hall 2 (by decide))
    obtain rfl := hq3 (hall 3 (by decide))
    obtain ⟨g5, rfl, g5n, g5r⟩ := mq4 (hall 4 (by decide))
    rw [hall 7 (by decide)] at g5r
    have g5h := Lib.hid (show W.heap[g5]? = some (.cells (wcells .u32 S) 82 (0, 0)) from g5r); clear g5r
    obtain ⟨g6, rfl, g6n, g6r⟩ := mq5 (hall 5 (by decide))
    rw [hall 8 (by decide)] at g6r
    have g6h := Lib.hid (show W.heap[g6]? = some (.cells (wcells .u32 KL) 82 (0, 0)) from g6r); clear g6r
    obtain ⟨g7, rfl, g7n, g7r⟩ := mq6 (hall 6 (by decide))
    rw [hall 9 (by decide)] at g7r
    have g7h := Lib.hid (show W.heap[g7]? = some (.cells (wcells .u32 x) 77 (0, 0)) from g7r); clear g7r
    clear hq0 hq1 hq2 hq3 mq4 dq7_4 mq5 dq8_5 mq6 dq9_6 eq4_5 eq4_6 eq5_6 hall
    rw [hT0]; simp only [sets, List.setIfInBounds_toArray, List.set_cons_zero, List.set_cons_succ]
    clear hT0 HI
    have hn57 : g5 ≠ g7 := by
      rintro rfl
      have := g5h.out.symm.trans g7h.out
      simp at this
    have hn67 : g6 ≠ g7 := by
      rintro rfl
      have := g6h.out.symm.trans g7h.out
      simp at this
    have h7lo : w.heap.size + 2 ≤ g7 := g7n
    obtain ⟨L1, hL1⟩ : ∃ L, L = (g5, Obj.cells (wcells .u32 S) 82 (0, 0)) :: (g6, Obj.cells (wcells .u32 KL) 82 (0, 0)) :: L0 := ⟨_, rfl⟩
    have S1 := (hS.cons g6h.out).cons g5h.out
    rw [← hL1] at S1
    have n5 : (g5, Obj.cells (wcells .u32 S) 82 (0, 0)) ∈ L1 := by rw [hL1]; exact List.Mem.head _
    have n6 : (g6, Obj.cells (wcells .u32 KL) 82 (0, 0)) ∈ L1 := by rw [hL1]; exact List.Mem.tail _ (List.Mem.head _)
    have n1 : (w.heap.size + 1, Obj.cells (wcells .u32 (List.replicate 8 0)) 77 (0, 0)) ∈ L1 := by rw [hL1]; exact List.Mem.tail _ (List.Mem.tail _ m1)
    have n0 : (w.heap.size, Obj.cells (wcells .u32 x) 77 (0, 0)) ∈ L1 := by rw [hL1]; exact List.Mem.tail _ (List.Mem.tail _ m0)
    have h01 : Hid (∀ q, q ∈ L0 → q ∈ L1) := by rw [hL1]; exact fun q hq => List.Mem.tail _ (List.Mem.tail _ hq)
    have hn7 : Hid (∀ q, q ∈ L1 → q.1 ≠ g7) := by
      rw [hL1]; intro q hq
      rcases List.mem_cons.1 hq with rfl | hq
      · exact hn57
      · rcases List.mem_cons.1 hq with rfl | hq
        · exact hn67
        · have := hlow.out q hq; omega
    clear hL1
    have I0 : Hid (MixInv w L1 g7 S x 0 W) := ⟨S1, g7h.out⟩
    go_wp2_with fail
    go_loopw [18] (fun v wr => ∃ k : Nat, v = .int .i64 (k : Int) ∧ k ≤ 64 ∧ Hid (MixInv w L1 g7 S x k wr)) (fun v _ => (64 - intOf v).toNat)
    case atStart => exact ⟨0, rfl, by omega, I0⟩
    case round =>
      obtain ⟨k, rfl, hk, HI⟩ := hrel
      by_cases h64 : k = 64
      · have hge : ¬ (k : Int) < 64 := by omega
        have hcur := HI.out.cur
        rw [h64] at hcur
        have hy8 := rnds_len S x HX8.out 64
        obtain ⟨y, hy⟩ : ∃ y, rnds S x 64 = y := ⟨_, rfl⟩
        rw [hy] at hcur hy8
        have HY := Lib.hid hy; have HY8 := Lib.hid hy8
        obtain ⟨L2, hL2⟩ : ∃ L, L = [(g7, Obj.cells (wcells .u32 y) 77 (0, 0)), (w.heap.size + 1, Obj.cells (wcells .u32 (List.replicate 8 0)) 77 (0, 0))] := ⟨_, rfl⟩
        have S2 : St w L2 wr := by
          rw [hL2]
          exact (HI.out.st.drop (L' := [(w.heap.size + 1, Obj.cells (wcells .u32 (List.replicate 8 0)) 77 (0, 0))]) (by intro q hq; rcases List.mem_cons.1 hq with rfl | hq; exact n1; cases hq)).cons hcur
        have p7 : (g7, Obj.cells (wcells .u32 y) 77 (0, 0)) ∈ L2 := by rw [hL2]; exact List.Mem.head _
        have p1 : (w.heap.size + 1, Obj.cells (wcells .u32 (List.replicate 8 0)) 77 (0, 0)) ∈ L2 := by rw [hL2]; exact List.Mem.tail _ (List.Mem.head _)
        have hn2 : Hid (∀ q, q ∈ L2 → q.1 ≠ w.heap.size) := by
          rw [hL2]; intro q hq
          rcases List.mem_cons.1 hq with rfl | hq
          · show g7 ≠ _; omega
          · rcases List.mem_cons.1 hq with rfl | hq
            · show w.heap.size + 1 ≠ _; omega
            · cases hq
        have J0 : Hid (SumInv w L2 x y 0 wr) := ⟨S2, x, HX8.out, fun j hj => absurd hj (by omega), fun _ _ => rfl, HI.out.st.get n0⟩
        clear hL2 hcur hy hy8 S2 h64
        go_wp2_with fail
        go_loopw [98] (fun v wr => ∃ j : Nat, v = .int .i64 (j : Int) ∧ j ≤ 8 ∧ Hid (SumInv w L2 x y j wr)) (fun v _ => (8 - intOf v).toNat)
        case atStart => exact ⟨0, rfl, by omega, J0⟩
        case round =>
          obtain ⟨j, rfl, hj, HJ⟩ := hrel
          by_cases h8 : j = 8
          · have hge8 : ¬ (j : Int) < 8 := by omega
            obtain ⟨l, hl, hp, hq, hr⟩ := HJ.out.row
            have hle : l = addL x y := nth_ext _ _ (by rw [hl, addL_len]) (fun i hi => by rw [hp i (by omega), addL, nth_range _ _ _ (by omega)])
            have HLE := Lib.hid hle
            have HL8 := Lib.hid hl
            have HR := Lib.hid hr
            have hz := HJ.out.st.get p1
            have HZ := Lib.hid hz
            clear hle hl hp hq hr h8 hz
            go_wp2_with (first
              | (refine wpList_load_row rfl 77 (.tmp 2) rfl w.heap.size rfl 77 (wcells .u32 l) (0, 0) _ HR.out Try.underlying77 rfl (by rw [wcells_size, HL8.out]; kernel_rfl) ?_)
              | (refine wpList_store_row rfl 77 (.tmp 4) (.tmp 110) rfl (w.heap.size + 1) (wcells .u32 l) rfl rfl 77 (wcells .u32 (List.replicate 8 0)) HZ.out (by rw [wcells_size, HL8.out]; kernel_rfl) (by rw [wcells_size, wcells_size, HL8.out]; rfl) (wcells_one _ _) ?_))
            refine bodyPost_ret (results_cell_row rfl _ _ (w.heap.size + 1) 77 (wcells .u32 l) (0, 0) _ rfl (setRow_heap _ _ _ _ _ _ HZ.out) Try.underlying77 rfl (by rw [wcells_size, HL8.out]; kernel_rfl)) rfl ?_
            exact ⟨by rw [HY.out, ← HLE.out], below_setRow HJ.out.st.below (by omega) _⟩
          · have hlt8 : (j : Int) < 8 := by omega
            obtain ⟨l, hl, hp, hq, hr⟩ := HJ.out.row
            have c1 := cell_w hr j (by omega)
            have c2 := cell_w (HJ.out.st.get p7) j (by rw [HY8.out]; omega)
            have fz := frozen_of_row wr _ j _ _ hr
            have hb1 := lt_of_block hr; have hb2 := lt_of_block (HJ.out.st.get p7)
            rw [hq j (Nat.le_refl _)] at c1
            have hstep := Lib.hid (HJ.out.step hn2.out (show j < 8 by omega))
            obtain ⟨xj, hxj⟩ : ∃ r, nth x j = r := ⟨_, rfl⟩
            obtain ⟨yj, hyj⟩ : ∃ r, nth y j = r := ⟨_, rfl⟩
            rw [hxj, hyj] at hstep; rw [hxj] at c1; rw [hyj] at c2
            have v1 : IntKind.u32.wrap ((xj : Int) + yj) = (((xj + yj) % 4294967296 : Nat) : Int) := by rw [IntKind.wrap_u32]; omega
            obtain ⟨s, hs⟩ : ∃ r, (xj + yj) % 4294967296 = r := ⟨_, rfl⟩
            rw [hs] at v1 hstep
            clear hl hp hq hr hxj hyj hs h8
            go_wp2
            go_still_tail 8, (by kernel_rfl)
            change wpList _ _ _ _ _ wr.drew
            go_wp2
            go_roundw
            case rel => exact ⟨j + 1, by go_num, by omega, hstep.out⟩
            case measure => simp [intOf]; omega
      · have hlt : (k : Int) < 64 := by omega
        have hXl := rnds_len S x HX8.out k; have hXw := rnds_w S x HXW.out k
        have hstep : rnds S x (k + 1) = rnd (nth KL k) (nth S k) (rnds S x k) := rfl
        have hcur := HI.out.cur
        obtain ⟨X, hX⟩ : ∃ X, rnds S x k = X := ⟨_, rfl⟩
        rw [hX] at hXl hXw hcur hstep
        have x0 := cell_w hcur 0 (by omega); have x1 := cell_w hcur 1 (by omega); have x2 := cell_w hcur 2 (by omega); have x3 := cell_w hcur 3 (by omega)
        have x4 := cell_w hcur 4 (by omega); have x5 := cell_w hcur 5 (by omega); have x6 := cell_w hcur 6 (by omega); have x7 := cell_w hcur 7 (by omega)
        have hk1 := cell_w (HI.out.st.get n6) k (by rw [KL_len]; omega)
        have hw1 := cell_w (HI.out.st.get n5) k (by rw [HSL.out]; omega)
        have bA := hXw 0; have bB := hXw 1; have bC := hXw 2; have bD := hXw 3; have bE := hXw 4; have bF := hXw 5; have bG := hXw 6; have bH := hXw 7
        have bk := KL_lt k; have bw := HSW.out k
        unfold rnd tt1 tt2 at hstep
        obtain ⟨a, ea⟩ : ∃ r, nth X 0 = r := ⟨_, rfl⟩; obtain ⟨b2, eb⟩ : ∃ r, nth X 1 = r := ⟨_, rfl⟩; obtain ⟨c2, ec⟩ : ∃ r, nth X 2 = r := ⟨_, rfl⟩; obtain ⟨d, ed⟩ : ∃ r, nth X 3 = r := ⟨_, rfl⟩
        obtain ⟨e, ee⟩ : ∃ r, nth X 4 = r := ⟨_, rfl⟩; obtain ⟨f2, ef⟩ : ∃ r, nth X 5 = r := ⟨_, rfl⟩; obtain ⟨g2, eg⟩ : ∃ r, nth X 6 = r := ⟨_, rfl⟩; obtain ⟨h2, eh⟩ : ∃ r, nth X 7 = r := ⟨_, rfl⟩
        obtain ⟨kk, ek⟩ : ∃ r, nth KL k = r := ⟨_, rfl⟩; obtain ⟨ww, ew⟩ : ∃ r, nth S k = r := ⟨_, rfl⟩
        rw [ea] at x0 bA hstep; rw [eb] at x1 bB hstep; rw [ec] at x2 bC hstep; rw [ed] at x3 bD hstep; rw [ee] at x4 bE hstep; rw [ef] at x5 bF hstep; rw [eg] at x6 bG hstep; rw [eh] at x7 bH hstep
        rw [ek] at hk1 bk hstep; rw [ew] at hw1 bw hstep
        clear ea eb ec ed ee ef eg eh ek ew hXw
        have Te6 : Hid (∀ W, Calls Try.prog 46 #[.int .u32 (e : Int), .int .i64 6] W fun e' w' => e' = .returned (.int .u32 ((rotr e 6 : Nat) : Int)) ∧ w' = W) := fun W => (turn_c e 6 bE (by decide) W).mono fun _ _ h => ⟨h.1, h.2.symm⟩
        have Te11 : Hid (∀ W, Calls Try.prog 46 #[.int .u32 (e : Int), .int .i64 11] W fun e' w' => e' = .returned (.int .u32 ((rotr e 11 : Nat) : Int)) ∧ w' = W) := fun W => (turn_c e 11 bE (by decide) W).mono fun _ _ h => ⟨h.1, h.2.symm⟩
        have Te25 : Hid (∀ W, Calls Try.prog 46 #[.int .u32 (e : Int), .int .i64 25] W fun e' w' => e' = .returned (.int .u32 ((rotr e 25 : Nat) : Int)) ∧ w' = W) := fun W => (turn_c e 25 bE (by decide) W).mono fun _ _ h => ⟨h.1, h.2.symm⟩
        have Ta2 : Hid (∀ W, Calls Try.prog 46 #[.int .u32 (a : Int), .int .i64 2] W fun e' w' => e' = .returned (.int .u32 ((rotr a 2 : Nat) : Int)) ∧ w' = W) := fun W => (turn_c a 2 bA (by decide) W).mono fun _ _ h => ⟨h.1, h.2.symm⟩
        have Ta13 : Hid (∀ W, Calls Try.prog 46 #[.int .u32 (a : Int), .int .i64 13] W fun e' w' => e' = .returned (.int .u32 ((rotr a 13 : Nat) : Int)) ∧ w' = W) := fun W => (turn_c a 13 bA (by decide) W).mono fun _ _ h => ⟨h.1, h.2.symm⟩
        have Ta22 : Hid (∀ W, Calls Try.prog 46 #[.int .u32 (a : Int), .int .i64 22] W fun e' w' => e' = .returned (.int .u32 ((rotr a 22 : Nat) : Int)) ∧ w' = W) := fun W => (turn_c a 22 bA (by decide) W).mono fun _ _ h => ⟨h.1, h.2.symm⟩
        have v1 : bits .xor .u32 ((rotr e 6 : Nat) : Int) ((rotr e 11 : Nat) : Int) = ((rotr e 6 ^^^ rotr e 11 : Nat) : Int) := xor32 _ _ (rotr_lt _ _) (rotr_lt _ _)
        have v2 : bits .xor .u32 ((rotr e 6 ^^^ rotr e 11 : Nat) : Int) ((rotr e 25 : Nat) : Int) = ((bg1 e : Nat) : Int) := xor32 _ _ (xor_lt (rotr_lt _ _) (rotr_lt _ _)) (rotr_lt _ _)
        have v3 : bits .and .u32 (e : Int) (f2 : Int) = ((e &&& f2 : Nat) : Int) := and32 _ _ bE bF
        have v4 : bits .and .u32 ((4294967295 - e : Nat) : Int) (g2 : Int) = (((4294967295 - e) &&& g2 : Nat) : Int) := and32 _ _ (by omega) bG
        have v5 : bits .xor .u32 ((e &&& f2 : Nat) : Int) (((4294967295 - e) &&& g2 : Nat) : Int) = ((chs e f2 g2 : Nat) : Int) := xor32 _ _ (and_lt _ bE) (and_lt _ (by omega))
        have v6 : bits .xor .u32 ((rotr a 2 : Nat) : Int) ((rotr a 13 : Nat) : Int) = ((rotr a 2 ^^^ rotr a 13 : Nat) : Int) := xor32 _ _ (rotr_lt _ _) (rotr_lt _ _)
        have v7 : bits .xor .u32 ((rotr a 2 ^^^ rotr a 13 : Nat) : Int) ((rotr a 22 : Nat) : Int) = ((bg0 a : Nat) : Int) := xor32 _ _ (xor_lt (rotr_lt _ _) (rotr_lt _ _)) (rotr_lt _ _)
        have v8 : bits .and .u32 (a : Int) (b2 : Int) = ((a &&& b2 : Nat) : Int) := and32 _ _ bA bB
        have v9 : bits .and .u32 (a : Int) (c2 : Int) = ((a &&& c2 : Nat) : Int) := and32 _ _ bA bC
        have v10 : bits .and .u32 (b2 : Int) (c2 : Int) = ((b2 &&& c2 : Nat) : Int) := and32 _ _ bB bC
        have v11 : bits .xor .u32 ((a &&& b2 : Nat) : Int) ((a &&& c2 : Nat) : Int) = (((a &&& b2) ^^^ (a &&& c2) : Nat) : Int) := xor32 _ _ (and_lt _ bA) (and_lt _ bA)
        have v12 : bits .xor .u32 (((a &&& b2) ^^^ (a &&& c2) : Nat) : Int) ((b2 &&& c2 : Nat) : Int) = ((maj a b2 c2 : Nat) : Int) := xor32 _ _ (xor_lt (and_lt _ bA) (and_lt _ bA)) (and_lt _ bB)
        have v13 : bits .xor .u32 IntKind.u32.max (e : Int) = ((4294967295 - e : Nat) : Int) := not32 e bE
        have v14 : bits .xor .u32 (if IntKind.u32.signed = true then -1 else IntKind.u32.max) (e : Int) = ((4294967295 - e : Nat) : Int) := not32 e bE
        obtain ⟨r6, hr6⟩ : ∃ r, rotr e 6 = r := ⟨_, rfl⟩; rw [hr6] at Te6 v1 v2
        obtain ⟨r11, hr11⟩ : ∃ r, rotr e 11 = r := ⟨_, rfl⟩; rw [hr11] at Te11 v1 v2
        obtain ⟨r25, hr25⟩ : ∃ r, rotr e 25 = r := ⟨_, rfl⟩; rw [hr25] at Te25 v2
        obtain ⟨r2, hr2⟩ : ∃ r, rotr a 2 = r := ⟨_, rfl⟩; rw [hr2] at Ta2 v6 v7
        obtain ⟨r13, hr13⟩ : ∃ r, rotr a 13 = r := ⟨_, rfl⟩; rw [hr13] at Ta13 v6 v7
        obtain ⟨r22, hr22⟩ : ∃ r, rotr a 22 = r := ⟨_, rfl⟩; rw [hr22] at Ta22 v7
        obtain ⟨p1, hp1⟩ : ∃ r, r6 ^^^ r11 = r := ⟨_, rfl⟩; rw [hp1] at v1 v2
        obtain ⟨B1, hB1⟩ : ∃ r, bg1 e = r := ⟨_, rfl⟩; rw [hB1] at v2 hstep
        obtain ⟨ne, hne⟩ : ∃ r, 4294967295 - e = r := ⟨_, rfl⟩; rw [hne] at v4 v5 v13 v14
        obtain ⟨ef, hef⟩ : ∃ r, e &&& f2 = r := ⟨_, rfl⟩; rw [hef] at v3 v5
        obtain ⟨ng, hng⟩ : ∃ r, ne &&& g2 = r := ⟨_, rfl⟩; rw [hng] at v4 v5
        obtain ⟨C1, hC1⟩ : ∃ r, chs e f2 g2 = r := ⟨_, rfl⟩; rw [hC1] at v5 hstep
        obtain ⟨p2, hp2⟩ : ∃ r, r2 ^^^ r13 = r := ⟨_, rfl⟩; rw [hp2] at v6 v7
        obtain ⟨A1, hA1⟩ : ∃ r, bg0 a = r := ⟨_, rfl⟩; rw [hA1] at v7 hstep
        obtain ⟨ab, hab⟩ : ∃ r, a &&& b2 = r := ⟨_, rfl⟩; rw [hab] at v8 v11 v12
        obtain ⟨ac, hac⟩ : ∃ r, a &&& c2 = r := ⟨_, rfl⟩; rw [hac] at v9 v11 v12
        obtain ⟨bc, hbc⟩ : ∃ r, b2 &&& c2 = r := ⟨_, rfl⟩; rw [hbc] at v10 v12
        obtain ⟨m1', hm1'⟩ : ∃ r, ab ^^^ ac = r := ⟨_, rfl⟩; rw [hm1'] at v11 v12
        obtain ⟨M1, hM1⟩ : ∃ r, maj a b2 c2 = r := ⟨_, rfl⟩; rw [hM1] at v12 hstep
        have ws1 : IntKind.u32.wrap ((h2 : Int) + B1) = (((h2 + B1) % 4294967296 : Nat) : Int) := by rw [IntKind.wrap_u32]; omega
        obtain ⟨s1, hs1⟩ : ∃ r, (h2 + B1) % 4294967296 = r := ⟨_, rfl⟩; rw [hs1] at ws1 hstep
        have ws2 : IntKind.u32.wrap ((s1 : Int) + C1) = (((s1 + C1) % 4294967296 : Nat) : Int) := by rw [IntKind.wrap_u32]; omega
        obtain ⟨s2, hs2⟩ : ∃ r, (s1 + C1) % 4294967296 = r := ⟨_, rfl⟩; rw [hs2] at ws2 hstep
        have ws3 : IntKind.u32.wrap ((s2 : Int) + kk) = (((s2 + kk) % 4294967296 : Nat) : Int) := by rw [IntKind.wrap_u32]; omega
        obtain ⟨s3, hs3⟩ : ∃ r, (s2 + kk) % 4294967296 = r := ⟨_, rfl⟩; rw [hs3] at ws3 hstep
        have wtt : IntKind.u32.wrap ((s3 : Int) + ww) = (((s3 + ww) % 4294967296 : Nat) : Int) := by rw [IntKind.wrap_u32]; omega
        obtain ⟨tt, htt⟩ : ∃ r, (s3 + ww) % 4294967296 = r := ⟨_, rfl⟩; rw [htt] at wtt hstep
        have wuu : IntKind.u32.wrap ((A1 : Int) + M1) = (((A1 + M1) % 4294967296 : Nat) : Int) := by rw [IntKind.wrap_u32]; omega
        obtain ⟨uu, huu⟩ : ∃ r, (A1 + M1) % 4294967296 = r := ⟨_, rfl⟩; rw [huu] at wuu hstep
        have wn0' : IntKind.u32.wrap ((tt : Int) + uu) = (((tt + uu) % 4294967296 : Nat) : Int) := by rw [IntKind.wrap_u32]; omega
        obtain ⟨n0', hn0'⟩ : ∃ r, (tt + uu) % 4294967296 = r := ⟨_, rfl⟩; rw [hn0'] at wn0' hstep
        have wn4' : IntKind.u32.wrap ((d : Int) + tt) = (((d + tt) % 4294967296 : Nat) : Int) := by rw [IntKind.wrap_u32]; omega
        obtain ⟨n4', hn4'⟩ : ∃ r, (d + tt) % 4294967296 = r := ⟨_, rfl⟩; rw [hn4'] at wn4' hstep
        have HST := Lib.hid hstep
        have HST0 : Hid (MixInv w L1 g7 S x k wr) := HI
        have h7b := lt_of_block hcur
        clear hstep hX hXl bA bB bC bD bE bF bG bH bk bw hr6 hr11 hr25 hr2 hr13 hr22 hp1 hB1 hne hef hng hC1 hp2 hA1 hab hac hbc hm1' hM1 hs1 hs2 hs3 htt huu hn0' hn4' hcur
        have g6b := lt_of_block (HI.out.st.get n6); have g5b := lt_of_block (HI.out.st.get n5)
        clear HST0
        go_wp2_with fail
        go_quiet (fail)
        obtain ⟨wa, hwa⟩ : ∃ v, v = wr.drewN nq := ⟨_, rfl⟩
        rw [← hwa]
        replace x0 : wa.cell? ⟨g7, 0, none⟩ = some (.int .u32 (a : Int)) := by rw [hwa]; exact x0
        replace x1 : wa.cell? ⟨g7, 1, none⟩ = some (.int .u32 (b2 : Int)) := by rw [hwa]; exact x1
        replace x2 : wa.cell? ⟨g7, 2, none⟩ = some (.int .u32 (c2 : Int)) := by rw [hwa]; exact x2
        replace x3 : wa.cell? ⟨g7, 3, none⟩ = some (.int .u32 (d : Int)) := by rw [hwa]; exact x3
        replace x4 : wa.cell? ⟨g7, 4, none⟩ = some (.int .u32 (e : Int)) := by rw [hwa]; exact x4
        replace x5 : wa.cell? ⟨g7, 5, none⟩ = some (.int .u32 (f2 : Int)) := by rw [hwa]; exact x5
        replace x6 : wa.cell? ⟨g7, 6, none⟩ = some (.int .u32 (g2 : Int)) := by rw [hwa]; exact x6
        replace x7 : wa.cell? ⟨g7, 7, none⟩ = some (.int .u32 (h2 : Int)) := by rw [hwa]; exact x7
        replace hk1 : wa.cell? ⟨g6, k, none⟩ = some (.int .u32 (kk : Int)) := by rw [hwa]; exact hk1
        replace hw1 : wa.cell? ⟨g5, k, none⟩ = some (.int .u32 (ww : Int)) := by rw [hwa]; exact hw1
        replace HI : Hid (MixInv w L1 g7 S x k wa) := by rw [hwa]; exact ⟨⟨below_drewQ HI.out.st.below nq, HI.out.st.rows⟩, HI.out.cur⟩
        clear hwa nq
        go_wp2_with fail
        go_quiet ((first | (go_at_call 46; exact Calls.quiet_of_same (Te6.out _)) | (go_at_call 46; exact Calls.quiet_of_same (Te11.out _)) | (go_at_call 46; exact Calls.quiet_of_same (Te25.out _))))
        obtain ⟨wb, hwb⟩ : ∃ v, v = wa.drewN nq := ⟨_, rfl⟩
        rw [← hwb]
        replace x0 : wb.cell? ⟨g7, 0, none⟩ = some (.int .u32 (a : Int)) := by rw [hwb]; exact x0
        replace x1 : wb.cell? ⟨g7, 1, none⟩ = some (.int .u32 (b2 : Int)) := by rw [hwb]; exact x1
        replace x2 : wb.cell? ⟨g7, 2, none⟩ = some (.int .u32 (c2 : Int)) := by rw [hwb]; exact x2
        replace x3 : wb.cell? ⟨g7, 3, none⟩ = some (.int .u32 (d : Int)) := by rw [hwb]; exact x3
        replace x4 : wb.cell? ⟨g7, 4, none⟩ = some (.int .u32 (e : Int)) := by rw [hwb]; exact x4
        replace x5 : wb.cell? ⟨g7, 5, none⟩ = some (.int .u32 (f2 : Int)) := by rw [hwb]; exact x5
        replace x6 : wb.cell? ⟨g7, 6, none⟩ = some (.int .u32 (g2 : Int)) := by rw [hwb]; exact x6
        replace x7 : wb.cell? ⟨g7, 7, none⟩ = some (.int .u32 (h2 : Int)) := by rw [hwb]; exact x7
        replace hk1 : wb.cell? ⟨g6, k, none⟩ = some (.int .u32 (kk : Int)) := by rw [hwb]; exact hk1
        replace hw1 : wb.cell? ⟨g5, k, none⟩ = some (.int .u32 (ww : Int)) := by rw [hwb]; exact hw1
        replace HI : Hid (MixInv w L1 g7 S x k wb) := by rw [hwb]; exact ⟨⟨below_drewQ HI.out.st.below nq, HI.out.st.rows⟩, HI.out.cur⟩
        clear hwb nq
        go_wp2_with fail
        go_quiet ((first | (go_at_call 46; exact Calls.quiet_of_same (Ta2.out _)) | (go_at_call 46; exact Calls.quiet_of_same (Ta13.out _)) | (go_at_call 46; exact Calls.quiet_of_same (Ta22.out _))))
        obtain ⟨wc, hwc⟩ : ∃ v, v = wb.drewN nq := ⟨_, rfl⟩
        rw [← hwc]
        replace x0 : wc.cell? ⟨g7, 0, none⟩ = some (.int .u32 (a : Int)) := by rw [hwc]; exact x0
        replace x1 : wc.cell? ⟨g7, 1, none⟩ = some (.int .u32 (b2 : Int)) := by rw [hwc]; exact x1
        replace x2 : wc.cell? ⟨g7, 2, none⟩ = some (.int .u32 (c2 : Int)) := by rw [hwc]; exact x2
        replace x3 : wc.cell? ⟨g7, 3, none⟩ = some (.int .u32 (d : Int)) := by rw [hwc]; exact x3
        replace x4 : wc.cell? ⟨g7, 4, none⟩ = some (.int .u32 (e : Int)) := by rw [hwc]; exact x4
        replace x5 : wc.cell? ⟨g7, 5, none⟩ = some (.int .u32 (f2 : Int)) := by rw [hwc]; exact x5
        replace x6 : wc.cell? ⟨g7, 6, none⟩ = some (.int .u32 (g2 : Int)) := by rw [hwc]; exact x6
        replace x7 : wc.cell? ⟨g7, 7, none⟩ = some (.int .u32 (h2 : Int)) := by rw [hwc]; exact x7
        replace hk1 : wc.cell? ⟨g6, k, none⟩ = some (.int .u32 (kk : Int)) := by rw [hwc]; exact hk1
        replace hw1 : wc.cell? ⟨g5, k, none⟩ = some (.int .u32 (ww : Int)) := by rw [hwc]; exact hw1
        replace HI : Hid (MixInv w L1 g7 S x k wc) := by rw [hwc]; exact ⟨⟨below_drewQ HI.out.st.below nq, HI.out.st.rows⟩, HI.out.cur⟩
        clear hwc nq
        have fz0 := frozen_of_row wc g7 0 _ _ HI.out.cur
        have fz1 := frozen_of_row wc g7 1 _ _ HI.out.cur
        have fz2 := frozen_of_row wc g7 2 _ _ HI.out.cur
        have fz3 := frozen_of_row wc g7 3 _ _ HI.out.cur
        have fz4 := frozen_of_row wc g7 4 _ _ HI.out.cur
        have fz5 := frozen_of_row wc g7 5 _ _ HI.out.cur
        have fz6 := frozen_of_row wc g7 6 _ _ HI.out.cur
        have fz7 := frozen_of_row wc g7 7 _ _ HI.out.cur
        go_wp2_with fail
        go_roundw
        case rel => exact ⟨k + 1, by go_num, by omega, HI.out.step hn7.out (by have := HI.out.st.below.size; omega) (rnds_len S x HX8.out k) HST.out⟩
        case measure => simp [intOf]; omega
end Go.Proofs.Ytbjcigokimieoaa
