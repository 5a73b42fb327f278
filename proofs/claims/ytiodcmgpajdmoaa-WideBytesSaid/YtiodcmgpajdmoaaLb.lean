/-
  The law WideBytes: its walk.
-/
import Derived.Test.YtiodcmgpajdmoaaDx
import Derived.Test.YtiodcmgpajdmoaaRi
import Derived.Test.YtiodcmgpajdmoaaBm
namespace Go.Proofs.Ytiodcmgpajdmoaa
open Go.RowKit

/-- A row of thirty-two bytes. -/
@[reducible] def brow (f : Nat → Int) : Obj := .cells (row32 f) 36
theorem row32_size (f : Nat → Int) : (row32 f).size = 32 := by unfold row32; rfl
theorem b32_info : (Try.prog.info? 36).map (·.size) = some 32 := by kernel_rfl

/-- A row that lies in no block of the list's. -/
theorem St.setRow {w W : World} {L : List (Nat × Obj)} (h : St w L W) {g : Nat} (hg : w.heap.size ≤ g) (hL : ∀ p, p ∈ L → p.1 < g) (c : Array Value) : St w L (W.setRow g c) :=
  ⟨below_setRow h.below hg c, fun p hp => (setRow_other W g p.1 c (by have := hL p hp; omega)).trans (h.rows p hp)⟩

/-- A variable that the region makes: where it lies. -/
def Made (W : World) (n : Nat) (v : Value) (k : Bool) (r : Array Value) : Prop := ∃ g cs, v = .pointer (some ⟨g, 0, none⟩) ∧ n ≤ g ∧ W.heap[g]? = some (.cells cs 36 (0, 0)) ∧ cs.size = 32 ∧ (k = true → cs = r)
theorem Made.keep {W W' : World} {n : Nat} {v : Value} {k : Bool} {r : Array Value} (h : Made W n v k r) (hb : Below W.heap.size W W') : Made W' n v k r := by
  obtain ⟨g, cs, h1, h2, h3, h4, h5⟩ := h
  exact ⟨g, cs, h1, h2, keepH hb h3, h4, h5⟩
theorem Made.alloc {W : World} {n : Nat} {v : Value} {k : Bool} {r : Array Value} (h : Made W n v k r) (o : Obj) : Made (W.alloc o) n v k r := h.keep ((Below.refl _ _).alloc (Nat.le_refl _) _)
theorem Made.ne {W : World} {n : Nat} {v : Value} {k : Bool} {r : Array Value} (h : Made W n v k r) : v ≠ .pointer (some ⟨W.heap.size, 0, none⟩) := by
  obtain ⟨g, cs, rfl, h2, h3, -⟩ := h
  have := lt_of_block h3
  intro e
  injection e with e; injection e with e; injection e with e
  omega
theorem Made.new (W : World) (n : Nat) (hn : n ≤ W.heap.size) (r : Array Value) : Made (W.alloc (.cells (row32 fun _ => 0) 36)) n (.pointer (some ⟨W.heap.size, 0, none⟩)) false r :=
  ⟨_, _, rfl, hn, lastH _ _ _ rfl, row32_size _, fun h => by cases h⟩
theorem Made.other {W : World} {n g : Nat} {v : Value} {k : Bool} {r : Array Value} (h : Made W n v k r) (hne : v ≠ .pointer (some ⟨g, 0, none⟩)) (c : Array Value) : Made (W.setRow g c) n v k r := by
  obtain ⟨g', cs, rfl, h2, h3, h4, h5⟩ := h
  exact ⟨g', cs, rfl, h2, (setRow_other W g g' c (fun e => hne (by rw [e]))).trans h3, h4, h5⟩
theorem Made.stored {W : World} {n g : Nat} {cs : Array Value} (h : W.heap[g]? = some (.cells cs 36 (0, 0))) (hn : n ≤ g) (f : Nat → Int) : Made (W.setRow g (row32 f)) n (.pointer (some ⟨g, 0, none⟩)) true (row32 f) :=
  ⟨g, row32 f, rfl, hn, setRow_heap W g cs _ _ _ h, row32_size _, fun _ => rfl⟩

theorem str_of_row (W : World) (g : Nat) (f : Nat → Int) (h : W.heap[g]? = some (brow f)) : (convert 39 9 (.slice (some ⟨g, 0, none⟩) 32 32)).run Try.prog W = .ok (.string (strOfNums ((List.range 32).map f))) W := by
  refine run_convert_bytes_arg W 39 5 Try.underlying39 Try.underlying5 g 0 32 32 _ (by simp) (fun i hi => ?_) 9 Try.underlying9
  rw [Nat.zero_add, cell_of_row _ _ _ _ _ _ h, row32_get _ _ hi]
  simp [List.getD_eq_getElem?_getD, hi]
theorem yields_row {P : Program} {ops : Array Oper} {S : World → Prop} {op : Oper} {a : Act} (hw : Region.wanted op (yielded ops a.tmps) = true) (ty : TypeId) (x : Operand) (ho : op.op = .load ty x) (g : Nat) (hx : a.eval x = .pointer (some ⟨g, 0, none⟩))
    (cs : Array Value) (t : TypeId) (d : TypeDesc) (hS : ∀ w, S w → w.heap[g]? = some (.cells cs t (0, 0))) (hu : P.underlying ty = some d) (hd : (match d with | .struct _ | .array _ _ => true | _ => false) = true) (hi : (P.info? ty).map (·.size) = some cs.size) : YieldsIf P ops S op (.agg cs) a :=
  .inl ⟨hw, fun w hw' => by
    unfold execOp
    simp only [ho, hx, Instr.loadAt, Instr.sureAddr, Sem.run_bind, Sem.run_pure, Result.andThen_ok, run_loadVar_row w g t ty cs (0, 0) d (hS w hw') hu hd hi]⟩
theorem range_of_row {W : World} {g : Nat} {cs : Array Value} {t : TypeId} (h : W.heap[g]? = some (.cells cs t (0, 0))) : W.rangeAt g 0 cs.toList := fun j v hv => by
  rw [Nat.zero_add, cell_of_row _ _ _ _ _ _ h]; simpa using hv

set_option maxRecDepth 100000 in
set_option maxHeartbeats 4000000 in
theorem bytes_law (a b : Nat) (c : Nat → Int) (ha : a < W256) (hb' : b < W256) (hc : Bytes8 c) (w : World) : Calls Try.prog 4 #[wv a, wv b, bv c] w (RetB w true) := by
  have q1 := eql_wide0; have q2 := wide_guard; have q3 := eql_wide
  have HA := Lib.hid ha; have HB := Lib.hid hb'; have HC := Lib.hid hc
  clear ha hb' hc
  go_enter Try.func4, Try.ntmps4
  have S0 := (((St.nil w).alloc (wrow a) _ rfl).alloc (wrow b) (w.heap.size + 1) (by simp)).alloc (brow c) (w.heap.size + 1 + 1) (by simp)
  go_wp2_with fail
  refine (alive_c _).mono ?_
  rintro e W1 ⟨rfl, hb⟩
  have S1 := S0.keep hb
  have hW1 : Hid (w.heap.size + 3 ≤ W1.heap.size) := by have := hb.size; simp at this; exact this
  clear hb S0
  obtain ⟨L0, hL0⟩ : ∃ L, L = [(w.heap.size + 1 + 1, brow c), (w.heap.size + 1, wrow b), (w.heap.size, wrow a)] := ⟨_, rfl⟩
  rw [← hL0] at S1
  have mc : (w.heap.size + 1 + 1, brow c) ∈ L0 := by rw [hL0]; exact List.Mem.head _
  have mb : (w.heap.size + 1, wrow b) ∈ L0 := by rw [hL0]; exact List.Mem.tail _ (List.Mem.head _)
  have ma : (w.heap.size, wrow a) ∈ L0 := by rw [hL0]; exact List.Mem.tail _ (List.Mem.tail _ (List.Mem.head _))
  have hlow : Hid (∀ p, p ∈ L0 → p.1 < w.heap.size + 3) := by
    rw [hL0]; intro p hp; simp at hp; rcases hp with rfl | rfl | rfl <;> simp
  clear hL0
  go_wp2_with fail
  go_cut [7, 8] (fun s7 s8 wx => ∃ g7 g8, s7 = .pointer (some ⟨g7, 0, none⟩) ∧ s8 = .pointer (some ⟨g8, 0, none⟩) ∧ St w ((g7, brow (byteAt a)) :: (g8, brow (byteAt b)) :: L0) wx)
  case first =>
    obtain ⟨T, hT⟩ : ∃ T : Value → Value → Value → Value → Value → Value → Array Value, T = fun v7 v8 v11 v12 v13 v14 => #[wv a, wv b, bv c, .pointer (some ⟨w.heap.size, 0, none⟩), .pointer (some ⟨w.heap.size + 1, 0, none⟩), .pointer (some ⟨w.heap.size + 1 + 1, 0, none⟩), .bool false, v7, v8, .bool true, .bool false, v11, v12, v13, v14, undef, undef, undef, undef, undef, undef, undef, undef, undef, undef, undef, undef, undef, undef, undef, undef, undef, undef, undef, undef, undef, undef, undef, undef, undef, undef, undef, undef, undef, undef, undef, undef, undef, undef, undef, undef, undef, undef, undef] := ⟨_, rfl⟩
    refine wp_region_steps (by kernel_rfl) (by kernel_rfl) (fun L act W => ∃ v7 v8 v11 v12 v13 v14, act = ⟨T v7 v8 v11 v12 v13 v14, []⟩ ∧ St w L0 W ∧ w.heap.size + 3 ≤ W.heap.size ∧ (L 0 = true → v11 = wv a) ∧ (L 1 = true → v12 = bv (byteAt a)) ∧ (L 2 = true → v13 = wv b) ∧ (L 3 = true → v14 = bv (byteAt b)) ∧
      (L 4 = true → Made W (w.heap.size + 3) v7 (L 6) (row32 (byteAt a))) ∧ (L 5 = true → Made W (w.heap.size + 3) v8 (L 7) (row32 (byteAt b))) ∧ (L 4 = true → L 5 = true → v7 ≠ v8) ∧ (L 6 = true → L 4 = true) ∧ (L 7 = true → L 5 = true)) ?start ?step ?fin
    case start =>
      rw [hT]
      exact ⟨undef, undef, undef, undef, undef, undef, rfl, S1.drew, hW1.out, nofun, nofun, nofun, nofun, nofun, nofun, nofun, nofun, nofun⟩
    case step =>
      refine ⟨?_, ?_, ?_, ?_, ?_, ?_, ?_, ?_, trivial⟩
      · intro L act W ⟨v7, v8, v11, v12, v13, v14, ha, hS, hsz, h0, h1, h2, h3, h4, h5, hne, h6, h7⟩ hno hdep; subst ha; subst hT
        refine wp_load_row 24 (.tmp 3) rfl w.heap.size rfl 24 (limbs4 a) (0, 0) _ (hS.get ma) Try.underlying24 rfl (by kernel_rfl) ?_
        exact ⟨v7, v8, wv a, v12, v13, v14, rfl, hS, hsz, fun _ => rfl, fun h => h1 (by rw [also_of (by decide)] at h; exact h), fun h => h2 (by rw [also_of (by decide)] at h; exact h), fun h => h3 (by rw [also_of (by decide)] at h; exact h), fun h => by rw [also_of (by decide)] at h ⊢; exact h4 h, fun h => by rw [also_of (by decide)] at h ⊢; exact h5 h, fun h h' => by rw [also_of (by decide)] at h h'; exact hne h h', fun h => by rw [also_of (by decide)] at h ⊢; exact h6 h, fun h => by rw [also_of (by decide)] at h ⊢; exact h7 h⟩
      · intro L act W ⟨v7, v8, v11, v12, v13, v14, ha, hS, hsz, h0, h1, h2, h3, h4, h5, hne, h6, h7⟩ hno hdep; subst ha; subst hT
        obtain rfl := h0 (hdep ⟨0, .data⟩ (by simp) rfl)
        go_simp
        refine (bytes_w a _).mono ?_
        rintro e W2 ⟨rfl, hb⟩
        have hsz2 := Nat.le_trans hsz hb.size
        exact ⟨v7, v8, wv a, bv (byteAt a), v13, v14, (by simp), hS.keep hb, hsz2, fun h => h0 (by rw [also_of (by decide)] at h; exact h), fun _ => rfl, fun h => h2 (by rw [also_of (by decide)] at h; exact h), fun h => h3 (by rw [also_of (by decide)] at h; exact h), fun h => by rw [also_of (by decide)] at h ⊢; exact (h4 h).keep hb, fun h => by rw [also_of (by decide)] at h ⊢; exact (h5 h).keep hb, fun h h' => by rw [also_of (by decide)] at h h'; exact hne h h', fun h => by rw [also_of (by decide)] at h ⊢; exact h6 h, fun h => by rw [also_of (by decide)] at h ⊢; exact h7 h⟩
      · intro L act W ⟨v7, v8, v11, v12, v13, v14, ha, hS, hsz, h0, h1, h2, h3, h4, h5, hne, h6, h7⟩ hno hdep; subst ha; subst hT
        refine wp_load_row 24 (.tmp 4) rfl (w.heap.size + 1) rfl 24 (limbs4 b) (0, 0) _ (hS.get mb) Try.underlying24 rfl (by kernel_rfl) ?_
        exact ⟨v7, v8, v11, v12, wv b, v14, rfl, hS, hsz, fun h => h0 (by rw [also_of (by decide)] at h; exact h), fun h => h1 (by rw [also_of (by decide)] at h; exact h), fun _ => rfl, fun h => h3 (by rw [also_of (by decide)] at h; exact h), fun h => by rw [also_of (by decide)] at h ⊢; exact h4 h, fun h => by rw [also_of (by decide)] at h ⊢; exact h5 h, fun h h' => by rw [also_of (by decide)] at h h'; exact hne h h', fun h => by rw [also_of (by decide)] at h ⊢; exact h6 h, fun h => by rw [also_of (by decide)] at h ⊢; exact h7 h⟩
      · intro L act W ⟨v7, v8, v11, v12, v13, v14, ha, hS, hsz, h0, h1, h2, h3, h4, h5, hne, h6, h7⟩ hno hdep; subst ha; subst hT
        obtain rfl := h2 (hdep ⟨2, .data⟩ (by simp) rfl)
        go_simp
        refine (bytes_w b _).mono ?_
        rintro e W2 ⟨rfl, hb⟩
        have hsz2 := Nat.le_trans hsz hb.size
        exact ⟨v7, v8, v11, v12, wv b, bv (byteAt b), (by simp), hS.keep hb, hsz2, fun h => h0 (by rw [also_of (by decide)] at h; exact h), fun h => h1 (by rw [also_of (by decide)] at h; exact h), fun h => h2 (by rw [also_of (by decide)] at h; exact h), fun _ => rfl, fun h => by rw [also_of (by decide)] at h ⊢; exact (h4 h).keep hb, fun h => by rw [also_of (by decide)] at h ⊢; exact (h5 h).keep hb, fun h h' => by rw [also_of (by decide)] at h h'; exact hne h h', fun h => by rw [also_of (by decide)] at h ⊢; exact h6 h, fun h => by rw [also_of (by decide)] at h ⊢; exact h7 h⟩
      · intro L act W ⟨v7, v8, v11, v12, v13, v14, ha, hS, hsz, h0, h1, h2, h3, h4, h5, hne, h6, h7⟩ hno hdep; subst ha; subst hT
        have hL : L 6 = false := by
          cases hq : L 6 with
          | false => rfl
          | true => have := h6 hq; rw [hno] at this; cases this
        go_simp
        exact ⟨.pointer (some ⟨W.heap.size, 0, none⟩), v8, v11, v12, v13, v14, (by simp), hS.alloc0 _, (by simp at *; omega), fun h => h0 (by rw [also_of (by decide)] at h; exact h), fun h => h1 (by rw [also_of (by decide)] at h; exact h), fun h => h2 (by rw [also_of (by decide)] at h; exact h), fun h => h3 (by rw [also_of (by decide)] at h; exact h), fun _ => by rw [also_of (by decide), hL]; exact Made.new W _ hsz _, fun h => by rw [also_of (by decide)] at h ⊢; exact (h5 h).alloc _, fun h h' => by rw [also_of (by decide)] at h'; exact fun e => (h5 h').ne e.symm, fun h => also_self, fun h => by rw [also_of (by decide)] at h ⊢; exact h7 h⟩
      · intro L act W ⟨v7, v8, v11, v12, v13, v14, ha, hS, hsz, h0, h1, h2, h3, h4, h5, hne, h6, h7⟩ hno hdep; subst ha; subst hT
        have hL : L 7 = false := by
          cases hq : L 7 with
          | false => rfl
          | true => have := h7 hq; rw [hno] at this; cases this
        go_simp
        exact ⟨v7, .pointer (some ⟨W.heap.size, 0, none⟩), v11, v12, v13, v14, (by simp), hS.alloc0 _, (by simp at *; omega), fun h => h0 (by rw [also_of (by decide)] at h; exact h), fun h => h1 (by rw [also_of (by decide)] at h; exact h), fun h => h2 (by rw [also_of (by decide)] at h; exact h), fun h => h3 (by rw [also_of (by decide)] at h; exact h), fun h => by rw [also_of (by decide)] at h ⊢; exact (h4 h).alloc _, fun _ => by rw [also_of (by decide), hL]; exact Made.new W _ hsz _, fun h h' => by rw [also_of (by decide)] at h; exact (h4 h).ne, fun h => by rw [also_of (by decide)] at h ⊢; exact h6 h, fun h => also_self⟩
      · intro L act W ⟨v7, v8, v11, v12, v13, v14, ha, hS, hsz, h0, h1, h2, h3, h4, h5, hne, h6, h7⟩ hno hdep; subst ha; subst hT
        obtain ⟨g, cs, rfl, k7, t, z, -⟩ := h4 (hdep ⟨4, .phase⟩ (by simp) rfl)
        obtain rfl := h1 (hdep ⟨1, .phase⟩ (by simp) rfl)
        refine wp_store_row 36 (.tmp 7) (.tmp 12) rfl g (row32 (byteAt a)) rfl rfl 36 cs t b32_info (by rw [z]; rfl) (row32_one _) ?_
        exact ⟨_, v8, v11, _, v13, v14, rfl, hS.setRow (by omega) (fun p hp => Nat.lt_of_lt_of_le (hlow.out p hp) k7) _, (by simpa [World.setRow] using hsz), fun h => h0 (by rw [also_of (by decide)] at h; exact h), fun h => h1 (by rw [also_of (by decide)] at h; exact h), fun h => h2 (by rw [also_of (by decide)] at h; exact h), fun h => h3 (by rw [also_of (by decide)] at h; exact h), fun h => by rw [also_self]; exact Made.stored t k7 _, fun h => by rw [also_of (by decide)] at h ⊢; exact (h5 h).other (fun e => hne (hdep ⟨4, .phase⟩ (by simp) rfl) (hdep ⟨5, .phase⟩ (by simp) rfl) e.symm) _, fun h h' => by rw [also_of (by decide)] at h h'; exact hne h h', fun h => by rw [also_of (by decide)]; exact hdep ⟨4, .phase⟩ (by simp) rfl, fun h => by rw [also_of (by decide)] at h ⊢; exact h7 h⟩
      · intro L act W ⟨v7, v8, v11, v12, v13, v14, ha, hS, hsz, h0, h1, h2, h3, h4, h5, hne, h6, h7⟩ hno hdep; subst ha; subst hT
        obtain ⟨g, cs, rfl, k7, t, z, -⟩ := h5 (hdep ⟨5, .phase⟩ (by simp) rfl)
        obtain rfl := h3 (hdep ⟨3, .phase⟩ (by simp) rfl)
        refine wp_store_row 36 (.tmp 8) (.tmp 14) rfl g (row32 (byteAt b)) rfl rfl 36 cs t b32_info (by rw [z]; rfl) (row32_one _) ?_
        exact ⟨v7, _, v11, v12, v13, _, rfl, hS.setRow (by omega) (fun p hp => Nat.lt_of_lt_of_le (hlow.out p hp) k7) _, (by simpa [World.setRow] using hsz), fun h => h0 (by rw [also_of (by decide)] at h; exact h), fun h => h1 (by rw [also_of (by decide)] at h; exact h), fun h => h2 (by rw [also_of (by decide)] at h; exact h), fun h => h3 (by rw [also_of (by decide)] at h; exact h), fun h => by rw [also_of (by decide)] at h ⊢; exact (h4 h).other (fun e => hne (hdep ⟨4, .phase⟩ (by simp) rfl) (hdep ⟨5, .phase⟩ (by simp) rfl) e) _, fun h => by rw [also_self]; exact Made.stored t k7 _, fun h h' => by rw [also_of (by decide)] at h h'; exact hne h h', fun h => by rw [also_of (by decide)] at h ⊢; exact h6 h, fun h => by rw [also_of (by decide)]; exact hdep ⟨5, .phase⟩ (by simp) rfl⟩
    case fin =>
      intro L act W hall ⟨v7, v8, v11, v12, v13, v14, ha, hS, hsz, h0, h1, h2, h3, h4, h5, hne, h6, h7⟩
      subst ha
      obtain ⟨g7, c7, rfl, k7, t7, z7, e7⟩ := h4 (hall 4 (by decide))
      obtain ⟨g8, c8, rfl, k8, t8, z8, e8⟩ := h5 (hall 5 (by decide))
      obtain rfl := e7 (hall 6 (by decide))
      obtain rfl := e8 (hall 7 (by decide))
      subst hT
      go_wp2_with fail
      go_meet
      exact ⟨g7, g8, rfl, rfl, (hS.cons t8).cons t7⟩
  case rest =>
    obtain ⟨g7, g8, rfl, rfl, S2⟩ := hcut
    clear S1
    obtain ⟨M, hM⟩ : ∃ M, M = (g7, brow (byteAt a)) :: (g8, brow (byteAt b)) :: L0 := ⟨_, rfl⟩
    rw [← hM] at S2
    have n7 : (g7, brow (byteAt a)) ∈ M := by rw [hM]; exact List.Mem.head _
    have n8 : (g8, brow (byteAt b)) ∈ M := by rw [hM]; exact List.Mem.tail _ (List.Mem.head _)
    have nc : (w.heap.size + 1 + 1, brow c) ∈ M := by rw [hM]; simp [mc]
    have na : (w.heap.size, wrow a) ∈ M := by rw [hM]; simp [ma]
    have nb : (w.heap.size + 1, wrow b) ∈ M := by rw [hM]; simp [mb]
    clear hM
    have r0 := St.reads (w := w) (L := M) (g := w.heap.size) (z := a) na
    have r1 := St.reads (w := w) (L := M) (g := w.heap.size + 1) (z := b) nb
    obtain ⟨y31, hy31⟩ : ∃ y, y = byteAt a 31 := ⟨_, rfl⟩
    obtain ⟨y0, hy0⟩ : ∃ y, y = byteAt a 0 := ⟨_, rfl⟩
    have r2 : ∀ W, St w M W → W.cell? ⟨g7, 31, none⟩ = some (.int .u8 y31) ∧ W.cell? ⟨g7, 0, none⟩ = some (.int .u8 y0) := fun W S => by
      rw [hy31, hy0]; exact ⟨(cell_of_row _ _ _ _ _ _ (S.get n7)).trans (row32_get _ _ (by decide)), (cell_of_row _ _ _ _ _ _ (S.get n7)).trans (row32_get _ _ (by decide))⟩
    have hv31 : IntKind.u8.wrap ((limb a 0 : Nat) : Int) = y31 := by rw [hy31]; exact low_byte a
    have hv0 : IntKind.u8.wrap (((limb a 3 : Nat) : Int) / 72057594037927936) = y0 := by rw [hy0]; exact high_byte a HA.out
    clear hy31 hy0
    obtain ⟨sa, hsa⟩ : ∃ s, s = strOfNums ((List.range 32).map (byteAt a)) := ⟨_, rfl⟩
    obtain ⟨sb, hsb⟩ : ∃ s, s = strOfNums ((List.range 32).map (byteAt b)) := ⟨_, rfl⟩
    have k1 : ∀ W, St w M W → (convert 39 9 (.slice (some ⟨g7, 0, none⟩) 32 32)).run Try.prog W = .ok (.string sa) W := fun W S => by rw [hsa]; exact str_of_row W g7 (byteAt a) (S.get n7)
    have k2 : ∀ W, St w M W → (convert 39 9 (.slice (some ⟨g8, 0, none⟩) 32 32)).run Try.prog W = .ok (.string sb) W := fun W S => by rw [hsb]; exact str_of_row W g8 (byteAt b) (S.get n8)
    have hlt : Op.bytesLess sa.toList sb.toList = decide (a < b) := by rw [hsa, hsb]; exact str_less a b HA.out HB.out
    clear hsa hsb
    obtain ⟨lo, hlo⟩ : ∃ m, decide (a < b) = m := ⟨_, rfl⟩
    rw [hlo] at hlt
    have CL : Hid (∀ W, Calls Try.prog 18 #[wv a, wv b] W fun e w' => e = .returned (.bool lo) ∧ Below W.heap.size W w') := fun W => by
      have := less_c a b HA.out HB.out W
      rwa [hlo] at this
    clear hlo
    have CFa : Hid (∀ W, Calls Try.prog 21 #[bv (byteAt a)] W fun e w' => e = .returned (wv a) ∧ Below W.heap.size W w') := fun W => from_bytes a HA.out W
    obtain ⟨z, hz⟩ : ∃ z, z = beN c 32 := ⟨_, rfl⟩
    have CFc : Hid (∀ W, Calls Try.prog 21 #[bv c] W fun e w' => e = .returned (wv z) ∧ Below W.heap.size W w') := fun W => by
      rw [hz]
      refine (from_w c HC.out W).mono ?_
      rintro e w' ⟨z', -, rfl, rfl, hb⟩
      exact ⟨rfl, hb⟩
    have CBz : Hid (∀ W, Calls Try.prog 20 #[wv z] W fun e w' => e = .returned (bv c) ∧ Below W.heap.size W w') := fun W => by
      rw [hz]
      refine (bytes_w (beN c 32) W).mono ?_
      rintro e w' ⟨rfl, hb⟩
      exact ⟨by show Ending.returned (.agg (row32 (byteAt (beN c 32)))) = _; rw [bytes_from c HC.out], hb⟩
    clear hz
    have e1 : weq a a = true := eql_wide_iff HA.out HA.out rfl
    have e2 : ∀ W, (Op.equalIn 10000 36 (bv c) (bv c)).run Try.prog W = .ok true W := fun W => eql_b32_same c W
    have e3 : Try.prog.eqGuardType Try.prog.depth 36 = false := by kernel_rfl
    go_wp2_with fail
    have S3 := S2.drew
    refine wp_region_held_drew (S := fun w' => St w M w') (by kernel_rfl) (S3) (fun hH0 => ?_)
    refine wpAnyH_take (i := 0) (oi := { dst := some 15, op := Op.load 36 (Operand.tmp 7), type := 36, pos := "law.go:86", after := #[], guard := none }) (v := _) rfl (by kernel_rfl) (by kernel_rfl) (by kernel_rfl) (fun _ _ _ h => h) (yields_row (by rfl) 36 (.tmp 7) rfl g7 rfl (row32 (byteAt a)) 36 _ (fun W S => S.get n7) Try.underlying36 rfl b32_info) hH0 ?_
    try simp only [Act.put, List.setIfInBounds_toArray, List.set_cons_zero, List.set_cons_succ]
    refine wpAnyH_take (i := 2) (oi := { dst := some 17, op := Op.load 24 (Operand.tmp 3), type := 24, pos := "law.go:86", after := #[], guard := none }) (v := ?_) rfl (by kernel_rfl) (by kernel_rfl) (by kernel_rfl) (fun _ _ _ h => h) (Or.inl ⟨by rfl, ?_⟩) hH0 ?_
    rotate_left 1
    · intro w hSw; (try dsimp only at hSw); go_simp; try with_reducible rfl
    try simp only [Act.put, List.setIfInBounds_toArray, List.set_cons_zero, List.set_cons_succ]
    refine wpAnyH_ready (rs := [1]) (by kernel_rfl) (by simp) ?_
    refine AllReadyH.cons (o := { dst := some 16, op := Op.call { callee := Callee.value (Operand.func 21), args := #[Operand.tmp 15], argTypes := #[36] }, type := 24, pos := "law.go:86", after := #[{ on := 0, ground := Ground.data }], guard := none }) rfl (fun K hK => ?_) AllReadyH.nil
    go_simp
    (refine (CFa.out _).mono ?_; rintro e w' ⟨rfl, hb⟩; (try dsimp only))
    refine hK.out _ _ (St.keep hH0 hb) (fun hH1 => ?_)
    clear hK K hb
    try simp only [Act.put, List.setIfInBounds_toArray, List.set_cons_zero, List.set_cons_succ]
    refine wpAnyH_take (i := 3) (oi := { dst := some 18, op := Op.binOp BinOp.eql 24 (Operand.tmp 16) (Operand.tmp 17) 24, type := 4, pos := "law.go:86", after := #[{ on := 1, ground := Ground.data }, { on := 2, ground := Ground.data }], guard := none }) (v := ?_) rfl (by kernel_rfl) (by kernel_rfl) (by kernel_rfl) (fun _ _ _ h => h) (Or.inl ⟨by rfl, ?_⟩) hH1 ?_
    rotate_left 1
    · intro w hSw; (try dsimp only at hSw); go_simp; try with_reducible rfl
    try simp only [Act.put, List.setIfInBounds_toArray, List.set_cons_zero, List.set_cons_succ]
    refine wpAnyH_take (i := 4) (oi := { dst := some 19, op := Op.move (Operand.tmp 18), type := 4, pos := "law.go:86", after := #[{ on := 3, ground := Ground.data }, { on := 1, ground := Ground.chain }], guard := none }) (v := ?_) rfl (by kernel_rfl) (by kernel_rfl) (by kernel_rfl) (fun _ _ _ h => h) (Or.inl ⟨by rfl, ?_⟩) hH1 ?_
    rotate_left 1
    · intro w hSw; (try dsimp only at hSw); go_simp; try with_reducible rfl
    try simp only [Act.put, List.setIfInBounds_toArray, List.set_cons_zero, List.set_cons_succ]
    refine wpAnyH_take (i := 5) (oi := { dst := some 20, op := Op.load 36 (Operand.tmp 5), type := 36, pos := "law.go:86", after := #[{ on := 4, ground := Ground.guard }], guard := some (4, true) }) (v := _) rfl (by kernel_rfl) (by kernel_rfl) (by kernel_rfl) (fun _ _ _ h => h) (yields_row (by rfl) 36 (.tmp 5) rfl (w.heap.size + 1 + 1) rfl (row32 c) 36 _ (fun W S => S.get nc) Try.underlying36 rfl b32_info) hH1 ?_
    try simp only [Act.put, List.setIfInBounds_toArray, List.set_cons_zero, List.set_cons_succ]
    refine wpAnyH_take (i := 8) (oi := { dst := some 23, op := Op.load 36 (Operand.tmp 5), type := 36, pos := "law.go:86", after := #[{ on := 4, ground := Ground.guard }], guard := some (4, true) }) (v := _) rfl (by kernel_rfl) (by kernel_rfl) (by kernel_rfl) (fun _ _ _ h => h) (yields_row (by rfl) 36 (.tmp 5) rfl (w.heap.size + 1 + 1) rfl (row32 c) 36 _ (fun W S => S.get nc) Try.underlying36 rfl b32_info) hH1 ?_
    try simp only [Act.put, List.setIfInBounds_toArray, List.set_cons_zero, List.set_cons_succ]
    refine wpAnyH_ready (rs := [6]) (by kernel_rfl) (by simp) ?_
    refine AllReadyH.cons (o := { dst := some 21, op := Op.call { callee := Callee.value (Operand.func 21), args := #[Operand.tmp 20], argTypes := #[36] }, type := 24, pos := "law.go:86", after := #[{ on := 5, ground := Ground.data }, { on := 4, ground := Ground.chain }, { on := 4, ground := Ground.guard }], guard := some (4, true) }) rfl (fun K hK => ?_) AllReadyH.nil
    go_simp
    (refine (CFc.out _).mono ?_; rintro e w' ⟨rfl, hb⟩; (try dsimp only))
    refine hK.out _ _ (St.keep hH1 hb) (fun hH2 => ?_)
    clear hK K hb
    try simp only [Act.put, List.setIfInBounds_toArray, List.set_cons_zero, List.set_cons_succ]
    refine wpAnyH_ready (rs := [7]) (by kernel_rfl) (by simp) ?_
    refine AllReadyH.cons (o := { dst := some 22, op := Op.call { callee := Callee.value (Operand.func 20), args := #[Operand.tmp 21], argTypes := #[24] }, type := 36, pos := "law.go:86", after := #[{ on := 6, ground := Ground.data }, { on := 6, ground := Ground.chain }, { on := 4, ground := Ground.guard }], guard := some (4, true) }) rfl (fun K hK => ?_) AllReadyH.nil
    go_simp
    (refine (CBz.out _).mono ?_; rintro e w' ⟨rfl, hb⟩; (try dsimp only))
    refine hK.out _ _ (St.keep hH2 hb) (fun hH3 => ?_)
    clear hK K hb
    try simp only [Act.put, List.setIfInBounds_toArray, List.set_cons_zero, List.set_cons_succ]
    refine wpAnyH_take (i := 9) (oi := { dst := some 24, op := Op.binOp BinOp.eql 36 (Operand.tmp 22) (Operand.tmp 23) 36, type := 4, pos := "law.go:86", after := #[{ on := 7, ground := Ground.data }, { on := 8, ground := Ground.data }, { on := 4, ground := Ground.guard }], guard := some (4, true) }) (v := ?_) rfl (by kernel_rfl) (by kernel_rfl) (by kernel_rfl) (fun _ _ _ h => h) (Or.inl ⟨by rfl, ?_⟩) hH3 ?_
    rotate_left 1
    · intro w hSw; (try dsimp only at hSw); go_simp; try with_reducible rfl
    try simp only [Act.put, List.setIfInBounds_toArray, List.set_cons_zero, List.set_cons_succ]
    refine wpAnyH_take (i := 10) (oi := { dst := some 25, op := Op.pick (Operand.tmp 19) (Operand.tmp 24) (Operand.const (Value.bool false)), type := 4, pos := "law.go:86", after := #[{ on := 4, ground := Ground.data }, { on := 9, ground := Ground.data }], guard := none }) (v := ?_) rfl (by kernel_rfl) (by kernel_rfl) (by kernel_rfl) (fun _ _ _ h => h) (Or.inl ⟨by rfl, ?_⟩) hH3 ?_
    rotate_left 1
    · intro w hSw; (try dsimp only at hSw); go_simp; try with_reducible rfl
    try simp only [Act.put, List.setIfInBounds_toArray, List.set_cons_zero, List.set_cons_succ]
    refine wpAnyH_take (i := 11) (oi := { dst := some 26, op := Op.move (Operand.tmp 25), type := 4, pos := "law.go:86", after := #[{ on := 10, ground := Ground.data }, { on := 7, ground := Ground.chain }], guard := none }) (v := ?_) rfl (by kernel_rfl) (by kernel_rfl) (by kernel_rfl) (fun _ _ _ h => h) (Or.inl ⟨by rfl, ?_⟩) hH3 ?_
    rotate_left 1
    · intro w hSw; (try dsimp only at hSw); go_simp; try with_reducible rfl
    try simp only [Act.put, List.setIfInBounds_toArray, List.set_cons_zero, List.set_cons_succ]
    refine wpAnyH_take (i := 12) (oi := { dst := some 27, op := Op.load 24 (Operand.tmp 3), type := 24, pos := "law.go:86", after := #[{ on := 11, ground := Ground.guard }], guard := some (11, true) }) (v := ?_) rfl (by kernel_rfl) (by kernel_rfl) (by kernel_rfl) (fun _ _ _ h => h) (Or.inl ⟨by rfl, ?_⟩) hH3 ?_
    rotate_left 1
    · intro w hSw; (try dsimp only at hSw); go_simp; try with_reducible rfl
    try simp only [Act.put, List.setIfInBounds_toArray, List.set_cons_zero, List.set_cons_succ]
    refine wpAnyH_take (i := 13) (oi := { dst := some 28, op := Op.load 24 (Operand.tmp 4), type := 24, pos := "law.go:86", after := #[{ on := 11, ground := Ground.guard }], guard := some (11, true) }) (v := ?_) rfl (by kernel_rfl) (by kernel_rfl) (by kernel_rfl) (fun _ _ _ h => h) (Or.inl ⟨by rfl, ?_⟩) hH3 ?_
    rotate_left 1
    · intro w hSw; (try dsimp only at hSw); go_simp; try with_reducible rfl
    try simp only [Act.put, List.setIfInBounds_toArray, List.set_cons_zero, List.set_cons_succ]
    refine wpAnyH_take (i := 15) (oi := { dst := some 30, op := Op.slice 36 (Operand.tmp 7) none none none, type := 39, pos := "law.go:86", after := #[{ on := 11, ground := Ground.guard }], guard := some (11, true) }) (v := ?_) rfl (by kernel_rfl) (by kernel_rfl) (by kernel_rfl) (fun _ _ _ h => h) (Or.inl ⟨by rfl, ?_⟩) hH3 ?_
    rotate_left 1
    · intro w hSw; (try dsimp only at hSw); go_simp; try with_reducible rfl
    try simp only [Act.put, List.setIfInBounds_toArray, List.set_cons_zero, List.set_cons_succ]
    refine wpAnyH_take (i := 16) (oi := { dst := some 31, op := Op.convert 39 9 (Operand.tmp 30), type := 9, pos := "law.go:86", after := #[{ on := 15, ground := Ground.data }, { on := 11, ground := Ground.guard }], guard := some (11, true) }) (v := ?_) rfl (by kernel_rfl) (by kernel_rfl) (by kernel_rfl) (fun _ _ _ h => h) (Or.inl ⟨by rfl, ?_⟩) hH3 ?_
    rotate_left 1
    · intro w hSw; (try dsimp only at hSw); go_simp; try with_reducible rfl
    try simp only [Act.put, List.setIfInBounds_toArray, List.set_cons_zero, List.set_cons_succ]
    refine wpAnyH_take (i := 17) (oi := { dst := some 32, op := Op.slice 36 (Operand.tmp 8) none none none, type := 39, pos := "law.go:86", after := #[{ on := 11, ground := Ground.guard }], guard := some (11, true) }) (v := ?_) rfl (by kernel_rfl) (by kernel_rfl) (by kernel_rfl) (fun _ _ _ h => h) (Or.inl ⟨by rfl, ?_⟩) hH3 ?_
    rotate_left 1
    · intro w hSw; (try dsimp only at hSw); go_simp; try with_reducible rfl
    try simp only [Act.put, List.setIfInBounds_toArray, List.set_cons_zero, List.set_cons_succ]
    refine wpAnyH_take (i := 18) (oi := { dst := some 33, op := Op.convert 39 9 (Operand.tmp 32), type := 9, pos := "law.go:86", after := #[{ on := 17, ground := Ground.data }, { on := 11, ground := Ground.guard }], guard := some (11, true) }) (v := ?_) rfl (by kernel_rfl) (by kernel_rfl) (by kernel_rfl) (fun _ _ _ h => h) (Or.inl ⟨by rfl, ?_⟩) hH3 ?_
    rotate_left 1
    · intro w hSw; (try dsimp only at hSw); go_simp; try with_reducible rfl
    try simp only [Act.put, List.setIfInBounds_toArray, List.set_cons_zero, List.set_cons_succ]
    refine wpAnyH_take (i := 19) (oi := { dst := some 34, op := Op.binOp BinOp.lss 9 (Operand.tmp 31) (Operand.tmp 33) 9, type := 4, pos := "law.go:86", after := #[{ on := 16, ground := Ground.data }, { on := 18, ground := Ground.data }, { on := 11, ground := Ground.guard }], guard := some (11, true) }) (v := ?_) rfl (by kernel_rfl) (by kernel_rfl) (by kernel_rfl) (fun _ _ _ h => h) (Or.inl ⟨by rfl, ?_⟩) hH3 ?_
    rotate_left 1
    · intro w hSw; (try dsimp only at hSw); go_simp; try with_reducible rfl
    try simp only [Act.put, List.setIfInBounds_toArray, List.set_cons_zero, List.set_cons_succ]
    refine wpAnyH_ready (rs := [14]) (by kernel_rfl) (by simp) ?_
    refine AllReadyH.cons (o := { dst := some 29, op := Op.call { callee := Callee.value (Operand.func 18), args := #[Operand.tmp 27, Operand.tmp 28], argTypes := #[24, 24] }, type := 4, pos := "law.go:86", after := #[{ on := 12, ground := Ground.data }, { on := 13, ground := Ground.data }, { on := 11, ground := Ground.chain }, { on := 11, ground := Ground.guard }], guard := some (11, true) }) rfl (fun K hK => ?_) AllReadyH.nil
    go_simp
    (refine (CL.out _).mono ?_; rintro e w' ⟨rfl, hb⟩; (try dsimp only))
    refine hK.out _ _ (St.keep hH3 hb) (fun hH4 => ?_)
    clear hK K hb
    try simp only [Act.put, List.setIfInBounds_toArray, List.set_cons_zero, List.set_cons_succ]
    refine wpAnyH_take (i := 20) (oi := { dst := some 35, op := Op.binOp BinOp.eql 4 (Operand.tmp 29) (Operand.tmp 34) 4, type := 4, pos := "law.go:86", after := #[{ on := 14, ground := Ground.data }, { on := 19, ground := Ground.data }, { on := 11, ground := Ground.guard }], guard := some (11, true) }) (v := ?_) rfl (by kernel_rfl) (by kernel_rfl) (by kernel_rfl) (fun _ _ _ h => h) (Or.inl ⟨by rfl, ?_⟩) hH4 ?_
    rotate_left 1
    · intro w hSw; (try dsimp only at hSw); go_simp; try with_reducible rfl
    try simp only [Act.put, List.setIfInBounds_toArray, List.set_cons_zero, List.set_cons_succ]
    refine wpAnyH_take (i := 21) (oi := { dst := some 36, op := Op.pick (Operand.tmp 26) (Operand.tmp 35) (Operand.const (Value.bool false)), type := 4, pos := "law.go:86", after := #[{ on := 11, ground := Ground.data }, { on := 20, ground := Ground.data }], guard := none }) (v := ?_) rfl (by kernel_rfl) (by kernel_rfl) (by kernel_rfl) (fun _ _ _ h => h) (Or.inl ⟨by rfl, ?_⟩) hH4 ?_
    rotate_left 1
    · intro w hSw; (try dsimp only at hSw); go_simp; try with_reducible rfl
    try simp only [Act.put, List.setIfInBounds_toArray, List.set_cons_zero, List.set_cons_succ]
    refine wpAnyH_take (i := 22) (oi := { dst := some 37, op := Op.move (Operand.tmp 36), type := 4, pos := "law.go:86", after := #[{ on := 21, ground := Ground.data }, { on := 14, ground := Ground.chain }], guard := none }) (v := ?_) rfl (by kernel_rfl) (by kernel_rfl) (by kernel_rfl) (fun _ _ _ h => h) (Or.inl ⟨by rfl, ?_⟩) hH4 ?_
    rotate_left 1
    · intro w hSw; (try dsimp only at hSw); go_simp; try with_reducible rfl
    try simp only [Act.put, List.setIfInBounds_toArray, List.set_cons_zero, List.set_cons_succ]
    refine wpAnyH_take (i := 23) (oi := { dst := some 38, op := Op.indexAddr 36 (Operand.tmp 7) (Operand.const (Value.int IntKind.i64 31)), type := 0, pos := "law.go:86", after := #[{ on := 22, ground := Ground.guard }], guard := some (22, true) }) (v := ?_) rfl (by kernel_rfl) (by kernel_rfl) (by kernel_rfl) (fun _ _ _ h => h) (Or.inl ⟨by rfl, ?_⟩) hH4 ?_
    rotate_left 1
    · intro w hSw; (try dsimp only at hSw); go_simp; try with_reducible rfl
    try simp only [Act.put, List.setIfInBounds_toArray, List.set_cons_zero, List.set_cons_succ]
    refine wpAnyH_take (i := 24) (oi := { dst := some 39, op := Op.load 5 (Operand.tmp 38), type := 5, pos := "law.go:86", after := #[{ on := 23, ground := Ground.data }, { on := 22, ground := Ground.guard }], guard := some (22, true) }) (v := ?_) rfl (by kernel_rfl) (by kernel_rfl) (by kernel_rfl) (fun _ _ _ h => h) (Or.inl ⟨by rfl, ?_⟩) hH4 ?_
    rotate_left 1
    · intro w hSw; (try dsimp only at hSw); go_simp; try with_reducible rfl
    try simp only [Act.put, List.setIfInBounds_toArray, List.set_cons_zero, List.set_cons_succ]
    refine wpAnyH_take (i := 25) (oi := { dst := some 40, op := Op.indexAddr 24 (Operand.tmp 3) (Operand.const (Value.int IntKind.i64 0)), type := 0, pos := "law.go:86", after := #[{ on := 22, ground := Ground.guard }], guard := some (22, true) }) (v := ?_) rfl (by kernel_rfl) (by kernel_rfl) (by kernel_rfl) (fun _ _ _ h => h) (Or.inl ⟨by rfl, ?_⟩) hH4 ?_
    rotate_left 1
    · intro w hSw; (try dsimp only at hSw); go_simp; try with_reducible rfl
    try simp only [Act.put, List.setIfInBounds_toArray, List.set_cons_zero, List.set_cons_succ]
    refine wpAnyH_take (i := 26) (oi := { dst := some 41, op := Op.load 22 (Operand.tmp 40), type := 22, pos := "law.go:86", after := #[{ on := 25, ground := Ground.data }, { on := 22, ground := Ground.guard }], guard := some (22, true) }) (v := ?_) rfl (by kernel_rfl) (by kernel_rfl) (by kernel_rfl) (fun _ _ _ h => h) (Or.inl ⟨by rfl, ?_⟩) hH4 ?_
    rotate_left 1
    · intro w hSw; (try dsimp only at hSw); go_simp; try with_reducible rfl
    try simp only [Act.put, List.setIfInBounds_toArray, List.set_cons_zero, List.set_cons_succ]
    refine wpAnyH_take (i := 27) (oi := { dst := some 42, op := Op.convert 22 5 (Operand.tmp 41), type := 5, pos := "law.go:86", after := #[{ on := 26, ground := Ground.data }, { on := 22, ground := Ground.guard }], guard := some (22, true) }) (v := ?_) rfl (by kernel_rfl) (by kernel_rfl) (by kernel_rfl) (fun _ _ _ h => h) (Or.inl ⟨by rfl, ?_⟩) hH4 ?_
    rotate_left 1
    · intro w hSw; (try dsimp only at hSw); go_simp; try with_reducible rfl
    try simp only [Act.put, List.setIfInBounds_toArray, List.set_cons_zero, List.set_cons_succ]
    refine wpAnyH_take (i := 28) (oi := { dst := some 43, op := Op.binOp BinOp.eql 5 (Operand.tmp 39) (Operand.tmp 42) 5, type := 4, pos := "law.go:86", after := #[{ on := 24, ground := Ground.data }, { on := 27, ground := Ground.data }, { on := 22, ground := Ground.guard }], guard := some (22, true) }) (v := ?_) rfl (by kernel_rfl) (by kernel_rfl) (by kernel_rfl) (fun _ _ _ h => h) (Or.inl ⟨by rfl, ?_⟩) hH4 ?_
    rotate_left 1
    · intro w hSw; (try dsimp only at hSw); go_simp; try with_reducible rfl
    try simp only [Act.put, List.setIfInBounds_toArray, List.set_cons_zero, List.set_cons_succ]
    refine wpAnyH_take (i := 29) (oi := { dst := some 44, op := Op.pick (Operand.tmp 37) (Operand.tmp 43) (Operand.const (Value.bool false)), type := 4, pos := "law.go:86", after := #[{ on := 22, ground := Ground.data }, { on := 28, ground := Ground.data }], guard := none }) (v := ?_) rfl (by kernel_rfl) (by kernel_rfl) (by kernel_rfl) (fun _ _ _ h => h) (Or.inl ⟨by rfl, ?_⟩) hH4 ?_
    rotate_left 1
    · intro w hSw; (try dsimp only at hSw); go_simp; try with_reducible rfl
    try simp only [Act.put, List.setIfInBounds_toArray, List.set_cons_zero, List.set_cons_succ]
    refine wpAnyH_take (i := 30) (oi := { dst := some 45, op := Op.move (Operand.tmp 44), type := 4, pos := "law.go:86", after := #[{ on := 29, ground := Ground.data }, { on := 22, ground := Ground.chain }], guard := none }) (v := ?_) rfl (by kernel_rfl) (by kernel_rfl) (by kernel_rfl) (fun _ _ _ h => h) (Or.inl ⟨by rfl, ?_⟩) hH4 ?_
    rotate_left 1
    · intro w hSw; (try dsimp only at hSw); go_simp; try with_reducible rfl
    try simp only [Act.put, List.setIfInBounds_toArray, List.set_cons_zero, List.set_cons_succ]
    refine wpAnyH_take (i := 31) (oi := { dst := some 46, op := Op.indexAddr 36 (Operand.tmp 7) (Operand.const (Value.int IntKind.i64 0)), type := 0, pos := "law.go:86", after := #[{ on := 30, ground := Ground.guard }], guard := some (30, true) }) (v := ?_) rfl (by kernel_rfl) (by kernel_rfl) (by kernel_rfl) (fun _ _ _ h => h) (Or.inl ⟨by rfl, ?_⟩) hH4 ?_
    rotate_left 1
    · intro w hSw; (try dsimp only at hSw); go_simp; try with_reducible rfl
    try simp only [Act.put, List.setIfInBounds_toArray, List.set_cons_zero, List.set_cons_succ]
    refine wpAnyH_take (i := 32) (oi := { dst := some 47, op := Op.load 5 (Operand.tmp 46), type := 5, pos := "law.go:86", after := #[{ on := 31, ground := Ground.data }, { on := 30, ground := Ground.guard }], guard := some (30, true) }) (v := ?_) rfl (by kernel_rfl) (by kernel_rfl) (by kernel_rfl) (fun _ _ _ h => h) (Or.inl ⟨by rfl, ?_⟩) hH4 ?_
    rotate_left 1
    · intro w hSw; (try dsimp only at hSw); go_simp; try with_reducible rfl
    try simp only [Act.put, List.setIfInBounds_toArray, List.set_cons_zero, List.set_cons_succ]
    refine wpAnyH_take (i := 33) (oi := { dst := some 48, op := Op.indexAddr 24 (Operand.tmp 3) (Operand.const (Value.int IntKind.i64 3)), type := 0, pos := "law.go:86", after := #[{ on := 30, ground := Ground.guard }], guard := some (30, true) }) (v := ?_) rfl (by kernel_rfl) (by kernel_rfl) (by kernel_rfl) (fun _ _ _ h => h) (Or.inl ⟨by rfl, ?_⟩) hH4 ?_
    rotate_left 1
    · intro w hSw; (try dsimp only at hSw); go_simp; try with_reducible rfl
    try simp only [Act.put, List.setIfInBounds_toArray, List.set_cons_zero, List.set_cons_succ]
    refine wpAnyH_take (i := 34) (oi := { dst := some 49, op := Op.load 22 (Operand.tmp 48), type := 22, pos := "law.go:86", after := #[{ on := 33, ground := Ground.data }, { on := 30, ground := Ground.guard }], guard := some (30, true) }) (v := ?_) rfl (by kernel_rfl) (by kernel_rfl) (by kernel_rfl) (fun _ _ _ h => h) (Or.inl ⟨by rfl, ?_⟩) hH4 ?_
    rotate_left 1
    · intro w hSw; (try dsimp only at hSw); go_simp; try with_reducible rfl
    try simp only [Act.put, List.setIfInBounds_toArray, List.set_cons_zero, List.set_cons_succ]
    refine wpAnyH_take (i := 35) (oi := { dst := some 50, op := Op.binOp BinOp.shr 22 (Operand.tmp 49) (Operand.const (Value.int IntKind.u64 56)) 40, type := 22, pos := "law.go:86", after := #[{ on := 34, ground := Ground.data }, { on := 30, ground := Ground.guard }], guard := some (30, true) }) (v := ?_) rfl (by kernel_rfl) (by kernel_rfl) (by kernel_rfl) (fun _ _ _ h => h) (Or.inl ⟨by rfl, ?_⟩) hH4 ?_
    rotate_left 1
    · intro w hSw; (try dsimp only at hSw); go_simp; try with_reducible rfl
    try simp only [Act.put, List.setIfInBounds_toArray, List.set_cons_zero, List.set_cons_succ]
    refine wpAnyH_take (i := 36) (oi := { dst := some 51, op := Op.convert 22 5 (Operand.tmp 50), type := 5, pos := "law.go:86", after := #[{ on := 35, ground := Ground.data }, { on := 30, ground := Ground.guard }], guard := some (30, true) }) (v := ?_) rfl (by kernel_rfl) (by kernel_rfl) (by kernel_rfl) (fun _ _ _ h => h) (Or.inl ⟨by rfl, ?_⟩) hH4 ?_
    rotate_left 1
    · intro w hSw; (try dsimp only at hSw); go_simp; try with_reducible rfl
    try simp only [Act.put, List.setIfInBounds_toArray, List.set_cons_zero, List.set_cons_succ]
    refine wpAnyH_take (i := 37) (oi := { dst := some 52, op := Op.binOp BinOp.eql 5 (Operand.tmp 47) (Operand.tmp 51) 5, type := 4, pos := "law.go:86", after := #[{ on := 32, ground := Ground.data }, { on := 36, ground := Ground.data }, { on := 30, ground := Ground.guard }], guard := some (30, true) }) (v := ?_) rfl (by kernel_rfl) (by kernel_rfl) (by kernel_rfl) (fun _ _ _ h => h) (Or.inl ⟨by rfl, ?_⟩) hH4 ?_
    rotate_left 1
    · intro w hSw; (try dsimp only at hSw); go_simp; try with_reducible rfl
    try simp only [Act.put, List.setIfInBounds_toArray, List.set_cons_zero, List.set_cons_succ]
    refine wpAnyH_take (i := 38) (oi := { dst := some 53, op := Op.pick (Operand.tmp 45) (Operand.tmp 52) (Operand.const (Value.bool false)), type := 4, pos := "law.go:86", after := #[{ on := 30, ground := Ground.data }, { on := 37, ground := Ground.data }], guard := none }) (v := ?_) rfl (by kernel_rfl) (by kernel_rfl) (by kernel_rfl) (fun _ _ _ h => h) (Or.inl ⟨by rfl, ?_⟩) hH4 ?_
    rotate_left 1
    · intro w hSw; (try dsimp only at hSw); go_simp; try with_reducible rfl
    try simp only [Act.put, List.setIfInBounds_toArray, List.set_cons_zero, List.set_cons_succ]
    refine wpAnyH_take (i := 39) (oi := { dst := some 6, op := Op.assign (Operand.tmp 53), type := 4, pos := "law.go:86", after := #[{ on := 38, ground := Ground.data }, { on := 30, ground := Ground.chain }, { on := 0, ground := Ground.phase }, { on := 1, ground := Ground.phase }, { on := 2, ground := Ground.phase }, { on := 3, ground := Ground.phase }, { on := 4, ground := Ground.phase }, { on := 5, ground := Ground.phase }, { on := 6, ground := Ground.phase }, { on := 7, ground := Ground.phase }, { on := 8, ground := Ground.phase }, { on := 9, ground := Ground.phase }, { on := 10, ground := Ground.phase }, { on := 11, ground := Ground.phase }, { on := 12, ground := Ground.phase }, { on := 13, ground := Ground.phase }, { on := 14, ground := Ground.phase }, { on := 15, ground := Ground.phase }, { on := 16, ground := Ground.phase }, { on := 17, ground := Ground.phase }, { on := 18, ground := Ground.phase }, { on := 19, ground := Ground.phase }, { on := 20, ground := Ground.phase }, { on := 21, ground := Ground.phase }, { on := 22, ground := Ground.phase }, { on := 23, ground := Ground.phase }, { on := 24, ground := Ground.phase }, { on := 25, ground := Ground.phase }, { on := 26, ground := Ground.phase }, { on := 27, ground := Ground.phase }, { on := 28, ground := Ground.phase }, { on := 29, ground := Ground.phase }, { on := 30, ground := Ground.phase }, { on := 31, ground := Ground.phase }, { on := 32, ground := Ground.phase }, { on := 33, ground := Ground.phase }, { on := 34, ground := Ground.phase }, { on := 35, ground := Ground.phase }, { on := 36, ground := Ground.phase }, { on := 37, ground := Ground.phase }, { on := 38, ground := Ground.phase }], guard := none }) (v := ?_) rfl (by kernel_rfl) (by kernel_rfl) (by kernel_rfl) (fun _ _ _ h => h) (Or.inl ⟨by rfl, ?_⟩) hH4 ?_
    rotate_left 1
    · intro w hSw; (try dsimp only at hSw); go_simp; try with_reducible rfl
    try simp only [Act.put, List.setIfInBounds_toArray, List.set_cons_zero, List.set_cons_succ]
    refine wpAnyH_done (by kernel_rfl) ?_ _
    go_wp2_with fail
    go_ret
    exact ⟨rfl, St.below (L := M) hH4⟩
end Go.Proofs.Ytiodcmgpajdmoaa
