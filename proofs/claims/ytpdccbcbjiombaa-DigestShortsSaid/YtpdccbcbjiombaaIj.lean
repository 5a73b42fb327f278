/-
  digest.Parse: the hash of digits.
-/
import Derived.Test.YtpdccbcbjiombaaHt
import Derived.Test.YtpdccbcbjiombaaHu
import Derived.Test.YtpdccbcbjiombaaIi
namespace Go.Proofs.Ytpdccbcbjiombaa
open Go.RowKit

theorem results_hash_tmp {P : Program} {fn : Func} {p u : Tmp} {ty : TypeId} (h : fn.results = #[.cell p ty, .tmp u]) (tmps : Array Value) (w : World) (g : Nat) (t : TypeId) (cs : Array Value) (fr : Nat × Nat) (d : TypeDesc)
    (hp : tmps.getD p undef = .pointer (some ⟨g, 0, none⟩)) (hg : w.heap[g]? = some (.cells cs t fr))
    (hu : P.underlying ty = some d) (hd : (match d with | .struct _ | .array _ _ => true | _ => false) = true) (hi : (P.info? ty).map (·.size) = some cs.size) :
    (results fn tmps).run P w = .ok (.tuple #[.agg cs, tmps.getD u undef]) w := by
  have hp' : tmps[p]?.getD undef = .pointer (some ⟨g, 0, none⟩) := by simpa using hp
  simp [results, h, hp', asAddr, run_loadVar_row w g t ty cs fr d hg hu hd hi]

/-- The bytes of a string. -/
def bl (s : ByteArray) : List Nat := s.data.toList.map UInt8.toNat
theorem bl_len (s : ByteArray) : (bl s).length = s.size := by simp [bl]
theorem bl_lt (s : ByteArray) : ∀ y, y ∈ bl s → y < 256 := by
  intro y hy; simp only [bl, List.mem_map] at hy; obtain ⟨c, -, rfl⟩ := hy; exact c.toNat_lt
theorem index_bl (s : ByteArray) (k : IntKind) (i : Nat) (hi : i < s.size) (w : World) : (Instr.index 9 (.string s) (.int k (i : Int))).run Try.prog w = .ok (.int .u8 ((nth (bl s) i : Nat) : Int)) w := by
  rw [run_index_string w 9 s k (i : Int) Try.underlying9, dif_pos ⟨Int.natCast_nonneg _, by omega⟩]
  have e : nth (bl s) i = (s[((i : Int)).toNat]'(by simpa using hi)).toNat := by
    have hi2 : i < s.data.toList.length := by simpa using hi
    unfold nth bl
    rw [List.getD_eq_getElem?_getD, List.getElem?_map, List.getElem?_eq_getElem hi2]
    rfl
  rw [e]

/-- The digit of a byte; -1: it is none. -/
def dgv (b : Nat) : Int := Lib.indexByte [48, 49, 50, 51, 52, 53, 54, 55, 56, 57, 97, 98, 99, 100, 101, 102] (UInt8.ofNat b)
theorem dgv_bd : ∀ b : Fin 256, -1 ≤ dgv b.val ∧ dgv b.val ≤ 15 := by decide +kernel
theorem dgv_hex : ∀ b : Fin 256, (0 ≤ dgv b.val) = ((48 ≤ b.val ∧ b.val ≤ 57) ∨ (97 ≤ b.val ∧ b.val ≤ 102)) := by decide +kernel
theorem dgv_hx : ∀ d : Fin 16, dgv (hx d.val) = (d.val : Int) := by decide +kernel
theorem hx_dgv : ∀ b : Fin 256, 0 ≤ dgv b.val → hx (dgv b.val).toNat = b.val := by decide +kernel
def HexOK (l : List Nat) : Prop := l.length = 64 ∧ ∀ i, i < 64 → 0 ≤ dgv (nth l i)
def unhex (l : List Nat) : List Nat := (List.range 32).map fun j => (16 * dgv (nth l (2 * (31 - j))) + dgv (nth l (2 * (31 - j) + 1))).toNat
theorem unhex_len (l : List Nat) : (unhex l).length = 32 := by simp [unhex]
theorem unhex_at (l : List Nat) (i : Nat) (h : i < 32) : nth (unhex l) (31 - i) = (16 * dgv (nth l (2 * i)) + dgv (nth l (2 * i + 1))).toNat := by
  unfold unhex; rw [nth_range _ _ _ (by omega), show 31 - (31 - i) = i by omega]
theorem index_low (b : Nat) (W : World) : Calls Try.prog 30 #[.string ⟨#[48, 49, 50, 51, 52, 53, 54, 55, 56, 57, 97, 98, 99, 100, 101, 102]⟩, .int .u8 (b : Int)] W fun e w' => e = .returned (.int .i64 (dgv b)) ∧ w' = W :=
  Try.strings_IndexByte _ (b : Int) W

structure PsInv (w : World) (l : List Nat) (k : Nat) (wr : World) : Prop where
  below : Below w.heap.size w wr
  res : wr.heap[w.heap.size]? = some zobj
  ok : ∀ i, i < 2 * k → 0 ≤ dgv (nth l i)
  row : ∃ r : List Nat, r.length = 32 ∧ (∀ i, i < k → nth r (31 - i) = nth (unhex l) (31 - i)) ∧ wr.heap[w.heap.size + 1]? = some (hobj r)
theorem PsInv.step {w wr : World} {l : List Nat} {k : Nat} (h : PsInv w l k wr) (hk : k < 32) (h0 : 0 ≤ dgv (nth l (2 * k))) (h1 : 0 ≤ dgv (nth l (2 * k + 1))) : PsInv w l (k + 1) (wr.setCell ⟨w.heap.size + 1, 31 - k, none⟩ (.int .u8 ((nth (unhex l) (31 - k) : Nat) : Int))) := by
  obtain ⟨r, hl, hp, hr⟩ := h.row
  refine ⟨h.below.setCell (by show w.heap.size ≤ w.heap.size + 1; omega) _, (heap_setCell_other _ _ _ _ (by show w.heap.size ≠ w.heap.size + 1; omega)).trans h.res, fun i hi => ?_, r.set (31 - k) (nth (unhex l) (31 - k)), by simpa using hl, fun i hi => ?_, set_w hr _ _⟩
  · by_cases e0 : i = 2 * k
    · rw [e0]; exact h0
    · by_cases e1 : i = 2 * k + 1
      · rw [e1]; exact h1
      · exact h.ok i (by omega)
  · rw [nth_set _ _ _ _ (by omega)]
    split
    · next e => rw [e]
    · exact hp i (by omega)

/-- What Parse answers. -/
def ParseQ (l r : List Nat) (b : Bool) : Prop := r.length = 32 ∧ ((b = true ∧ HexOK l ∧ r = unhex l) ∨ (b = false ∧ ¬ HexOK l ∧ r = List.replicate 32 0))

def RetP (w : World) (l : List Nat) (e : Ending) (w' : World) : Prop := ∃ r b, e = .returned (.tuple #[.agg (wcells .u8 r), .bool b]) ∧ ParseQ l r b ∧ Below w.heap.size w w'

set_option maxRecDepth 100000 in
set_option maxHeartbeats 4000000 in
theorem parse_c (s : ByteArray) (w : World) :
    Calls Try.prog 20 #[.string s] w (RetP w (bl s)) := by
  have hbl := bl_len s
  have HLT := Lib.hid (bl_lt s)
  have S0 := ((St.nil w).alloc zobj _ rfl).alloc zobj (w.heap.size + 1) (by simp)
  have Z0 := Lib.hid (S0.get (List.Mem.tail _ (List.Mem.head _)))
  have B0 := Lib.hid S0.below
  have hb1 : PsInv w (bl s) 0 ((w.alloc zobj).alloc zobj) := ⟨S0.below, Z0.out, fun i hi => absurd hi (by omega), List.replicate 32 0, by simp, fun i hi => absurd hi (by omega), S0.get (List.Mem.head _)⟩
  have I0 := Lib.hid hb1
  clear hb1 S0
  by_cases h64 : s.size = 64
  · have e64 : (s.size : Int) = 64 := by omega
    go_enter Try.func20, Try.ntmps20
    go_wp2_with fail
    go_loopw [12] (fun s12 wr => ∃ k : Nat, s12 = .int .i64 (k : Int) ∧ k ≤ 32 ∧ Hid (PsInv w (bl s) k wr)) (fun s12 _ => (32 - intOf s12).toNat)
    case atStart => exact ⟨0, rfl, by omega, I0⟩
    case round =>
      obtain ⟨k, rfl, hk, HI⟩ := hrel
      by_cases h32 : k = 32
      · have hge : ¬ (k : Int) < 32 := by omega
        subst h32
        obtain ⟨r, hr1, hr2, hr3⟩ := HI.out.row
        have hru : r = unhex (bl s) := nth_ext _ _ (by rw [hr1, unhex_len]) (fun j hj => by have := hr2 (31 - j) (by omega); rwa [show 31 - (31 - j) = j by omega] at this)
        have HR3 := Lib.hid hr3; have HR1 := Lib.hid hr1; have HRES := Lib.hid HI.out.res
        have HQ : Hid (ParseQ (bl s) r true) := ⟨hr1, Or.inl ⟨rfl, ⟨by rw [hbl, h64], fun i hi => HI.out.ok i (by omega)⟩, hru⟩⟩
        clear hr1 hr2 hr3 hru
        go_wp2_with (first
          | (refine wpList_hash rfl (.tmp 4) rfl (w.heap.size + 1) rfl r HR1.out HR3.out ?_)
          | (refine wpList_puth rfl (.tmp 2) (.tmp 42) rfl w.heap.size rfl r (List.replicate 32 0) HR1.out (by simp) rfl HRES.out ?_))
        refine bodyPost_ret (results_hash_tmp rfl _ _ w.heap.size 29 (wcells .u8 r) (0, 0) _ rfl (set_hash HRES.out) Try.underlying29 rfl (by rw [wcells_size, HR1.out]; kernel_rfl)) rfl ?_
        exact ⟨r, true, rfl, HQ.out, below_setRow HI.out.below (Nat.le_refl _) _⟩
      · have hlt : (k : Int) < 32 := by omega
        have m0 : IntKind.i64.wrap (2 * (k : Int)) = ((2 * k : Nat) : Int) := by rw [IntKind.wrap_i64]; omega
        have m1 : IntKind.i64.wrap (((2 * k : Nat) : Int) + 1) = ((2 * k + 1 : Nat) : Int) := by rw [IntKind.wrap_i64]; omega
        have x0 := index_bl s .i64 (2 * k) (by omega); have x1 := index_bl s .i64 (2 * k + 1) (by omega)
        have t0 := HLT.out _ (nth_mem (bl s) (2 * k) (by omega)); have t1 := HLT.out _ (nth_mem (bl s) (2 * k + 1) (by omega))
        have hun := unhex_at (bl s) k (by omega)
        have hokn : Hid (¬ 0 ≤ dgv (nth (bl s) (2 * k)) → ¬ HexOK (bl s)) := fun h1 h2 => h1 (h2.2 _ (by omega))
        have hokn1 : Hid (¬ 0 ≤ dgv (nth (bl s) (2 * k + 1)) → ¬ HexOK (bl s)) := fun h1 h2 => h1 (h2.2 _ (by omega))
        have hstep : Hid (0 ≤ dgv (nth (bl s) (2 * k)) → 0 ≤ dgv (nth (bl s) (2 * k + 1)) → PsInv w (bl s) (k + 1) (wr.setCell ⟨w.heap.size + 1, 31 - k, none⟩ (.int .u8 ((nth (unhex (bl s)) (31 - k) : Nat) : Int)))) := fun h0 h1 => HI.out.step (by omega) h0 h1
        have C0 := Lib.hid (fun W => index_low (nth (bl s) (2 * k)) W); have C1 := Lib.hid (fun W => index_low (nth (bl s) (2 * k + 1)) W)
        have d0 := dgv_bd ⟨_, t0⟩; have d1 := dgv_bd ⟨_, t1⟩
        simp only at d0 d1
        obtain ⟨j, hj⟩ : ∃ j, 2 * k = j := ⟨_, rfl⟩
        rw [hj] at m0 m1 x0 x1 hun hokn hokn1 hstep C0 C1 d0 d1
        obtain ⟨j1, hj1⟩ : ∃ j1, j + 1 = j1 := ⟨_, rfl⟩
        rw [hj1] at m1 x1 hun hokn1 hstep C1 d1
        obtain ⟨y0, hy0⟩ : ∃ y, nth (bl s) j = y := ⟨_, rfl⟩
        obtain ⟨y1, hy1⟩ : ∃ y, nth (bl s) j1 = y := ⟨_, rfl⟩
        rw [hy0] at x0 hun hokn hstep C0 d0; rw [hy1] at x1 hun hokn1 hstep C1 d1
        obtain ⟨a, ha⟩ : ∃ a, dgv y0 = a := ⟨_, rfl⟩
        obtain ⟨b, hb⟩ : ∃ b, dgv y1 = b := ⟨_, rfl⟩
        rw [ha] at hun hokn hstep C0 d0; rw [hb] at hun hokn1 hstep C1 d1
        have hjs : (j : Int) < s.size := by omega
        have hjs1 : (j1 : Int) < s.size := by omega
        obtain ⟨r, hr1, hr2, hr3⟩ := HI.out.row
        have hrb := lt_of_block hr3
        have cz := cell_w hr3 (31 - k) (by omega)
        have fz := frozen_of_row wr (w.heap.size + 1) (31 - k) _ _ hr3
        obtain ⟨q, hq⟩ : ∃ q, 31 - k = q := ⟨_, rfl⟩
        have hqI : (31 - (k : Int)) = (q : Int) := by omega
        have hq32 : (q : Int) < 32 := by omega
        rw [hq] at cz fz hun hstep
        have HRES := Lib.hid HI.out.res; have HBW := Lib.hid HI.out.below
        have a1 := d0.1; have a2 := d0.2; have b1 := d1.1; have b2 := d1.2
        clear hy0 hy1 ha hb t0 t1 hr1 hr2 hr3 hj1 d0 d1 hq
        by_cases ha0 : a < 0
        · have HN : Hid (ParseQ (bl s) (List.replicate 32 0) false) := ⟨by simp, Or.inr ⟨rfl, hokn.out (by omega), rfl⟩⟩
          clear hokn hokn1 hstep hun
          go_wp2_with fail
          go_quiet ((first | (go_at_call 30; with_reducible exact Calls.quiet_of_same (C0.out _)) | (go_at_call 30; with_reducible exact Calls.quiet_of_same (C1.out _))))
          obtain ⟨wa, hwa⟩ : ∃ v, v = wr.drewN nq := ⟨_, rfl⟩
          rw [← hwa]
          have HRA : Hid (wa.heap[w.heap.size]? = some zobj) := by rw [hwa]; exact HRES.out
          have HBA : Hid (Below w.heap.size w wa) := by rw [hwa]; exact below_drewQ HBW.out nq
          clear hwa
          go_wp2_with (first
            | (refine Go.Great.wpList_buildTo rfl 29 _ rfl (some 32) rfl (wcells .u8 (List.replicate 32 0)) (by kernel_rfl) ?_)
            | (refine wpList_puth rfl (.tmp 2) (.tmp 32) rfl w.heap.size rfl (List.replicate 32 0) (List.replicate 32 0) (by simp) (by simp) rfl HRA.out ?_))
          refine bodyPost_ret (results_hash_tmp rfl _ _ w.heap.size 29 (wcells .u8 (List.replicate 32 0)) (0, 0) _ rfl (set_hash HRA.out) Try.underlying29 rfl (by kernel_rfl)) rfl ?_
          exact ⟨_, false, rfl, HN.out, below_setRow HBA.out (Nat.le_refl _) _⟩
        · by_cases hb0 : b < 0
          · have HN : Hid (ParseQ (bl s) (List.replicate 32 0) false) := ⟨by simp, Or.inr ⟨rfl, hokn1.out (by omega), rfl⟩⟩
            clear hokn hokn1 hstep hun
            go_wp2_with fail
            go_quiet ((first | (go_at_call 30; with_reducible exact Calls.quiet_of_same (C0.out _)) | (go_at_call 30; with_reducible exact Calls.quiet_of_same (C1.out _))))
            obtain ⟨wa, hwa⟩ : ∃ v, v = wr.drewN nq := ⟨_, rfl⟩
            rw [← hwa]
            have HRA : Hid (wa.heap[w.heap.size]? = some zobj) := by rw [hwa]; exact HRES.out
            have HBA : Hid (Below w.heap.size w wa) := by rw [hwa]; exact below_drewQ HBW.out nq
            clear hwa
            go_wp2_with (first
              | (refine Go.Great.wpList_buildTo rfl 29 _ rfl (some 32) rfl (wcells .u8 (List.replicate 32 0)) (by kernel_rfl) ?_)
              | (refine wpList_puth rfl (.tmp 2) (.tmp 32) rfl w.heap.size rfl (List.replicate 32 0) (List.replicate 32 0) (by simp) (by simp) rfl HRA.out ?_))
            refine bodyPost_ret (results_hash_tmp rfl _ _ w.heap.size 29 (wcells .u8 (List.replicate 32 0)) (0, 0) _ rfl (set_hash HRA.out) Try.underlying29 rfl (by kernel_rfl)) rfl ?_
            exact ⟨_, false, rfl, HN.out, below_setRow HBA.out (Nat.le_refl _) _⟩
          · obtain ⟨u, hu⟩ : ∃ u : Nat, u = (16 * a + b).toNat := ⟨_, rfl⟩
            rw [← hu] at hun
            rw [hun] at hstep
            have v1 : IntKind.i64.wrap (16 * a) = 16 * a := by rw [IntKind.wrap_i64]; omega
            have v2 : IntKind.i64.wrap (16 * a + b) = (u : Int) := by rw [IntKind.wrap_i64]; omega
            have v3 : IntKind.u8.wrap (u : Int) = (u : Int) := by simp only [IntKind.wrap, IntKind.bits, IntKind.signed]; simp; omega
            have v4 : (u : Int) % 256 = u := by omega
            have HS := Lib.hid (hstep.out (by omega) (by omega))
            clear hokn hokn1 hstep hun hu
            go_wp2_with fail
            go_quiet ((first | (go_at_call 30; with_reducible exact Calls.quiet_of_same (C0.out _)) | (go_at_call 30; with_reducible exact Calls.quiet_of_same (C1.out _))))
            obtain ⟨wa, hwa⟩ : ∃ v, v = wr.drewN nq := ⟨_, rfl⟩
            rw [← hwa]
            replace cz : wa.cell? ⟨w.heap.size + 1, q, none⟩ = some (.int .u8 ((nth r q : Nat) : Int)) := by rw [hwa]; exact cz
            replace fz : wa.frozen? ⟨w.heap.size + 1, q, none⟩ = false := by rw [hwa]; exact fz
            replace HS : Hid (PsInv w (bl s) (k + 1) (wa.setCell ⟨w.heap.size + 1, q, none⟩ (.int .u8 (u : Int)))) := by
              rw [hwa]
              obtain ⟨s1, s2, s3, r', s4, s5, s6⟩ := HS.out
              exact ⟨below_drewQ s1 nq, s2, s3, r', s4, s5, s6⟩
            have hrb2 : w.heap.size + 1 < wa.heap.size := by rw [hwa]; exact hrb
            clear hwa
            go_wp2_with fail
            go_roundw
            case rel => exact ⟨k + 1, by go_num, by omega, HS⟩
            case measure => simp [intOf]; omega
  · have e64 : ¬ (s.size : Int) = 64 := by omega
    have HN : Hid (ParseQ (bl s) (List.replicate 32 0) false) := ⟨by simp, Or.inr ⟨rfl, fun h => h64 (by rw [← hbl]; exact h.1), rfl⟩⟩
    go_enter Try.func20, Try.ntmps20
    go_wp2_with (first
      | (refine Go.Great.wpList_buildTo rfl 29 _ rfl (some 11) rfl (wcells .u8 (List.replicate 32 0)) (by kernel_rfl) ?_)
      | (refine wpList_puth rfl (.tmp 2) (.tmp 11) rfl w.heap.size rfl (List.replicate 32 0) (List.replicate 32 0) (by simp) (by simp) rfl Z0.out ?_))
    refine bodyPost_ret (results_hash_tmp rfl _ _ w.heap.size 29 (wcells .u8 (List.replicate 32 0)) (0, 0) _ rfl (set_hash Z0.out) Try.underlying29 rfl (by kernel_rfl)) rfl ?_
    exact ⟨_, false, rfl, HN.out, below_setRow B0.out (Nat.le_refl _) _⟩
end Go.Proofs.Ytpdccbcbjiombaa
