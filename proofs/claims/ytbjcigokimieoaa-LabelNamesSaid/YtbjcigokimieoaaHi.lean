/-
  Hasher.Sum. (Printed by gen_hsum.py.)
-/
import Derived.Test.YtbjcigokimieoaaHg
namespace Go.Proofs.Ytbjcigokimieoaa
open Go.RowKit

/-- What Sum holds while it writes what comes behind: z so far. -/
structure PadInv (w : World) (v : Value) (z : List Nat) (wr : World) : Prop where
  below : Below w.heap.size w wr
  out : wr.heap[w.heap.size]? = some (Obj.cells (wcells .u8 (List.replicate 32 0)) 61 (0, 0))
  rest : RestV wr v z
  own : ∀ b, v.ownBlock = some b → w.heap.size < b
theorem PadInv.app {w wr W2 : World} {v v2 : Value} {z zz : List Nat} (h : PadInv w v z wr) (R : RestV W2 v2 zz) (K : Keeps (fun b => v.ownBlock = some b) wr W2) (Nn : ∀ b, v2.ownBlock = some b → v.ownBlock = some b ∨ b = wr.heap.size) : PadInv w v2 zz W2 := by
  have hlt := lt_of_block h.out
  refine ⟨?_, (K.block _ hlt (fun e => by have := h.own _ e; omega)).trans h.out, R, fun b hb => ?_⟩
  · exact h.below.trans ⟨K.os, K.tape, K.output, K.size, fun b hb => K.block b (Nat.lt_of_lt_of_le hb h.below.size) (fun e => by have := h.own _ e; omega)⟩
  · rcases Nn b hb with h1 | h1
    · exact h.own b h1
    · rw [h1]; exact hlt
theorem PadInv.alloc {w wr : World} {v : Value} {z : List Nat} (h : PadInv w v z wr) (o : Obj) : PadInv w v z (wr.alloc o) :=
  ⟨h.below.alloc h.below.size o, (Below.heap_alloc wr o _ (lt_of_block h.out)).trans h.out, h.rest.keep (F := fun _ => False) (Keeps.of_below ((Below.refl _ _).alloc (Nat.le_refl _) o)) (fun _ _ h => h), h.own⟩

theorem one_src (W : World) (b : Nat) (y : Nat) (h : W.cell? ⟨b, 0, none⟩ = some (.int .u8 ((y : Nat) : Int))) : SrcB W (.slice (some ⟨b, 0, none⟩) 1 1) [y] := srcB_slice W b 0 1 [y] (fun i hi => by
  obtain rfl : i = 0 := by simpa using hi
  exact h)
theorem be8_take (n k : Nat) (h : k < 8) : (be8 n).take (k + 1) = (be8 n).take k ++ [n / 2 ^ (56 - 8 * k) % 256] := by
  rw [List.take_add_one]
  congr 1
  unfold be8
  rw [List.getElem?_map, List.getElem?_range h]; rfl
theorem be8_len (n : Nat) : (be8 n).length = 8 := by simp [be8]

/-- What Sum's block loop holds: k pieces are mixed in. -/
structure BlkInv (w : World) (G6 : Nat) (s0 pd : List Nat) (v : Value) (k : Nat) (wr : World) : Prop where
  below : Below w.heap.size w wr
  out : wr.heap[w.heap.size]? = some (Obj.cells (wcells .u8 (List.replicate 32 0)) 61 (0, 0))
  cur : wr.heap[G6]? = some (.cells (wcells .u32 (runB s0 pd k)) 77 (0, 0))
  rest : RestV wr v (pd.drop (64 * k))
/-- What its last loop holds: the bytes of i words. -/
structure OutInv (w : World) (G7 : Nat) (fs : List Nat) (i : Nat) (wr : World) : Prop where
  below : Below w.heap.size w wr
  out : wr.heap[w.heap.size]? = some (Obj.cells (wcells .u8 (List.replicate 32 0)) 61 (0, 0))
  row : ∃ l : List Nat, l.length = 32 ∧ (∀ j, j < 4 * i → nth l j = nth (outB fs) j) ∧ wr.heap[G7]? = some (.cells (wcells .u8 l) 61 (0, 0))
theorem St.cons' {w W : World} {L : List (Nat × Obj)} (_ : St w L w) (hb : Below w.heap.size w W) {g : Nat} {o : Obj} (hg : W.heap[g]? = some o) : St w [(g, o)] W := ⟨hb, fun p hp => by
  rcases List.mem_cons.1 hp with rfl | hp
  · exact hg
  · cases hp⟩
theorem sha_tail (bs : List Nat) (n : Nat) (hn : n = bs.length / 64) (hl : bs.length ≤ 1000000000) : outB (runB (runB HL bs n) (bs.drop (64 * n) ++ [128] ++ List.replicate (pads (bs.drop (64 * n)).length) 0 ++ be8 (8 * bs.length)) ((bs.drop (64 * n) ++ [128] ++ List.replicate (pads (bs.drop (64 * n)).length) 0 ++ be8 (8 * bs.length)).length / 64)) = sha bs := by
  have h64 : 64 * n ≤ bs.length := by omega
  have hdl : (bs.drop (64 * n)).length = bs.length - 64 * n := List.length_drop
  have hpe : pads (bs.drop (64 * n)).length = pads bs.length := by rw [hdl]; unfold pads; omega
  have hmod : 8 * bs.length % 18446744073709551616 = 8 * bs.length := Nat.mod_eq_of_lt (by omega)
  have hT : (padded bs).drop (64 * n) = bs.drop (64 * n) ++ [128] ++ List.replicate (pads (bs.drop (64 * n)).length) 0 ++ be8 (8 * bs.length) := by
    unfold padded
    rw [hmod, hpe, List.append_assoc, List.append_assoc, List.append_assoc, List.append_assoc, List.drop_append_of_le_length h64]
  rw [← hT]
  have hlen := padded_len bs
  have hTl : ((padded bs).drop (64 * n)).length = (padded bs).length - 64 * n := List.length_drop
  unfold sha
  congr 1
  rw [show (padded bs).length / 64 = n + ((padded bs).drop (64 * n)).length / 64 by rw [hTl]; omega, runB_add]
  congr 1
  refine runB_congr HL _ _ n (fun i hi => ?_)
  unfold padded
  rw [List.append_assoc, List.append_assoc, nth_append_left _ _ _ (by omega)]
theorem index_s0 (a b c d e f g h : Nat) (w : World) : (Instr.index 77 (.agg (wcells .u32 [a, b, c, d, e, f, g, h])) (.int .i64 ((0 : Nat) : Int))).run Try.prog w = .ok (.int .u32 ((a : Nat) : Int)) w := by kernel_rfl
theorem index_s1 (a b c d e f g h : Nat) (w : World) : (Instr.index 77 (.agg (wcells .u32 [a, b, c, d, e, f, g, h])) (.int .i64 ((1 : Nat) : Int))).run Try.prog w = .ok (.int .u32 ((b : Nat) : Int)) w := by kernel_rfl
theorem index_s2 (a b c d e f g h : Nat) (w : World) : (Instr.index 77 (.agg (wcells .u32 [a, b, c, d, e, f, g, h])) (.int .i64 ((2 : Nat) : Int))).run Try.prog w = .ok (.int .u32 ((c : Nat) : Int)) w := by kernel_rfl
theorem index_s3 (a b c d e f g h : Nat) (w : World) : (Instr.index 77 (.agg (wcells .u32 [a, b, c, d, e, f, g, h])) (.int .i64 ((3 : Nat) : Int))).run Try.prog w = .ok (.int .u32 ((d : Nat) : Int)) w := by kernel_rfl
theorem index_s4 (a b c d e f g h : Nat) (w : World) : (Instr.index 77 (.agg (wcells .u32 [a, b, c, d, e, f, g, h])) (.int .i64 ((4 : Nat) : Int))).run Try.prog w = .ok (.int .u32 ((e : Nat) : Int)) w := by kernel_rfl
theorem index_s5 (a b c d e f g h : Nat) (w : World) : (Instr.index 77 (.agg (wcells .u32 [a, b, c, d, e, f, g, h])) (.int .i64 ((5 : Nat) : Int))).run Try.prog w = .ok (.int .u32 ((f : Nat) : Int)) w := by kernel_rfl
theorem index_s6 (a b c d e f g h : Nat) (w : World) : (Instr.index 77 (.agg (wcells .u32 [a, b, c, d, e, f, g, h])) (.int .i64 ((6 : Nat) : Int))).run Try.prog w = .ok (.int .u32 ((g : Nat) : Int)) w := by kernel_rfl
theorem index_s7 (a b c d e f g h : Nat) (w : World) : (Instr.index 77 (.agg (wcells .u32 [a, b, c, d, e, f, g, h])) (.int .i64 ((7 : Nat) : Int))).run Try.prog w = .ok (.int .u32 ((h : Nat) : Int)) w := by kernel_rfl
theorem index_st (l : List Nat) (hl : l.length = 8) (i : Nat) (hi : i < 8) (w : World) : (Instr.index 77 (.agg (wcells .u32 l)) (.int .i64 (i : Int))).run Try.prog w = .ok (.int .u32 ((nth l i : Nat) : Int)) w := by
  match l, hl with
  | [a, b, c, d, e, f, g, h], _ =>
    match i, hi with
    | 0, _ => exact index_s0 a b c d e f g h w
    | 1, _ => exact index_s1 a b c d e f g h w
    | 2, _ => exact index_s2 a b c d e f g h w
    | 3, _ => exact index_s3 a b c d e f g h w
    | 4, _ => exact index_s4 a b c d e f g h w
    | 5, _ => exact index_s5 a b c d e f g h w
    | 6, _ => exact index_s6 a b c d e f g h w
    | 7, _ => exact index_s7 a b c d e f g h w
theorem outB_at (fs : List Nat) (i j : Nat) (hi : i < 8) (hj : j < 4) : nth (outB fs) (4 * i + j) = nth fs i / 2 ^ (24 - 8 * j) % 256 := by
  unfold outB
  rw [nth_range _ _ _ (by omega), show (4 * i + j) / 4 = i by omega, show (4 * i + j) % 4 = j by omega]
theorem OutInv.step {w wr : World} {G7 : Nat} {fs : List Nat} {i : Nat} (h : OutInv w G7 fs i wr) (hi : i < 8) (hG : w.heap.size < G7) (xw : Nat) (hx : nth fs i = xw) :
    OutInv w G7 fs (i + 1) ((((wr.setCell ⟨G7, 4 * i, none⟩ (.int .u8 ((xw : Int) / 16777216 % 256))).setCell ⟨G7, 4 * i + 1, none⟩ (.int .u8 ((xw : Int) / 65536 % 256))).setCell ⟨G7, 4 * i + 2, none⟩ (.int .u8 ((xw : Int) / 256 % 256))).setCell ⟨G7, 4 * i + 3, none⟩ (.int .u8 ((xw : Int) % 256))) := by
  have e0 : (xw : Int) / 16777216 % 256 = ((nth (outB fs) (4 * i + 0) : Nat) : Int) := by rw [outB_at fs i 0 hi (by omega), hx]; simp
  have e1 : (xw : Int) / 65536 % 256 = ((nth (outB fs) (4 * i + 1) : Nat) : Int) := by rw [outB_at fs i 1 hi (by omega), hx]; simp
  have e2 : (xw : Int) / 256 % 256 = ((nth (outB fs) (4 * i + 2) : Nat) : Int) := by rw [outB_at fs i 2 hi (by omega), hx]; simp
  have e3 : (xw : Int) % 256 = ((nth (outB fs) (4 * i + 3) : Nat) : Int) := by rw [outB_at fs i 3 hi (by omega), hx]; simp
  rw [e0, e1, e2, e3]
  obtain ⟨l, hl, hp, hr⟩ := h.row
  have other : ∀ (W : World) (o : Nat) (v : Value), W.heap[w.heap.size]? = some (Obj.cells (wcells .u8 (List.replicate 32 0)) 61 (0, 0)) → (W.setCell ⟨G7, o, none⟩ v).heap[w.heap.size]? = some (Obj.cells (wcells .u8 (List.replicate 32 0)) 61 (0, 0)) := fun W o v hW => (heap_setCell_other W ⟨G7, o, none⟩ _ v (by show w.heap.size ≠ G7; omega)).trans hW
  have hB : w.heap.size ≤ G7 := by omega
  refine ⟨(((h.below.setCell hB _).setCell hB _).setCell hB _).setCell hB _, other _ _ _ (other _ _ _ (other _ _ _ (other _ _ _ h.out))), (((l.set (4 * i) (nth (outB fs) (4 * i + 0))).set (4 * i + 1) (nth (outB fs) (4 * i + 1))).set (4 * i + 2) (nth (outB fs) (4 * i + 2))).set (4 * i + 3) (nth (outB fs) (4 * i + 3)), by simpa using hl, fun j hj => ?_, set_w (set_w (set_w (set_w hr _ _) _ _) _ _) _ _⟩
  rw [nth_set _ _ _ _ (by simp; omega), nth_set _ _ _ _ (by simp; omega), nth_set _ _ _ _ (by simp; omega), nth_set _ _ _ _ (by omega)]
  split
  · next e => rw [e]
  · split
    · next e => rw [e]
    · split
      · next e => rw [e]
      · split
        · next e => rw [← e]; rfl
        · exact hp j (by omega)
theorem RestV.notin {W : World} {g : Nat} {v : Value} {r : List Nat} {cs : Array Value} {t : TypeId} {fr : Nat × Nat} (h : RestV W v r) (hr : W.heap[g]? = some (.cells cs t fr)) (ht : t ≠ 5) : v.ownBlock ≠ some g := by
  rcases h with ⟨rfl, -⟩ | ⟨g', off, cap, cur, rfl, hgg, -⟩
  · simp [Value.ownBlock]
  · intro e
    simp [Value.ownBlock] at e
    subst e
    have := hgg.symm.trans hr
    simp at this
    exact ht this.2.1.symm

set_option maxRecDepth 100000 in
set_option maxHeartbeats 4000000 in
theorem sum_h (hg : Nat) (v0 : Value) (bs : List Nat) (w : World) (hh : HasherV w hg v0 bs) (hby : ∀ y, y ∈ bs → y < 256) (hlen : bs.length ≤ 1000000000) :
    Calls Try.prog 37 #[hptr hg] w fun e w' => e = .returned (.agg (wcells .u8 (sha bs))) ∧ Below w.heap.size w w' := by
  have HH := Lib.hid hh; have HBY := Lib.hid hby; have HLEN := Lib.hid hlen
  have hrow := hh.row
  have hhb := lt_of_block hrow
  obtain ⟨va0, vc0, hve⟩ := hh.rest.shape
  subst hve
  obtain ⟨n, hn⟩ : ∃ n, n = bs.length / 64 := ⟨_, rfl⟩
  have hn64 : 64 * n ≤ bs.length := by omega
  have hrest := hh.rest
  rw [← hn] at hrow hrest
  obtain ⟨r, hr⟩ : ∃ r, r = bs.drop (64 * n) := ⟨_, rfl⟩
  have hrl : r.length < 64 := by rw [hr, List.length_drop]; omega
  rw [← hr] at hrest hrow
  have c8 := (hrow_at hrow).1.2.2.2.2.2.2.2.2.1
  have c9 := (hrow_at hrow).1.2.2.2.2.2.2.2.2.2
  have I0 : Hid (PadInv w (.slice (some ⟨w.heap.size + 1, 0, none⟩) 0 0) [] ((w.alloc (Obj.cells (wcells .u8 (List.replicate 32 0)) 61 (0, 0))).alloc (.cells #[] 5))) := by
    have S := ((St.nil w).alloc (Obj.cells (wcells .u8 (List.replicate 32 0)) 61 (0, 0)) _ rfl).alloc (.cells #[] 5) (w.heap.size + 1) (by simp)
    refine ⟨S.below, S.get (List.Mem.tail _ (List.Mem.head _)), Or.inr ⟨w.heap.size + 1, 0, 0, #[], rfl, S.get (List.Mem.head _), Nat.le_refl _, Nat.le_refl _, fun i hi => absurd hi (by simp)⟩, fun b hb => ?_⟩
    simp [Value.ownBlock] at hb; omega
  have X0 : Hid (SrcB ((w.alloc (Obj.cells (wcells .u8 (List.replicate 32 0)) 61 (0, 0))).alloc (.cells #[] 5)) (.slice va0 r.length vc0) r) := (hrest.keep (F := fun _ => False) (Keeps.of_below (((Below.refl _ _).alloc (Nat.le_refl _) _).alloc (by simp) _)) (fun _ _ h => h)).src
  have hrI : (r.length : Int) < 64 := by omega
  have HR := Lib.hid hr; have HN := Lib.hid hn; have HN64 := Lib.hid hn64; have HROW := Lib.hid hrow
  clear hh hby hlen hr hn hn64 hrow hrest
  go_enter Try.func37, Try.ntmps37
  go_wp2_with (at_builtin; go_loud (first | (refine wpList_app (by rfl) (.tmp 10) (.tmp 14) (by rfl) _ _ (by rfl) (by rfl) [] r I0.out.rest X0.out (by simp; omega) ?_; intro v1 W1 R1 K1 N1; obtain ⟨va1, vc1, e1⟩ := R1.shape; subst e1; have I1 := Lib.hid (I0.out.app R1 K1 N1); clear R1 K1 N1) | (have I1a := Lib.hid (I1.out.alloc (.cells #[.int .u8 128] 5)); have X1 := Lib.hid (one_src (W1.alloc (.cells #[.int .u8 128] 5)) W1.heap.size 128 ((cell_of_row _ _ _ _ _ _ (heap_alloc_last _ _)).trans rfl)); rw [List.nil_append] at I1a; refine wpList_app (by rfl) (.tmp 16) (.tmp 17) (by rfl) _ _ (by rfl) (by rfl) r [128] I1a.out.rest X1.out (by simp; omega) ?_; intro v2 W2 R2 K2 N2; obtain ⟨va2, vc2, e2⟩ := R2.shape; subst e2; have I2 := Lib.hid (I1a.out.app R2 K2 N2); clear R2 K2 N2)))
  clear I0 X0 I1 I1a X1
  obtain ⟨P, hP⟩ : ∃ P, P = pads r.length := ⟨_, rfl⟩
  have HPD := Lib.hid hP
  have hPl : P < 64 := by rw [hP]; unfold pads; omega
  clear hP
  have hr0 : Hid ((r ++ [128]).length = r.length + 1) := by show _ = _; simp
  have I2' : Hid (PadInv w (.slice va2 (r.length + 1) vc2) (r ++ [128] ++ List.replicate 0 0) W2) := by
    rw [List.replicate_zero, List.append_nil, ← hr0.out]; exact I2.out
  clear I2
  go_loopg [3] P (fun t s3 wr => ∃ j Ln : Nat, ∃ a c, s3 = .slice a Ln c ∧ Ln = r.length + 1 + j ∧ j + t = P ∧ Hid (PadInv w s3 (r ++ [128] ++ List.replicate j 0) wr))
  case atStart => exact ⟨0, r.length + 1, va2, vc2, by simp, rfl, by omega, I2'⟩
  case round =>
    obtain ⟨j, Ln, a, c, rfl, hLn, hj, HJ⟩ := hrel
    have hLb : (Ln : Int) ≤ 200 := by omega
    by_cases ht : j = P
    · have h56 : (Ln : Int) % 64 = 56 := by
        have h1 := pads_56 r.length; rw [← HPD.out] at h1; omega
      obtain ⟨zb, hzb⟩ : ∃ zb, zb = r ++ [128] ++ List.replicate j 0 := ⟨_, rfl⟩
      rw [← hzb] at HJ
      have hzl : zb.length = Ln := by rw [hzb, hLn]; simp; omega
      have HZB : Hid (zb = r ++ [128] ++ List.replicate P 0) := by rw [hzb, ht]; exact rfl
      have HZL := Lib.hid hzl
      have H56 : Hid (Ln % 64 = 56) := by show _ = _; omega
      have c9' := (hrow_at ((HJ.out.below.block hg hhb).trans HROW.out)).1.2.2.2.2.2.2.2.2.2
      have hbl : (bs.length : Int) ≤ 1000000000 := by have := HLEN.out; omega
      have hh2 : hg < wr.heap.size := Nat.lt_of_lt_of_le hhb HJ.out.below.size
      have HJ0 : Hid (PadInv w (.slice a Ln c) (zb ++ (be8 (8 * bs.length)).take 0) wr) := by rw [List.take_zero, List.append_nil]; exact HJ
      clear hzb hzl hLn ht hj
      go_wp2_with fail
      clear h56
      go_loopw [3, 31] (fun s3 s31 wr => ∃ k Mn : Nat, ∃ a c, s31 = .int .i64 (k : Int) ∧ k ≤ 8 ∧ s3 = .slice a Mn c ∧ Mn = Ln + k ∧ Hid (PadInv w s3 (zb ++ (be8 (8 * bs.length)).take k) wr)) (fun _ s31 _ => (8 - intOf s31).toNat)
      case atStart => exact ⟨0, Ln, a, c, rfl, by omega, rfl, rfl, HJ0⟩
      case round =>
        obtain ⟨k, Mn, a, c, rfl, hk, rfl, hMn, HK⟩ := hrel
        have hMb : (Mn : Int) ≤ 300 := by omega
        by_cases hk8 : k = 8
        · have hge : ¬ (k : Int) < 8 := by omega
          obtain ⟨pd, hpd⟩ : ∃ pd, pd = zb ++ be8 (8 * bs.length) := ⟨_, rfl⟩
          have hz8 : zb ++ (be8 (8 * bs.length)).take k = pd := by rw [hk8, hpd, List.take_of_length_le (by rw [be8_len]; omega)]
          have hM64 : Hid (Mn % 64 = 0) := by show _ = _; have := H56.out; omega
          have hpdl : Hid (pd.length = Mn) := by show _ = _; rw [hpd, List.length_append, HZL.out, be8_len]; omega
          rw [hz8] at HK
          have HPDE : Hid (pd = r ++ [128] ++ List.replicate P 0 ++ be8 (8 * bs.length)) := by rw [hpd, HZB.out]; exact rfl
          have HPD256 : Hid (∀ y, y ∈ pd → y < 256) := fun y hy => by
            rw [HPDE.out] at hy
            simp only [List.mem_append, List.mem_cons, List.not_mem_nil, or_false, List.mem_replicate] at hy
            rcases hy with ((hy | rfl) | ⟨-, rfl⟩) | hy
            · rw [HR.out] at hy; exact HBY.out y (List.mem_of_mem_drop hy)
            · decide
            · decide
            · simp only [be8, List.mem_map] at hy; obtain ⟨i, -, rfl⟩ := hy; exact Nat.mod_lt _ (by decide)
          obtain ⟨s0, hs0⟩ : ∃ s0, s0 = runB HL bs n := ⟨_, rfl⟩
          have HS0 := Lib.hid hs0
          have hs08 : Hid (s0.length = 8) := by rw [hs0]; exact runB_len HL bs HL_len n
          have hs0w : Hid (W32 s0) := by rw [hs0]; exact runB_w HL bs HL_w n
          have hrw := (HK.out.below.block hg hhb).trans HROW.out
          rw [← hs0] at hrw
          obtain ⟨⟨c0, c1, c2, c3, c4, c5, c6, c7, -, -⟩, -⟩ := hrow_at hrw
          have hh3 : hg < wr.heap.size := lt_of_block hrw
          have K0 : Hid (BlkInv w wr.heap.size s0 pd (.slice a Mn c) 0 (wr.alloc (.cells (st8 s0) 77))) := by
            have hk2 := HK.out.alloc (.cells (st8 s0) 77)
            exact ⟨hk2.below, hk2.out, by rw [← agg8 s0 hs08.out]; exact lastH _ _ _ rfl, hk2.rest⟩
          have hG6 : w.heap.size < wr.heap.size := lt_of_block HK.out.out
          obtain ⟨G6, hG6e⟩ : ∃ G6, wr.heap.size = G6 := ⟨_, rfl⟩
          clear hk8 hz8 hpd hs0 hrw hMn
          go_wp2_with fail
          rw [hG6e] at K0 hG6
          (try rw [hG6e])
          go_loopg [3] Mn (fun t s3 wr => ∃ k Kn : Nat, ∃ a c, s3 = .slice a Kn c ∧ Kn + 64 * k = Mn ∧ t = Kn ∧ Hid (BlkInv w G6 s0 pd s3 k wr))
          case atStart => exact ⟨0, Mn, a, c, rfl, rfl, rfl, K0⟩
          case round =>
            obtain ⟨q, Kn, a, c, rfl, hq, hqt, HL3⟩ := hrel
            have hKb : (Kn : Int) ≤ 300 := by omega
            by_cases hK0 : Kn = 0
            · have hle0 : ¬ (0 : Int) < Kn := by omega
              have hq2 : q = Mn / 64 := by omega
              have hcur := HL3.out.cur
              obtain ⟨fs, hfs⟩ : ∃ fs, fs = runB s0 pd q := ⟨_, rfl⟩
              have hfs8 : fs.length = 8 := by rw [hfs]; exact runB_len s0 pd hs08.out q
              have hfsw : W32 fs := by rw [hfs]; exact runB_w s0 pd hs0w.out q
              have HFS : Hid (fs = runB s0 pd (pd.length / 64)) := by rw [hpdl.out, ← hq2]; exact hfs
              rw [← hfs] at hcur
              have hSl : w.heap.size < wr.heap.size := lt_of_block HL3.out.out
              have SL : Hid (St w [(wr.heap.size, Obj.cells (wcells .u8 (List.replicate 32 0)) 61 (0, 0)), (w.heap.size, Obj.cells (wcells .u8 (List.replicate 32 0)) 61 (0, 0)), (G6, Obj.cells (wcells .u32 fs) 77 (0, 0))] (wr.alloc (.cells (wcells .u8 (List.replicate 32 0)) 61))) :=
                (((St.nil w).cons' HL3.out.below hcur).cons HL3.out.out).alloc _ _ rfl
              have HF8 := Lib.hid hfs8; have HFW := Lib.hid hfsw
              obtain ⟨G7, hG7e⟩ : ∃ G7, wr.heap.size = G7 := ⟨_, rfl⟩
              rw [hG7e] at SL hSl
              have O0 : Hid (OutInv w G7 fs 0 (wr.alloc (.cells (wcells .u8 (List.replicate 32 0)) 61))) :=
                ⟨SL.out.below, SL.out.get (List.Mem.tail _ (List.Mem.head _)), _, List.length_replicate .., fun j hj => absurd hj (by omega), SL.out.get (List.Mem.head _)⟩
              clear hcur hfs hfs8 hfsw hq2 hq hqt hK0
              go_wp2_with (refine wpList_load_row rfl 77 (.tmp 6) rfl G6 rfl 77 (wcells .u32 fs) (0, 0) _ (SL.out.get (List.Mem.tail _ (List.Mem.tail _ (List.Mem.head _)))) Try.underlying77 rfl (by rw [wcells_size, HF8.out]; kernel_rfl) ?_)
              go_loopw [58] (fun s wr => ∃ i : Nat, s = .int .i64 (i : Int) ∧ i ≤ 8 ∧ Hid (OutInv w G7 fs i wr)) (fun s _ => (8 - intOf s).toNat)
              case atStart => exact ⟨0, rfl, by omega, O0⟩
              case round =>
                obtain ⟨i, rfl, hi, HO⟩ := hrel
                by_cases hi8 : i = 8
                · have hge8 : ¬ (i : Int) < 8 := by omega
                  obtain ⟨l, hl, hp, hrw⟩ := HO.out.row
                  have hle : l = outB fs := nth_ext _ _ (by rw [hl, outB_len]) (fun j hj => hp j (by omega))
                  have HLE := Lib.hid hle; have HLL := Lib.hid hl; have HRW := Lib.hid hrw
                  clear hle hl hp hrw hi8
                  go_wp2_with (first
                    | (refine wpList_load_row rfl 61 (.tmp 7) rfl G7 rfl 61 (wcells .u8 l) (0, 0) _ HRW.out Try.underlying61 rfl (by rw [wcells_size, HLL.out]; kernel_rfl) ?_)
                    | (refine wpList_store_row rfl 61 (.tmp 2) (.tmp 89) rfl w.heap.size (wcells .u8 l) rfl rfl 61 (wcells .u8 (List.replicate 32 0)) HO.out.out (by rw [wcells_size, HLL.out]; kernel_rfl) (by rw [wcells_size, wcells_size, HLL.out, List.length_replicate]) (wcells_one _ _) ?_))
                  refine bodyPost_ret (results_cell_row rfl _ _ w.heap.size 61 (wcells .u8 l) (0, 0) _ rfl (setRow_heap _ _ _ _ _ _ HO.out.out) Try.underlying61 rfl (by rw [wcells_size, HLL.out]; kernel_rfl)) rfl ?_
                  exact ⟨by rw [HLE.out, HFS.out, HS0.out, HPDE.out, HPD.out, HR.out, sha_tail bs n HN.out HLEN.out], below_setRow HO.out.below (Nat.le_refl _) _⟩
                · have hlt8 : (i : Int) < 8 := by omega
                  have hix := index_st fs HF8.out i (by omega) wr
                  obtain ⟨l, hl, hp, hrw⟩ := HO.out.row
                  have fz := frozen_of_row wr G7 (4 * i) _ _ hrw; have fz1 := frozen_of_row wr G7 (4 * i + 1) _ _ hrw; have fz2 := frozen_of_row wr G7 (4 * i + 2) _ _ hrw; have fz3 := frozen_of_row wr G7 (4 * i + 3) _ _ hrw
                  have d0 := cell_w hrw (4 * i) (by omega); have d1 := cell_w hrw (4 * i + 1) (by omega); have d2 := cell_w hrw (4 * i + 2) (by omega); have d3 := cell_w hrw (4 * i + 3) (by omega)
                  have hG7b := lt_of_block hrw
                  obtain ⟨xw, hxw⟩ : ∃ xw, nth fs i = xw := ⟨_, rfl⟩
                  rw [hxw] at hix
                  clear hl hp hrw
                  have hOS := Lib.hid (HO.out.step (show i < 8 by omega) hSl xw hxw)
                  clear hxw
                  go_wp2_with fail
                  go_roundw
                  case rel => exact ⟨i + 1, by go_num, by omega, hOS.out⟩
                  case measure => simp [intOf]; omega
            · have hlt0 : (0 : Int) < Kn := by omega
              have h64 : 64 ≤ Kn := by have := hM64.out; omega
              have hge64 : (64 : Int) ≤ Kn := by omega
              have hcur := HL3.out.cur
              have hnot := HL3.out.rest.notin hcur (by decide)
              have hdl : (pd.drop (64 * q)).length = Kn := by rw [List.length_drop, hpdl.out]; omega
              obtain ⟨r3, hr3⟩ : ∃ r3, r3 = pd.drop (64 * q) := ⟨_, rfl⟩
              have hrest3 := HL3.out.rest
              rw [← hr3] at hrest3 hdl
              rcases hrest3 with ⟨-, h0⟩ | ⟨gv, off, cap, cr, hve, hgg, h1, h2, h3⟩
              · exfalso; rw [h0] at hdl; simp at hdl; omega
              simp only [Value.slice.injEq] at hve
              obtain ⟨rfl, -, rfl⟩ := hve
              have hcap : (64 : Int) ≤ c := by omega
              have hgvG : gv ≠ G6 := fun e => hnot (by rw [e]; rfl)
              obtain ⟨f, hf⟩ : ∃ f : Nat → Nat, f = fun i => nth pd (64 * q + i) := ⟨_, rfl⟩
              have hf256 : ∀ i, f i < 256 := fun i => by
                rw [hf]
                show nth pd (64 * q + i) < 256
                by_cases hi : 64 * q + i < pd.length
                · exact HPD256.out _ (nth_mem pd _ hi)
                · rw [nth_end pd _ (by omega)]; decide
              obtain ⟨SK, hSK⟩ : ∃ SK, SK = runB s0 pd q := ⟨_, rfl⟩
              have hSK8 : SK.length = 8 := by rw [hSK]; exact runB_len s0 pd hs08.out q
              have hSKw : W32 SK := by rw [hSK]; exact runB_w s0 pd hs0w.out q
              have hnx : runB s0 pd (q + 1) = mixS SK f := by rw [runB, hSK, hf]
              have hn8 : (mixS SK f).length = 8 := mixS_len SK f
              obtain ⟨SN, hSN⟩ : ∃ SN, SN = mixS SK f := ⟨_, rfl⟩
              have HNX : Hid (runB s0 pd (q + 1) = SN) := by rw [hSN]; exact hnx
              rw [← hSK] at hcur
              rw [← hSN] at hn8
              have HK8 := Lib.hid hSK8; have HN8 := Lib.hid hn8
              obtain ⟨LB, hLB0⟩ : ∃ LB, LB = [(w.heap.size, Obj.cells (wcells .u8 (List.replicate 32 0)) 61 (0, 0)), (gv, Obj.cells cr 5 (0, 0))] := ⟨_, rfl⟩
              have SB : St w LB wr := by
                rw [hLB0]
                exact (((St.nil w).cons' HL3.out.below hgg)).cons HL3.out.out
              have mout : (w.heap.size, Obj.cells (wcells .u8 (List.replicate 32 0)) 61 (0, 0)) ∈ LB := by rw [hLB0]; exact List.Mem.head _
              have mgv : (gv, Obj.cells cr 5 (0, 0)) ∈ LB := by rw [hLB0]; exact List.Mem.tail _ (List.Mem.head _)
              have hLB : Hid (∀ q, q ∈ LB → q.1 ≠ G6) := by
                rw [hLB0]; intro p hp
                rcases List.mem_cons.1 hp with rfl | hp
                · show w.heap.size ≠ _; omega
                · rcases List.mem_cons.1 hp with rfl | hp
                  · exact hgvG
                  · cases hp
              have CMX : Hid (∀ W, W.heap[gv]? = some (.cells cr 5 (0, 0)) → Calls Try.prog 43 #[.agg (wcells .u32 SK), .slice (some ⟨gv, off, none⟩) 64 c] W fun e w' => e = .returned (.agg (wcells .u32 SN)) ∧ Below W.heap.size W w') := fun W hk => by
                have hb' : Bt W gv off 64 f := ⟨lt_of_block hk, fun i hi => (cell_of_row _ _ _ _ _ _ hk).trans (by rw [h3 i (by omega), hr3, nth_drop, hf])⟩
                have := mix_c gv off c SK f hf256 hSK8 hSKw W hb'
                rwa [← hSN] at this
              have HCUR := Lib.hid hcur; have HR3 := Lib.hid hr3; have H3 := Lib.hid h3; have HDL := Lib.hid hdl; have HQ := Lib.hid hq; have HA : Hid (r3.length ≤ c ∧ off + c ≤ cr.size) := ⟨h1, h2⟩
              clear hcur hnot hr3 h3 hf hf256 hSK8 hSKw hnx hn8 hSN hSK hLB0 hdl hq
              go_wp2_with fail
              obtain ⟨I, hI0⟩ : ∃ I : Array Value → (Nat → Bool) → Act → World → Prop, I = (fun T0 L act W => ∃ vq0 vq1 vq2 vq3, act = ⟨sets T0 [(53, vq0), (54, vq1), (55, vq2), (56, vq3)], []⟩ ∧ St w LB W ∧ (L 0 = true → vq0 = .agg (wcells .u32 SK)) ∧ (L 1 = true → vq1 = .slice (some ⟨gv, off, none⟩) Kn c) ∧ (L 2 = true → vq2 = .slice (some ⟨gv, off, none⟩) 64 c) ∧ (L 3 = true → vq3 = .agg (wcells .u32 SN)) ∧ (L 4 = false → W.heap[G6]? = some (.cells (wcells .u32 SK) 77 (0, 0))) ∧ (L 4 = true → W.heap[G6]? = some (.cells (wcells .u32 SN) 77 (0, 0))) ∧ (L 4 = true → L 0 = true)) := ⟨_, rfl⟩
              have HI := Lib.hid hI0; clear hI0
              refine wp_region_frame (by kernel_rfl) (by kernel_rfl) I (fun T0 hT0 => ⟨?start, ?step, ?fin⟩)
              case start =>
                rw [HI.out]
                exact ⟨T0.getD 53 undef, T0.getD 54 undef, T0.getD 55 undef, T0.getD 56 undef, by (refine Eq.trans ?_ (congrArg (fun T => Act.mk T []) (sets_self [53, 54, 55, 56] T0).symm)); rw [hT0], SB.drew, nofun, nofun, nofun, nofun, fun _ => HCUR.out, nofun, nofun⟩
              case step =>
                refine ⟨?_, ?_, ?_, ?_, ?_, trivial⟩
                · intro L act W hI hno hdep
                  rw [HI.out] at hI
                  obtain ⟨vq0, vq1, vq2, vq3, hact, hS, hq0, hq1, hq2, hq3, oq4, nq4, dq4_0⟩ := hI
                  subst hact
                  rw [hT0]; simp only [sets, List.setIfInBounds_toArray, List.set_cons_zero, List.set_cons_succ]
                  have hq0 := oq4 (noF dq4_0 hno)
                  with_reducible refine wp_load_row 77 (Operand.tmp 6) rfl G6 ?_ 77 (wcells .u32 SK) (0, 0) _ hq0 Try.underlying77 rfl (by rw [wcells_size, HK8.out]; kernel_rfl) ?_
                  · rfl
                  rw [HI.out]
                  exact ⟨.agg (wcells .u32 SK), vq1, vq2, vq3, by simp only [sets, Act.put, List.setIfInBounds_toArray, List.set_cons_zero, List.set_cons_succ], hS, fun _ => rfl, keepI hq1 rfl, keepI hq2 rfl, keepI hq3 rfl, keepF oq4, keepI nq4 rfl, keepD dq4_0 rfl⟩
                · intro L act W hI hno hdep
                  rw [HI.out] at hI
                  obtain ⟨vq0, vq1, vq2, vq3, hact, hS, hq0, hq1, hq2, hq3, oq4, nq4, dq4_0⟩ := hI
                  subst hact
                  rw [hT0]; simp only [sets, List.setIfInBounds_toArray, List.set_cons_zero, List.set_cons_succ]
                  go_simp
                  rw [HI.out]
                  exact ⟨vq0, .slice (some ⟨gv, off, none⟩) Kn c, vq2, vq3, by simp only [sets, List.setIfInBounds_toArray, List.set_cons_zero, List.set_cons_succ], hS, keepI hq0 rfl, fun _ => rfl, keepI hq2 rfl, keepI hq3 rfl, keepF oq4, keepI nq4 rfl, keepD dq4_0 rfl⟩
                · intro L act W hI hno hdep
                  rw [HI.out] at hI
                  obtain ⟨vq0, vq1, vq2, vq3, hact, hS, hq0, hq1, hq2, hq3, oq4, nq4, dq4_0⟩ := hI
                  subst hact
                  obtain rfl := hq1 (hdep ⟨1, .data⟩ (by simp) rfl)
                  rw [hT0]; simp only [sets, List.setIfInBounds_toArray, List.set_cons_zero, List.set_cons_succ]
                  go_simp
                  rw [HI.out]
                  exact ⟨vq0, .slice (some ⟨gv, off, none⟩) Kn c, .slice (some ⟨gv, off, none⟩) 64 c, vq3, by simp only [sets, List.setIfInBounds_toArray, List.set_cons_zero, List.set_cons_succ], hS, keepI hq0 rfl, fun _ => rfl, fun _ => rfl, keepI hq3 rfl, keepF oq4, keepI nq4 rfl, keepD dq4_0 rfl⟩
                · intro L act W hI hno hdep
                  rw [HI.out] at hI
                  obtain ⟨vq0, vq1, vq2, vq3, hact, hS, hq0, hq1, hq2, hq3, oq4, nq4, dq4_0⟩ := hI
                  subst hact
                  obtain rfl := hq0 (hdep ⟨0, .data⟩ (by simp) rfl)
                  obtain rfl := hq2 (hdep ⟨2, .data⟩ (by simp) rfl)
                  rw [hT0]; simp only [sets, List.setIfInBounds_toArray, List.set_cons_zero, List.set_cons_succ]
                  go_simp
                  refine (CMX.out _ (hS.get mgv)).mono ?_
                  rintro e W2 ⟨rfl, hb⟩
                  rw [HI.out]
                  exact ⟨.agg (wcells .u32 SK), vq1, .slice (some ⟨gv, off, none⟩) 64 c, .agg (wcells .u32 SN), by simp only [sets, List.setIfInBounds_toArray, List.set_cons_zero, List.set_cons_succ], (hS.keep hb), fun _ => rfl, keepI hq1 rfl, fun _ => rfl, fun _ => rfl, keepF (fun h => keepH hb (oq4 h)), keepI (fun h => keepH hb (nq4 h)) rfl, keepD dq4_0 rfl⟩
                · intro L act W hI hno hdep
                  rw [HI.out] at hI
                  obtain ⟨vq0, vq1, vq2, vq3, hact, hS, hq0, hq1, hq2, hq3, oq4, nq4, dq4_0⟩ := hI
                  subst hact
                  obtain rfl := hq3 (hdep ⟨3, .data⟩ (by simp) rfl)
                  have hg := oq4 hno
                  rw [hT0]; simp only [sets, List.setIfInBounds_toArray, List.set_cons_zero, List.set_cons_succ]
                  with_reducible refine wp_store_row 77 (Operand.tmp 6) (Operand.tmp 56) rfl G6 (wcells .u32 SN) ?_ ?_ 77 (wcells .u32 SK) hg (by rw [wcells_size, HN8.out]; kernel_rfl) (by rw [wcells_size, wcells_size, HN8.out, HK8.out]) (wcells_one _ _) ?_
                  · rfl
                  · rfl
                  rw [HI.out]
                  exact ⟨vq0, vq1, vq2, .agg (wcells .u32 SN), by simp only [sets, Act.put, List.setIfInBounds_toArray, List.set_cons_zero, List.set_cons_succ], (hS.setRow (by omega) hLB.out _), keepI hq0 rfl, keepI hq1 rfl, keepI hq2 rfl, fun _ => rfl, alsoF, fun _ => setRow_heap W _ _ _ _ _ hg, fun _ => alsoD (hdep ⟨0, .phase⟩ (by simp) rfl)⟩
              case fin =>
                intro L act W hall hI
                rw [HI.out] at hI
                obtain ⟨vq0, vq1, vq2, vq3, hact, hS, hq0, hq1, hq2, hq3, oq4, nq4, dq4_0⟩ := hI
                subst hact
                obtain rfl := hq0 (hall 0 (by decide))
                obtain rfl := hq1 (hall 1 (by decide))
                obtain rfl := hq2 (hall 2 (by decide))
                obtain rfl := hq3 (hall 3 (by decide))
                have tgh := Lib.hid (nq4 (hall 4 (by decide)))
                clear hq0 hq1 hq2 hq3 oq4 nq4 dq4_0 hall
                rw [hT0]; simp only [sets, List.setIfInBounds_toArray, List.set_cons_zero, List.set_cons_succ]
                clear hT0 HI
                have hcaseA : ∀ u : Value, u = u → RestV W u (r3.drop 64) → BlkInv w G6 s0 pd u (q + 1) W := fun u _ hr' => by
                  refine ⟨hS.below, hS.get mout, by rw [HNX.out]; exact tgh.out, ?_⟩
                  rw [show pd.drop (64 * (q + 1)) = r3.drop 64 by rw [HR3.out, List.drop_drop]; congr 1]; exact hr'
                have HCA := Lib.hid hcaseA
                have hr3l : r3.length = Kn := HDL.out
                have hgW := hS.get mgv
                by_cases hc64 : c = 64
                · have hf1 : Hid (BlkInv w G6 s0 pd (.slice (some ⟨gv, off, none⟩) (Kn - 64) 0) (q + 1) W) := by
                    have := rest_empty (off := off) (r := r3) hgW (by have := HA.out.1; omega) (by have := HA.out.2; omega)
                    rw [hr3l] at this
                    exact HCA.out _ rfl this
                  clear hcaseA hr3l hgW
                  go_wp2_with fail
                  go_roundg (Kn - 64)
                  case measure => omega
                  case rel => exact ⟨q + 1, Kn - 64, _, _, rfl, by have := HQ.out; omega, rfl, hf1⟩
                · have hf1 : Hid (BlkInv w G6 s0 pd (.slice (some ⟨gv, off + 64, none⟩) (Kn - 64) (c - 64)) (q + 1) W) := by
                    have := (rest_shift (off := off) (cap := c) (r := r3) hgW HA.out.1 HA.out.2 H3.out).resolve_right (by omega)
                    rw [hr3l] at this
                    exact HCA.out _ rfl this
                  clear hcaseA hr3l hgW
                  go_wp2_with fail
                  go_roundg (Kn - 64)
                  case measure => omega
                  case rel => exact ⟨q + 1, Kn - 64, _, _, rfl, by have := HQ.out; omega, rfl, hf1⟩
        · have hlt : (k : Int) < 8 := by omega
          obtain ⟨y, hy0⟩ : ∃ y, 8 * bs.length / 2 ^ (56 - 8 * k) % 256 = y := ⟨_, rfl⟩
          have hy : 8 * (bs.length : Int) / 2 ^ (56 - 8 * k) % 256 = (y : Int) := by rw [← hy0]; simp
          have J1 := Lib.hid (HK.out.alloc (.cells #[.int .u8 (y : Int)] 5))
          have X1 := Lib.hid (one_src (wr.alloc (.cells #[.int .u8 (y : Int)] 5)) wr.heap.size y ((cell_of_row _ _ _ _ _ _ (heap_alloc_last _ _)).trans rfl))
          have hlen1 : (zb ++ (be8 (8 * bs.length)).take k).length = Mn := by rw [hMn, List.length_append, HZL.out, List.length_take, be8_len]; omega
          have J1r : RestV (wr.alloc (.cells #[.int .u8 (y : Int)] 5)) (.slice a Mn c) (zb ++ (be8 (8 * bs.length)).take k) := J1.out.rest
          have HJ1r := Lib.hid J1r
          obtain ⟨zk, hzk⟩ : ∃ zk, zk = zb ++ (be8 (8 * bs.length)).take k := ⟨_, rfl⟩
          have hzk2 : zb ++ (be8 (8 * bs.length)).take (k + 1) = zk ++ [y] := by rw [be8_take _ _ (by omega), hy0, hzk, List.append_assoc]
          rw [← hzk] at J1 hlen1 HJ1r
          have HZK := Lib.hid hzk2; have HMN := Lib.hid hMn
          clear hy0 hMn J1r hzk hzk2
          go_wp2_with (at_builtin; go_loud (first | (refine wpList_app (by rfl) (.tmp 34) (.tmp 41) (by rfl) _ _ (by rfl) (by rfl) zk [y] HJ1r.out X1.out (by simp; omega) ?_; intro v3 W3 R3 K3 N3; obtain ⟨va3, vc3, e3⟩ := R3.shape; subst e3; have J2 := Lib.hid (J1.out.app R3 K3 N3); clear R3 K3 N3)))
          have J3 : Hid (PadInv w (.slice va3 (Mn + 1) vc3) (zb ++ (be8 (8 * bs.length)).take (k + 1)) W3) := by
            have := J2.out
            rw [HZK.out]
            rwa [List.length_append, hlen1] at this
          go_roundw
          case rel => exact ⟨k + 1, Mn + 1, va3, vc3, by go_num, by omega, rfl, by have := HMN.out; omega, J3⟩
          case measure => simp [intOf]; omega
    · obtain ⟨m, hm⟩ : ∃ m : Nat, Ln % 64 = m := ⟨_, rfl⟩
      have h56 : (Ln : Int) % 64 = m := by omega
      have hm56 : ¬ (m : Int) = 56 := by
        have h1 : P = (119 - r.length % 64) % 64 := HPD.out
        omega
      have J1 := Lib.hid (HJ.out.alloc (.cells #[.int .u8 0] 5))
      have X1 := Lib.hid (one_src (wr.alloc (.cells #[.int .u8 0] 5)) wr.heap.size 0 ((cell_of_row _ _ _ _ _ _ (heap_alloc_last _ _)).trans rfl))
      have hlen1 : (r ++ [128] ++ List.replicate j 0).length = Ln := by rw [hLn]; simp; omega
      have HLN := Lib.hid hLn
      have J1r : RestV (wr.alloc (.cells #[.int .u8 0] 5)) (.slice a Ln c) (r ++ [128] ++ List.replicate j 0) := J1.out.rest
      have HJ1r := Lib.hid J1r
      clear hm hLn J1r
      go_wp2_with (at_builtin; go_loud (first | (refine wpList_app (by rfl) (.tmp 23) (.tmp 24) (by rfl) _ _ (by rfl) (by rfl) (r ++ [128] ++ List.replicate j 0) [0] HJ1r.out X1.out (by simp; omega) ?_; intro v3 W3 R3 K3 N3; obtain ⟨va3, vc3, e3⟩ := R3.shape; subst e3; have J2 := Lib.hid (J1.out.app R3 K3 N3); clear R3 K3 N3)))
      have J3 : Hid (PadInv w (.slice va3 (r.length + (j + 1 + 1)) vc3) (r ++ [128] ++ List.replicate (j + 1) 0) W3) := by
        have := J2.out
        have e0 : r ++ [128] ++ List.replicate j 0 ++ [0] = r ++ [128] ++ List.replicate (j + 1) 0 := by rw [List.replicate_succ', List.append_assoc]
        have el : (r ++ [128] ++ List.replicate (j + 1) 0).length = r.length + (j + 1 + 1) := by simp only [List.length_append, List.length_cons, List.length_nil, List.length_replicate]; omega
        rw [e0, el] at this
        exact this
      go_roundg (P - (j + 1))
      case measure => omega
      case rel => exact ⟨j + 1, r.length + (j + 1 + 1), va3, vc3, rfl, by omega, by omega, J3⟩
end Go.Proofs.Ytbjcigokimieoaa
