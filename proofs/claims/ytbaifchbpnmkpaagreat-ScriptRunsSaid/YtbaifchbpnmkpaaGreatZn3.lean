/-
  Lemmas of the claim, part 3. (Printed by shake.py, mini.py.)
-/
import Derived.Test.YtbaifchbpnmkpaaGreatZn2
set_option maxRecDepth 100000
set_option maxHeartbeats 16000000
set_option linter.unusedVariables false
set_option linter.unusedSimpArgs false
namespace Go.Proofs.YtbaifchbpnmkpaaGreat
variable {w W W' : World} {L : List (Nat × Obj)} {X : List Xt} {Q : Exit → Act → World → Prop} {v : Value} {sg : List Nat → List Nat → Bool} {ds : List Nat} {T : Array Value} {P : Program} {F : List (Nat × Value)} {K : Act → World → Prop} {vs : Array Value} {fid : FuncId} {A : Option Addr} {f : Func} {g : Nat}
open Go.RowKit
structure PadInv (w : World) (v : Value) (z : List Nat) (wr : World) : Prop where
 below : Below w.heap.size w wr
 out : wr.heap[w.heap.size]? = some (Obj.cells (wcells .u8 (List.replicate 32 0)) 24 (0, 0))
 rest : RestV wr v z
 own : ∀ b, v.ownBlock = some b → w.heap.size < b
theorem PadInv.app {w wr W2 : World} {v v2 : Value} {z zz : List Nat} (h : PadInv w v z wr) (R : RestV W2 v2 zz) (K : Keeps (fun b => v.ownBlock = some b) wr W2) (Nn : ∀ b, v2.ownBlock = some b → v.ownBlock = some b ∨ b = wr.heap.size) : PadInv w v2 zz W2 := by
 have hlt := lt_of_block h.out
 refine ⟨?_, (K.block _ hlt (fun e => by have := h.own _ e; omega)).trans h.out, R, fun b hb => ?_⟩
 ·exact h.below.trans ⟨K.os, K.tape, K.output, K.size, fun b hb => K.block b (Nat.lt_of_lt_of_le hb h.below.size) (fun e => by have := h.own _ e; omega)⟩
 ·rcases Nn b hb with h1 | h1
  ·exact h.own b h1
  ·rw [h1]; exact hlt
theorem PadInv.alloc {w wr : World} {z : List Nat} (h : PadInv w v z wr) (o : Obj) : PadInv w v z (wr.alloc o) :=
 ⟨h.below.alloc h.below.size o, (Below.heap_alloc wr o _ (lt_of_block h.out)).trans h.out, h.rest.keep (F := fun _ => False) (Keeps.of_below ((Below.refl _ _).alloc (Nat.le_refl _) o)) (fun _ _ h => h), h.own⟩
theorem one_src (W : World) (b : Nat) (y : Nat) (h : W.cell? ⟨b, 0, none⟩ = some (vcz y)) : SrcB W (.slice (some ⟨b, 0, none⟩) 1 1) [y] := srcB_slice W b 0 1 [y] (fun i hi => by
 obtain rfl : i = 0 := by simpa using hi
 exact h)
theorem be8_take (n k : Nat) (h : k < 8) : (be8 n).take (k + 1) = (be8 n).take k ++ [n / 2 ^ (56 - 8 * k) % 256] := by
 rw [List.take_add_one]
 congr 1
 unfold be8
 rw [List.getElem?_map, List.getElem?_range h]; rfl
theorem be8_len (n : Nat) : (be8 n).length = 8 := by simp [be8]
structure BlkInv (w : World) (G6 : Nat) (s0 pd : List Nat) (v : Value) (k : Nat) (wr : World) : Prop where
 below : Below w.heap.size w wr
 out : wr.heap[w.heap.size]? = some (Obj.cells (wcells .u8 (List.replicate 32 0)) 24 (0, 0))
 cur : wr.heap[G6]? = some (.cells (wcells .u32 (runB s0 pd k)) 120 (0, 0))
 rest : RestV wr v (pd.drop (64 * k))
structure OutInv (w : World) (G7 : Nat) (fs : List Nat) (i : Nat) (wr : World) : Prop where
 below : Below w.heap.size w wr
 out : wr.heap[w.heap.size]? = some (Obj.cells (wcells .u8 (List.replicate 32 0)) 24 (0, 0))
 row : ∃ l : List Nat, l.length = 32 ∧ (∀ j, j < 4 * i → nth l j = nth (outB fs) j) ∧ wr.heap[G7]? = some (.cells (wcells .u8 l) 24 (0, 0))
theorem St.cons' (_ : St w L w) (hb : Below w.heap.size w W) {o : Obj} (hg : W.heap[g]? = some o) : St w [(g, o)] W := ⟨hb, fun p hp => by
 rcases List.mem_cons.1 hp with rfl | hp
 ·exact hg
 ·cases hp⟩
theorem sha_tail (bs : List Nat) (n : Nat) (hn : n = bs.length / 64) (hl : bs.length ≤ 1000000000) : outB (runB (runB HL bs n) (bs.drop (64 * n) ++ [128] ++ List.replicate (pads (bs.drop (64 * n)).length) 0 ++ be8 (8 * bs.length)) ((bs.drop (64 * n) ++ [128] ++ List.replicate (pads (bs.drop (64 * n)).length) 0 ++ be8 (8 * bs.length)).length / 64)) = sha bs := by
 have h64 : 64 * n ≤ bs.length := by omega
 have hdl : (bs.drop (64 * n)).length = bs.length - 64 * n := List.length_drop
 have hpe : pads (bs.drop (64 * n)).length = pads bs.length := by rw [hdl]; unfold pads; omega
 have hmod : 8 * bs.length % 18446744073709551616 = 8 * bs.length := Nat.mod_eq_of_lt (by omega)
 have hT : (padded bs).drop (64 * n) = bs.drop (64 * n) ++ [128] ++ List.replicate (pads (bs.drop (64 * n)).length) 0 ++ be8 (8 * bs.length) := by
  unfold padded
  rw [hmod, hpe, List.append_assoc, List.append_assoc, List.append_assoc, List.append_assoc, List.drop_append_of_le_length h64]
 rw [← hT]
 have hlen := padded_len bs
 have hTl : ((padded bs).drop (64 * n)).length = (padded bs).length - 64 * n := List.length_drop
 unfold sha
 congr 1
 rw [show (padded bs).length / 64 = n + ((padded bs).drop (64 * n)).length / 64 by rw [hTl]; omega, runB_add]
 congr 1
 refine runB_congr HL _ _ n (fun i hi => ?_)
 unfold padded
 rw [List.append_assoc, List.append_assoc, nth_append_left _ _ _ (by omega)]
theorem index_s0 (a b c d e f g h : Nat) (w : World) : (Instr.index 120 (.agg (wcells .u32 [a, b, c, d, e, f, g, h])) (vi 0)).run Tryz.prog w = .ok (vd a) w := by kernel_rfl
theorem index_s1 (a b c d e f g h : Nat) (w : World) : (Instr.index 120 (.agg (wcells .u32 [a, b, c, d, e, f, g, h])) (vi 1)).run Tryz.prog w = .ok (vd b) w := by kernel_rfl
theorem index_s2 (a b c d e f g h : Nat) (w : World) : (Instr.index 120 (.agg (wcells .u32 [a, b, c, d, e, f, g, h])) (vi 2)).run Tryz.prog w = .ok (vd c) w := by kernel_rfl
theorem index_s3 (a b c d e f g h : Nat) (w : World) : (Instr.index 120 (.agg (wcells .u32 [a, b, c, d, e, f, g, h])) (vi 3)).run Tryz.prog w = .ok (vd d) w := by kernel_rfl
theorem index_s4 (a b c d e f g h : Nat) (w : World) : (Instr.index 120 (.agg (wcells .u32 [a, b, c, d, e, f, g, h])) (vi 4)).run Tryz.prog w = .ok (vd e) w := by kernel_rfl
theorem index_s5 (a b c d e f g h : Nat) (w : World) : (Instr.index 120 (.agg (wcells .u32 [a, b, c, d, e, f, g, h])) (vi 5)).run Tryz.prog w = .ok (vd f) w := by kernel_rfl
theorem index_s6 (a b c d e f g h : Nat) (w : World) : (Instr.index 120 (.agg (wcells .u32 [a, b, c, d, e, f, g, h])) (vi 6)).run Tryz.prog w = .ok (vd g) w := by kernel_rfl
theorem index_s7 (a b c d e f g h : Nat) (w : World) : (Instr.index 120 (.agg (wcells .u32 [a, b, c, d, e, f, g, h])) (vi 7)).run Tryz.prog w = .ok (vd h) w := by kernel_rfl
theorem index_st (l : List Nat) (hl : l.length = 8) (i : Nat) (hi : i < 8) (w : World) : (Instr.index 120 (.agg (wcells .u32 l)) (.int .i64 (i : Int))).run Tryz.prog w = .ok (vd (nth l i)) w := by
 match l, hl with
 | [a, b, c, d, e, f, g, h], _ =>
  match i, hi with
  | 0, _ => exact index_s0 a b c d e f g h w
  | 1, _ => exact index_s1 a b c d e f g h w
  | 2, _ => exact index_s2 a b c d e f g h w
  | 3, _ => exact index_s3 a b c d e f g h w
  | 4, _ => exact index_s4 a b c d e f g h w
  | 5, _ => exact index_s5 a b c d e f g h w
  | 6, _ => exact index_s6 a b c d e f g h w
  | 7, _ => exact index_s7 a b c d e f g h w
theorem outB_at (fs : List Nat) (i j : Nat) (hi : i < 8) (hj : j < 4) : nth (outB fs) (4 * i + j) = nth fs i / 2 ^ (24 - 8 * j) % 256 := by
 unfold outB
 rw [nth_range _ _ _ (by omega), show (4 * i + j) / 4 = i by omega, show (4 * i + j) % 4 = j by omega]
theorem OutInv.step {w wr : World} {G7 : Nat} {fs : List Nat} {i : Nat} (h : OutInv w G7 fs i wr) (hi : i < 8) (hG : w.heap.size < G7) (xw : Nat) (hx : nth fs i = xw) :
 OutInv w G7 fs (i + 1) ((((wr.setCell ⟨G7, 4 * i, none⟩ (.int .u8 ((xw : Int) / 16777216 % 256))).setCell ⟨G7, 4 * i + 1, none⟩ (.int .u8 ((xw : Int) / 65536 % 256))).setCell ⟨G7, 4 * i + 2, none⟩ (.int .u8 ((xw : Int) / 256 % 256))).setCell ⟨G7, 4 * i + 3, none⟩ (.int .u8 ((xw : Int) % 256))) := by
 have e0 : (xw : Int) / 16777216 % 256 = ((nth (outB fs) (4 * i + 0) : Nat) : Int) := by rw [outB_at fs i 0 hi (by omega), hx]; simp
 have e1 : (xw : Int) / 65536 % 256 = ((nth (outB fs) (4 * i + 1) : Nat) : Int) := by rw [outB_at fs i 1 hi (by omega), hx]; simp
 have e2 : (xw : Int) / 256 % 256 = ((nth (outB fs) (4 * i + 2) : Nat) : Int) := by rw [outB_at fs i 2 hi (by omega), hx]; simp
 have e3 : (xw : Int) % 256 = ((nth (outB fs) (4 * i + 3) : Nat) : Int) := by rw [outB_at fs i 3 hi (by omega), hx]; simp
 rw [e0, e1, e2, e3]
 obtain ⟨l, hl, hp, hr⟩ := h.row
 have other : ∀ (W : World) (o : Nat) (v : Value), W.heap[w.heap.size]? = some (Obj.cells (wcells .u8 (List.replicate 32 0)) 24 (0, 0)) → (W.setCell ⟨G7, o, none⟩ v).heap[w.heap.size]? = some (Obj.cells (wcells .u8 (List.replicate 32 0)) 24 (0, 0)) := fun W o v hW => (heap_setCell_other W ⟨G7, o, none⟩ _ v (by show w.heap.size ≠ G7; omega)).trans hW
 have hB : w.heap.size ≤ G7 := by omega
 refine ⟨(((h.below.setCell hB _).setCell hB _).setCell hB _).setCell hB _, other _ _ _ (other _ _ _ (other _ _ _ (other _ _ _ h.out))), (((l.set (4 * i) (nth (outB fs) (4 * i + 0))).set (4 * i + 1) (nth (outB fs) (4 * i + 1))).set (4 * i + 2) (nth (outB fs) (4 * i + 2))).set (4 * i + 3) (nth (outB fs) (4 * i + 3)), by simpa using hl, fun j hj => ?_, set_w (set_w (set_w (set_w hr _ _) _ _) _ _) _ _⟩
 rw [nth_set _ _ _ _ (by simp; omega), nth_set _ _ _ _ (by simp; omega), nth_set _ _ _ _ (by simp; omega), nth_set _ _ _ _ (by omega)]
 split
 ·next e => rw [e]
 ·split
  ·next e => rw [e]
  ·split
   ·next e => rw [e]
   ·split
    ·next e => rw [← e]; rfl
    ·exact hp j (by omega)
theorem RestV.notin {r : List Nat} {cs : Array Value} {t : TypeId} {fr : Nat × Nat} (h : RestV W v r) (hr : W.heap[g]? = some (.cells cs t fr)) (ht : t ≠ 5) : v.ownBlock ≠ some g := by
 rcases h with ⟨rfl, -⟩ | ⟨g', off, cap, cur, rfl, hgg, -⟩
 ·simp [Value.ownBlock]
 ·intro e
  simp [Value.ownBlock] at e
  subst e
  have := hgg.symm.trans hr
  simp at this
  exact ht this.2.1.symm
theorem sum_h (hg : Nat) (v0 : Value) (bs : List Nat) (w : World) (hh : HasherV w hg v0 bs) (hby : ∀ y, y ∈ bs → y < 256) (hlen : bs.length ≤ 1000000000) :
 Calls Tryz.prog 55 #[hptr hg] w fun e w' => e = .returned (.agg (wcells .u8 (sha bs))) ∧ Below w.heap.size w w' := by
 have HH := Lib.hid hh; have HBY := Lib.hid hby; have HLEN := Lib.hid hlen
 have hhrow := hh.row
 have hhb := lt_of_block hhrow
 obtain ⟨va0, vc0, hve⟩ := hh.rest.shape
 subst hve
 obtain ⟨n, hn⟩ : ∃ n, n = bs.length / 64 := ⟨_, rfl⟩
 have hn64 : 64 * n ≤ bs.length := by omega
 have hrest := hh.rest
 rw [← hn] at hhrow hrest
 obtain ⟨r, hr⟩ : ∃ r, r = bs.drop (64 * n) := ⟨_, rfl⟩
 have hrl : r.length < 64 := by rw [hr, List.length_drop]; omega
 rw [← hr] at hrest hhrow
 have c8 := (hrow_at hhrow).1.2.2.2.2.2.2.2.2.1
 have c9 := (hrow_at hhrow).1.2.2.2.2.2.2.2.2.2
 have I0 : Hid (PadInv w (.slice (some ⟨w.heap.size + 1, 0, none⟩) 0 0) [] ((w.alloc (Obj.cells (wcells .u8 (List.replicate 32 0)) 24 (0, 0))).alloc (.cells #[] 5))) := by
  have S := ((St.nil w).alloc (Obj.cells (wcells .u8 (List.replicate 32 0)) 24 (0, 0)) _ rfl).alloc (.cells #[] 5) (w.heap.size + 1) (by simp)
  refine ⟨S.below, S.get (List.Mem.tail _ (List.Mem.head _)), Or.inr ⟨w.heap.size + 1, 0, 0, #[], rfl, S.get (List.Mem.head _), Nat.le_refl _, Nat.le_refl _, fun i hi => absurd hi (by simp)⟩, fun b hb => ?_⟩
  simp [Value.ownBlock] at hb; omega
 have X0 : Hid (SrcB ((w.alloc (Obj.cells (wcells .u8 (List.replicate 32 0)) 24 (0, 0))).alloc (.cells #[] 5)) (.slice va0 r.length vc0) r) := (hrest.keep (F := fun _ => False) (Keeps.of_below (((Below.refl _ _).alloc (Nat.le_refl _) _).alloc (by simp) _)) (fun _ _ h => h)).src
 have hrI : (r.length : Int) < 64 := by omega
 have HR := Lib.hid hr; have HN := Lib.hid hn; have HN64 := Lib.hid hn64; have HROW := Lib.hid hhrow
 clear hh hby hlen hr hn hn64 hhrow hrest
 go_enter Tryz.func55, Tryz.ntmps55
 go_wp2_with (at_builtin; go_loud (first | (refine wpList_app (by rfl) (.tmp 10) (.tmp 14) (by rfl) _ _ (by rfl) (by rfl) [] r I0.out.rest X0.out (by simp; omega) ?_; intro v1 W1 R1 K1 N1; obtain ⟨va1, vc1, e1⟩ := R1.shape; subst e1; have I1 := Lib.hid (I0.out.app R1 K1 N1); clear R1 K1 N1) | (have I1a := Lib.hid (I1.out.alloc (.cells #[.int .u8 128] 5)); have X1 := Lib.hid (one_src (W1.alloc (.cells #[.int .u8 128] 5)) W1.heap.size 128 ((cell_of_row _ _ _ _ _ _ (heap_alloc_last _ _)).trans rfl)); rw [List.nil_append] at I1a; refine wpList_app (by rfl) (.tmp 16) (.tmp 17) (by rfl) _ _ (by rfl) (by rfl) r [128] I1a.out.rest X1.out (by simp; omega) ?_; intro v2 W2 R2 K2 N2; obtain ⟨va2, vc2, e2⟩ := R2.shape; subst e2; have I2 := Lib.hid (I1a.out.app R2 K2 N2); clear R2 K2 N2)))
 clear I0 X0 I1 I1a X1
 obtain ⟨P, hP⟩ : ∃ P, P = pads r.length := ⟨_, rfl⟩
 have HPD := Lib.hid hP
 have hPl : P < 64 := by rw [hP]; unfold pads; omega
 clear hP
 have hr0 : Hid ((r ++ [128]).length = r.length + 1) := by show _ = _; simp
 have I2' : Hid (PadInv w (.slice va2 (r.length + 1) vc2) (r ++ [128] ++ List.replicate 0 0) W2) := by
  rw [List.replicate_zero, List.append_nil, ← hr0.out]; exact I2.out
 clear I2
 go_loopg [3] P (fun t s3 wr => ∃ j Ln : Nat, ∃ a c, s3 = .slice a Ln c ∧ Ln = r.length + 1 + j ∧ j + t = P ∧ Hid (PadInv w s3 (r ++ [128] ++ List.replicate j 0) wr))
 case atStart => exact ⟨0, r.length + 1, va2, vc2, by simp, rfl, by omega, I2'⟩
 case round =>
  obtain ⟨j, Ln, a, c, rfl, hLn, hj, HJ⟩ := hrel
  have hLb : (Ln : Int) ≤ 200 := by omega
  by_cases ht : j = P
  ·have h56 : (Ln : Int) % 64 = 56 := by
    have h1 := pads_56 r.length; rw [← HPD.out] at h1; omega
   obtain ⟨zb, hzb⟩ : ∃ zb, zb = r ++ [128] ++ List.replicate j 0 := ⟨_, rfl⟩
   rw [← hzb] at HJ
   have hzl : zb.length = Ln := by rw [hzb, hLn]; simp; omega
   have HZB : Hid (zb = r ++ [128] ++ List.replicate P 0) := by rw [hzb, ht]; exact rfl
   have HZL := Lib.hid hzl
   have H56 : Hid (Ln % 64 = 56) := by show _ = _; omega
   have c9' := (hrow_at ((HJ.out.below.block hg hhb).trans HROW.out)).1.2.2.2.2.2.2.2.2.2
   have hbl : (bs.length : Int) ≤ 1000000000 := by have := HLEN.out; omega
   have hh2 : hg < wr.heap.size := Nat.lt_of_lt_of_le hhb HJ.out.below.size
   have HJ0 : Hid (PadInv w (.slice a Ln c) (zb ++ (be8 (8 * bs.length)).take 0) wr) := by rw [List.take_zero, List.append_nil]; exact HJ
   clear hzb hzl hLn ht hj
   go_wp2_with fail
   clear h56
   go_loopw [3, 31] (fun s3 s31 wr => ∃ k Mn : Nat, ∃ a c, s31 = .int .i64 (k : Int) ∧ k ≤ 8 ∧ s3 = .slice a Mn c ∧ Mn = Ln + k ∧ Hid (PadInv w s3 (zb ++ (be8 (8 * bs.length)).take k) wr)) (fun _ s31 _ => (8 - intOf s31).toNat)
   case atStart => exact ⟨0, Ln, a, c, rfl, by omega, rfl, rfl, HJ0⟩
   case round =>
    obtain ⟨k, Mn, a, c, rfl, hk, rfl, hMn, HK⟩ := hrel
    have hMb : (Mn : Int) ≤ 300 := by omega
    by_cases hk8 : k = 8
    ·have hge : ¬ (k : Int) < 8 := by omega
     obtain ⟨pd, hpd⟩ : ∃ pd, pd = zb ++ be8 (8 * bs.length) := ⟨_, rfl⟩
     have hz8 : zb ++ (be8 (8 * bs.length)).take k = pd := by rw [hk8, hpd, List.take_of_length_le (by rw [be8_len]; omega)]
     have hM64 : Hid (Mn % 64 = 0) := by show _ = _; have := H56.out; omega
     have hpdl : Hid (pd.length = Mn) := by show _ = _; rw [hpd, List.length_append, HZL.out, be8_len]; omega
     rw [hz8] at HK
     have HPDE : Hid (pd = r ++ [128] ++ List.replicate P 0 ++ be8 (8 * bs.length)) := by rw [hpd, HZB.out]; exact rfl
     have HPD256 : Hid (∀ y, y ∈ pd → y < 256) := fun y hy => by
      rw [HPDE.out] at hy
      simp only [List.mem_append, List.mem_cons, List.not_mem_nil, or_false, List.mem_replicate] at hy
      rcases hy with ((hy | rfl) | ⟨-, rfl⟩) | hy
      ·rw [HR.out] at hy; exact HBY.out y (List.mem_of_mem_drop hy)
      ·decide
      ·decide
      ·simp only [be8, List.mem_map] at hy; obtain ⟨i, -, rfl⟩ := hy; exact Nat.mod_lt _ (by decide)
     obtain ⟨s0, hs0⟩ : ∃ s0, s0 = runB HL bs n := ⟨_, rfl⟩
     have HS0 := Lib.hid hs0
     have hs08 : Hid (s0.length = 8) := by rw [hs0]; exact runB_len HL bs HL_len n
     have hs0w : Hid (W32 s0) := by rw [hs0]; exact runB_w HL bs HL_w n
     have hrw := (HK.out.below.block hg hhb).trans HROW.out
     rw [← hs0] at hrw
     obtain ⟨⟨c0, c1, c2, c3, c4, c5, c6, c7, -, -⟩, -⟩ := hrow_at hrw
     have hh3 : hg < wr.heap.size := lt_of_block hrw
     have K0 : Hid (BlkInv w wr.heap.size s0 pd (.slice a Mn c) 0 (wr.alloc (.cells (st8 s0) 120))) := by
      have hk2 := HK.out.alloc (.cells (st8 s0) 120)
      exact ⟨hk2.below, hk2.out, by rw [← agg8 s0 hs08.out]; exact lastH _ _ _ rfl, hk2.rest⟩
     have hG6 : w.heap.size < wr.heap.size := lt_of_block HK.out.out
     obtain ⟨G6, hG6e⟩ : ∃ G6, wr.heap.size = G6 := ⟨_, rfl⟩
     clear hk8 hz8 hpd hs0 hrw hMn
     go_wp2_with fail
     rw [hG6e] at K0 hG6
     (try rw [hG6e])
     go_loopg [3] Mn (fun t s3 wr => ∃ k Kn : Nat, ∃ a c, s3 = .slice a Kn c ∧ Kn + 64 * k = Mn ∧ t = Kn ∧ Hid (BlkInv w G6 s0 pd s3 k wr))
     case atStart => exact ⟨0, Mn, a, c, rfl, rfl, rfl, K0⟩
     case round =>
      obtain ⟨q, Kn, a, c, rfl, hq, hqt, HL3⟩ := hrel
      have hKb : (Kn : Int) ≤ 300 := by omega
      by_cases hK0 : Kn = 0
      ·have hle0 : ¬ (0 : Int) < Kn := by omega
       have hq2 : q = Mn / 64 := by omega
       have hcur := HL3.out.cur
       obtain ⟨fs, hfs⟩ : ∃ fs, fs = runB s0 pd q := ⟨_, rfl⟩
       have hfs8 : fs.length = 8 := by rw [hfs]; exact runB_len s0 pd hs08.out q
       have hfsw : W32 fs := by rw [hfs]; exact runB_w s0 pd hs0w.out q
       have HFS : Hid (fs = runB s0 pd (pd.length / 64)) := by rw [hpdl.out, ← hq2]; exact hfs
       rw [← hfs] at hcur
       have hSl : w.heap.size < wr.heap.size := lt_of_block HL3.out.out
       have SL : Hid (St w [(wr.heap.size, Obj.cells (wcells .u8 (List.replicate 32 0)) 24 (0, 0)), (w.heap.size, Obj.cells (wcells .u8 (List.replicate 32 0)) 24 (0, 0)), (G6, Obj.cells (wcells .u32 fs) 120 (0, 0))] (wr.alloc (.cells (wcells .u8 (List.replicate 32 0)) 24))) :=
        (((St.nil w).cons' HL3.out.below hcur).cons HL3.out.out).alloc _ _ rfl
       have HF8 := Lib.hid hfs8; have HFW := Lib.hid hfsw
       obtain ⟨G7, hG7e⟩ : ∃ G7, wr.heap.size = G7 := ⟨_, rfl⟩
       rw [hG7e] at SL hSl
       have O0 : Hid (OutInv w G7 fs 0 (wr.alloc (.cells (wcells .u8 (List.replicate 32 0)) 24))) :=
        ⟨SL.out.below, SL.out.get (List.Mem.tail _ (List.Mem.head _)), _, List.length_replicate .., fun j hj => absurd hj (by omega), SL.out.get (List.Mem.head _)⟩
       clear hcur hfs hfs8 hfsw hq2 hq hqt hK0
       go_wp2_with (refine wpList_load_row rfl 120 (.tmp 6) rfl G6 rfl 120 (wcells .u32 fs) (0, 0) _ (SL.out.get (List.Mem.tail _ (List.Mem.tail _ (List.Mem.head _)))) Tryz.underlying120 rfl (by rw [wcells_size, HF8.out]; kernel_rfl) ?_)
       go_loopw [58] (fun s wr => ∃ i : Nat, s = .int .i64 (i : Int) ∧ i ≤ 8 ∧ Hid (OutInv w G7 fs i wr)) (fun s _ => (8 - intOf s).toNat)
       case atStart => exact ⟨0, rfl, by omega, O0⟩
       case round =>
        obtain ⟨i, rfl, hi, HO⟩ := hrel
        by_cases hi8 : i = 8
        ·have hge8 : ¬ (i : Int) < 8 := by omega
         obtain ⟨l, hl, hp, hrw⟩ := HO.out.row
         have hle : l = outB fs := nth_ext _ _ (by rw [hl, outB_len]) (fun j hj => hp j (by omega))
         have HLE := Lib.hid hle; have HLL := Lib.hid hl; have HRW := Lib.hid hrw
         clear hle hl hp hrw hi8
         go_wp2_with (first
          | (refine wpList_load_row rfl 24 (.tmp 7) rfl G7 rfl 24 (wcells .u8 l) (0, 0) _ HRW.out Tryz.underlying24 rfl (by rw [wcells_size, HLL.out]; kernel_rfl) ?_)
          | (refine wpList_store_row rfl 24 (.tmp 2) (.tmp 89) rfl w.heap.size (wcells .u8 l) rfl rfl 24 (wcells .u8 (List.replicate 32 0)) HO.out.out (by rw [wcells_size, HLL.out]; kernel_rfl) (by rw [wcells_size, wcells_size, HLL.out, List.length_replicate]) (wcells_one _ _) ?_))
         exact bodyPost_ret (results_cell_row rfl _ _ w.heap.size 24 (wcells .u8 l) (0, 0) _ rfl (setRow_heap _ _ _ _ _ _ HO.out.out) Tryz.underlying24 rfl (by rw [wcells_size, HLL.out]; kernel_rfl)) rfl (⟨by rw [HLE.out, HFS.out, HS0.out, HPDE.out, HPD.out, HR.out, sha_tail bs n HN.out HLEN.out], below_setRow HO.out.below (Nat.le_refl _) _⟩)
        ·have hlt8 : (i : Int) < 8 := by omega
         have hix := index_st fs HF8.out i (by omega) wr
         obtain ⟨l, hl, hp, hrw⟩ := HO.out.row
         have fz := frozen_of_row wr G7 (4 * i) _ _ hrw; have fz1 := frozen_of_row wr G7 (4 * i + 1) _ _ hrw; have fz2 := frozen_of_row wr G7 (4 * i + 2) _ _ hrw; have fz3 := frozen_of_row wr G7 (4 * i + 3) _ _ hrw
         have d0 := cell_w hrw (4 * i) (by omega); have d1 := cell_w hrw (4 * i + 1) (by omega); have d2 := cell_w hrw (4 * i + 2) (by omega); have d3 := cell_w hrw (4 * i + 3) (by omega)
         have hG7b := lt_of_block hrw
         obtain ⟨xw, hxw⟩ : ∃ xw, nth fs i = xw := ⟨_, rfl⟩
         rw [hxw] at hix
         clear hl hp hrw
         have hOS := Lib.hid (HO.out.step (show i < 8 by omega) hSl xw hxw)
         clear hxw
         go_wp2_with fail
         go_roundw
         case rel => exact ⟨i + 1, by go_num, by omega, hOS.out⟩
         case measure => simp [intOf]; omega
      ·have hlt0 : (0 : Int) < Kn := by omega
       have h64 : 64 ≤ Kn := by have := hM64.out; omega
       have hge64 : (64 : Int) ≤ Kn := by omega
       have hcur := HL3.out.cur
       have hnot := HL3.out.rest.notin hcur (by decide)
       have hdl : (pd.drop (64 * q)).length = Kn := by rw [List.length_drop, hpdl.out]; omega
       obtain ⟨r3, hr3⟩ : ∃ r3, r3 = pd.drop (64 * q) := ⟨_, rfl⟩
       have hrest3 := HL3.out.rest
       rw [← hr3] at hrest3 hdl
       rcases hrest3 with ⟨-, h0⟩ | ⟨gv, off, cap, cr, hve, hgg, h1, h2, h3⟩
       ·exfalso; rw [h0] at hdl; simp at hdl; omega
       simp only [Value.slice.injEq] at hve
       obtain ⟨rfl, -, rfl⟩ := hve
       have hcap : (64 : Int) ≤ c := by omega
       have hgvG : gv ≠ G6 := fun e => hnot (by rw [e]; rfl)
       obtain ⟨f, hf⟩ : ∃ f : Nat → Nat, f = fun i => nth pd (64 * q + i) := ⟨_, rfl⟩
       have hf256 : ∀ i, f i < 256 := fun i => by
        rw [hf]
        show nth pd (64 * q + i) < 256
        by_cases hi : 64 * q + i < pd.length
        ·exact HPD256.out _ (nth_mem pd _ hi)
        ·rw [nth_end pd _ (by omega)]; decide
       obtain ⟨SK, hSK⟩ : ∃ SK, SK = runB s0 pd q := ⟨_, rfl⟩
       have hSK8 : SK.length = 8 := by rw [hSK]; exact runB_len s0 pd hs08.out q
       have hSKw : W32 SK := by rw [hSK]; exact runB_w s0 pd hs0w.out q
       have hnx : runB s0 pd (q + 1) = mixS SK f := by rw [runB, hSK, hf]
       have hn8 : (mixS SK f).length = 8 := mixS_len SK f
       obtain ⟨SN, hSN⟩ : ∃ SN, SN = mixS SK f := ⟨_, rfl⟩
       have HNX : Hid (runB s0 pd (q + 1) = SN) := by rw [hSN]; exact hnx
       rw [← hSK] at hcur
       rw [← hSN] at hn8
       have HK8 := Lib.hid hSK8; have HN8 := Lib.hid hn8
       obtain ⟨LB, hLB0⟩ : ∃ LB, LB = [(w.heap.size, Obj.cells (wcells .u8 (List.replicate 32 0)) 24 (0, 0)), (gv, Obj.cells cr 5 (0, 0))] := ⟨_, rfl⟩
       have SB : St w LB wr := by
        rw [hLB0]
        exact (((St.nil w).cons' HL3.out.below hgg)).cons HL3.out.out
       have mout : (w.heap.size, Obj.cells (wcells .u8 (List.replicate 32 0)) 24 (0, 0)) ∈ LB := by rw [hLB0]; exact List.Mem.head _
       have mgv : (gv, Obj.cells cr 5 (0, 0)) ∈ LB := by rw [hLB0]; exact List.Mem.tail _ (List.Mem.head _)
       have hLB : Hid (∀ q, q ∈ LB → q.1 ≠ G6) := by
        rw [hLB0]; intro p hp
        rcases List.mem_cons.1 hp with rfl | hp
        ·show w.heap.size ≠ _; omega
        ·rcases List.mem_cons.1 hp with rfl | hp
         ·exact hgvG
         ·cases hp
       have CMX : Hid (∀ W, W.heap[gv]? = some (.cells cr 5 (0, 0)) → Calls Tryz.prog 74 #[.agg (wcells .u32 SK), .slice (some ⟨gv, off, none⟩) 64 c] W fun e w' => e = .returned (.agg (wcells .u32 SN)) ∧ Below W.heap.size W w') := fun W hk => by
        have hb' : Bt W gv off 64 f := ⟨lt_of_block hk, fun i hi => (cell_of_row _ _ _ _ _ _ hk).trans (by rw [h3 i (by omega), hr3, nth_drop, hf])⟩
        have := mix_c gv off c SK f hf256 hSK8 hSKw W hb'
        rwa [← hSN] at this
       have HCUR := Lib.hid hcur; have HR3 := Lib.hid hr3; have H3 := Lib.hid h3; have HDL := Lib.hid hdl; have HQ := Lib.hid hq; have HA : Hid (r3.length ≤ c ∧ off + c ≤ cr.size) := ⟨h1, h2⟩
       clear hcur hnot hr3 h3 hf hf256 hSK8 hSKw hnx hn8 hSN hSK hLB0 hdl hq
       go_wp2_with fail
       obtain ⟨I, hI0⟩ : ∃ I : Array Value → (Nat → Bool) → Act → World → Prop, I = (fun T0 L act W => ∃ vq0 vq1 vq2 vq3, act = ⟨sets T0 [(53, vq0), (54, vq1), (55, vq2), (56, vq3)], []⟩ ∧ St w LB W ∧ (L 0 = true → vq0 = .agg (wcells .u32 SK)) ∧ (L 1 = true → vq1 = .slice (some ⟨gv, off, none⟩) Kn c) ∧ (L 2 = true → vq2 = .slice (some ⟨gv, off, none⟩) 64 c) ∧ (L 3 = true → vq3 = .agg (wcells .u32 SN)) ∧ (L 4 = false → W.heap[G6]? = some (.cells (wcells .u32 SK) 120 (0, 0))) ∧ (L 4 = true → W.heap[G6]? = some (.cells (wcells .u32 SN) 120 (0, 0))) ∧ (L 4 = true → L 0 = true)) := ⟨_, rfl⟩
       have HI := Lib.hid hI0; clear hI0
       refine wp_region_frame (by kernel_rfl) (by kernel_rfl) I (fun T0 hT0 => ⟨?start, ?step, ?fin⟩)
       case start =>
        rw [HI.out]
        exact ⟨T0.getD 53 undef, T0.getD 54 undef, T0.getD 55 undef, T0.getD 56 undef, by (refine Eq.trans ?_ (congrArg (fun T => Act.mk T []) (sets_self [53, 54, 55, 56] T0).symm)); rw [hT0], SB.drew, nofun, nofun, nofun, nofun, fun _ => HCUR.out, nofun, nofun⟩
       case step =>
        refine ⟨?_, ?_, ?_, ?_, ?_, trivial⟩
        ·intro L act W hI hno hdep
         rw [HI.out] at hI
         obtain ⟨vq0, vq1, vq2, vq3, hact, hS, hq0, hq1, hq2, hq3, oq4, nq4, dq4_0⟩ := hI
         subst hact
         rw [hT0]; simp only [sets, List.setIfInBounds_toArray, List.set_cons_zero, List.set_cons_succ]
         have hq0 := oq4 (noF dq4_0 hno)
         with_reducible refine wp_load_row 120 (Operand.tmp 6) rfl G6 ?_ 120 (wcells .u32 SK) (0, 0) _ hq0 Tryz.underlying120 rfl (by rw [wcells_size, HK8.out]; kernel_rfl) ?_
         ·rfl
         rw [HI.out]
         exact ⟨.agg (wcells .u32 SK), vq1, vq2, vq3, by simp only [sets, Act.put, List.setIfInBounds_toArray, List.set_cons_zero, List.set_cons_succ], hS, fun _ => rfl, keepI hq1 rfl, keepI hq2 rfl, keepI hq3 rfl, keepF oq4, keepI nq4 rfl, keepD dq4_0 rfl⟩
        ·intro L act W hI hno hdep
         rw [HI.out] at hI
         obtain ⟨vq0, vq1, vq2, vq3, hact, hS, hq0, hq1, hq2, hq3, oq4, nq4, dq4_0⟩ := hI
         subst hact
         rw [hT0]; simp only [sets, List.setIfInBounds_toArray, List.set_cons_zero, List.set_cons_succ]
         go_simp
         rw [HI.out]
         exact ⟨vq0, .slice (some ⟨gv, off, none⟩) Kn c, vq2, vq3, by simp only [sets, List.setIfInBounds_toArray, List.set_cons_zero, List.set_cons_succ], hS, keepI hq0 rfl, fun _ => rfl, keepI hq2 rfl, keepI hq3 rfl, keepF oq4, keepI nq4 rfl, keepD dq4_0 rfl⟩
        ·intro L act W hI hno hdep
         rw [HI.out] at hI
         obtain ⟨vq0, vq1, vq2, vq3, hact, hS, hq0, hq1, hq2, hq3, oq4, nq4, dq4_0⟩ := hI
         subst hact
         obtain rfl := hq1 (hdep ⟨1, .data⟩ (by simp) rfl)
         rw [hT0]; simp only [sets, List.setIfInBounds_toArray, List.set_cons_zero, List.set_cons_succ]
         go_simp
         rw [HI.out]
         exact ⟨vq0, .slice (some ⟨gv, off, none⟩) Kn c, .slice (some ⟨gv, off, none⟩) 64 c, vq3, by simp only [sets, List.setIfInBounds_toArray, List.set_cons_zero, List.set_cons_succ], hS, keepI hq0 rfl, fun _ => rfl, fun _ => rfl, keepI hq3 rfl, keepF oq4, keepI nq4 rfl, keepD dq4_0 rfl⟩
        ·intro L act W hI hno hdep
         rw [HI.out] at hI
         obtain ⟨vq0, vq1, vq2, vq3, hact, hS, hq0, hq1, hq2, hq3, oq4, nq4, dq4_0⟩ := hI
         subst hact
         obtain rfl := hq0 (hdep ⟨0, .data⟩ (by simp) rfl)
         obtain rfl := hq2 (hdep ⟨2, .data⟩ (by simp) rfl)
         rw [hT0]; simp only [sets, List.setIfInBounds_toArray, List.set_cons_zero, List.set_cons_succ]
         go_simp
         refine (CMX.out _ (hS.get mgv)).mono ?_
         rintro e W2 ⟨rfl, hb⟩
         rw [HI.out]
         exact ⟨.agg (wcells .u32 SK), vq1, .slice (some ⟨gv, off, none⟩) 64 c, .agg (wcells .u32 SN), by simp only [sets, List.setIfInBounds_toArray, List.set_cons_zero, List.set_cons_succ], (hS.keep hb), fun _ => rfl, keepI hq1 rfl, fun _ => rfl, fun _ => rfl, keepF (fun h => keepH hb (oq4 h)), keepI (fun h => keepH hb (nq4 h)) rfl, keepD dq4_0 rfl⟩
        ·intro L act W hI hno hdep
         rw [HI.out] at hI
         obtain ⟨vq0, vq1, vq2, vq3, hact, hS, hq0, hq1, hq2, hq3, oq4, nq4, dq4_0⟩ := hI
         subst hact
         obtain rfl := hq3 (hdep ⟨3, .data⟩ (by simp) rfl)
         have hg := oq4 hno
         rw [hT0]; simp only [sets, List.setIfInBounds_toArray, List.set_cons_zero, List.set_cons_succ]
         with_reducible refine wp_store_row 120 (Operand.tmp 6) (Operand.tmp 56) rfl G6 (wcells .u32 SN) ?_ ?_ 120 (wcells .u32 SK) hg (by rw [wcells_size, HN8.out]; kernel_rfl) (by rw [wcells_size, wcells_size, HN8.out, HK8.out]) (wcells_one _ _) ?_
         ·rfl
         ·rfl
         rw [HI.out]
         exact ⟨vq0, vq1, vq2, .agg (wcells .u32 SN), by simp only [sets, Act.put, List.setIfInBounds_toArray, List.set_cons_zero, List.set_cons_succ], (hS.setRow (by omega) hLB.out _), keepI hq0 rfl, keepI hq1 rfl, keepI hq2 rfl, fun _ => rfl, alsoF, fun _ => setRow_heap W _ _ _ _ _ hg, fun _ => alsoD (hdep ⟨0, .phase⟩ (by simp) rfl)⟩
       case fin =>
        intro L act W hall hI
        rw [HI.out] at hI
        obtain ⟨vq0, vq1, vq2, vq3, hact, hS, hq0, hq1, hq2, hq3, oq4, nq4, dq4_0⟩ := hI
        subst hact
        obtain rfl := hq0 (hall 0 (by decide))
        obtain rfl := hq1 (hall 1 (by decide))
        obtain rfl := hq2 (hall 2 (by decide))
        obtain rfl := hq3 (hall 3 (by decide))
        have tgh := Lib.hid (nq4 (hall 4 (by decide)))
        clear hq0 hq1 hq2 hq3 oq4 nq4 dq4_0 hall
        rw [hT0]; simp only [sets, List.setIfInBounds_toArray, List.set_cons_zero, List.set_cons_succ]
        clear hT0 HI
        have hcaseA : ∀ u : Value, u = u → RestV W u (r3.drop 64) → BlkInv w G6 s0 pd u (q + 1) W := fun u _ hr' => by
         refine ⟨hS.below, hS.get mout, by rw [HNX.out]; exact tgh.out, ?_⟩
         rw [show pd.drop (64 * (q + 1)) = r3.drop 64 by rw [HR3.out, List.drop_drop]; congr 1]; exact hr'
        have HCA := Lib.hid hcaseA
        have hr3l : r3.length = Kn := HDL.out
        have hgW := hS.get mgv
        by_cases hc64 : c = 64
        ·have hf1 : Hid (BlkInv w G6 s0 pd (.slice (some ⟨gv, off, none⟩) (Kn - 64) 0) (q + 1) W) := by
          have := rest_empty (off := off) (r := r3) hgW (by have := HA.out.1; omega) (by have := HA.out.2; omega)
          rw [hr3l] at this
          exact HCA.out _ rfl this
         clear hcaseA hr3l hgW
         go_wp2_with fail
         go_roundg (Kn - 64)
         case measure => omega
         case rel => exact ⟨q + 1, Kn - 64, _, _, rfl, by have := HQ.out; omega, rfl, hf1⟩
        ·have hf1 : Hid (BlkInv w G6 s0 pd (.slice (some ⟨gv, off + 64, none⟩) (Kn - 64) (c - 64)) (q + 1) W) := by
          have := (rest_shift (off := off) (cap := c) (r := r3) hgW HA.out.1 HA.out.2 H3.out).resolve_right (by omega)
          rw [hr3l] at this
          exact HCA.out _ rfl this
         clear hcaseA hr3l hgW
         go_wp2_with fail
         go_roundg (Kn - 64)
         case measure => omega
         case rel => exact ⟨q + 1, Kn - 64, _, _, rfl, by have := HQ.out; omega, rfl, hf1⟩
    ·have hlt : (k : Int) < 8 := by omega
     obtain ⟨y, hy0⟩ : ∃ y, 8 * bs.length / 2 ^ (56 - 8 * k) % 256 = y := ⟨_, rfl⟩
     have hy : 8 * (bs.length : Int) / 2 ^ (56 - 8 * k) % 256 = (y : Int) := by rw [← hy0]; simp
     have J1 := Lib.hid (HK.out.alloc (.cells #[.int .u8 (y : Int)] 5))
     have X1 := Lib.hid (one_src (wr.alloc (.cells #[.int .u8 (y : Int)] 5)) wr.heap.size y ((cell_of_row _ _ _ _ _ _ (heap_alloc_last _ _)).trans rfl))
     have hlen1 : (zb ++ (be8 (8 * bs.length)).take k).length = Mn := by rw [hMn, List.length_append, HZL.out, List.length_take, be8_len]; omega
     have J1r : RestV (wr.alloc (.cells #[.int .u8 (y : Int)] 5)) (.slice a Mn c) (zb ++ (be8 (8 * bs.length)).take k) := J1.out.rest
     have HJ1r := Lib.hid J1r
     obtain ⟨zk, hzk⟩ : ∃ zk, zk = zb ++ (be8 (8 * bs.length)).take k := ⟨_, rfl⟩
     have hzk2 : zb ++ (be8 (8 * bs.length)).take (k + 1) = zk ++ [y] := by rw [be8_take _ _ (by omega), hy0, hzk, List.append_assoc]
     rw [← hzk] at J1 hlen1 HJ1r
     have HZK := Lib.hid hzk2; have HMN := Lib.hid hMn
     clear hy0 hMn J1r hzk hzk2
     go_wp2_with (at_builtin; go_loud (first | (refine wpList_app (by rfl) (.tmp 34) (.tmp 41) (by rfl) _ _ (by rfl) (by rfl) zk [y] HJ1r.out X1.out (by simp; omega) ?_; intro v3 W3 R3 K3 N3; obtain ⟨va3, vc3, e3⟩ := R3.shape; subst e3; have J2 := Lib.hid (J1.out.app R3 K3 N3); clear R3 K3 N3)))
     have J3 : Hid (PadInv w (.slice va3 (Mn + 1) vc3) (zb ++ (be8 (8 * bs.length)).take (k + 1)) W3) := by
      have := J2.out
      rw [HZK.out]
      rwa [List.length_append, hlen1] at this
     go_roundw
     case rel => exact ⟨k + 1, Mn + 1, va3, vc3, by go_num, by omega, rfl, by have := HMN.out; omega, J3⟩
     case measure => simp [intOf]; omega
  ·obtain ⟨m, hm⟩ : ∃ m : Nat, Ln % 64 = m := ⟨_, rfl⟩
   have h56 : (Ln : Int) % 64 = m := by omega
   have hm56 : ¬ (m : Int) = 56 := by
    have h1 : P = (119 - r.length % 64) % 64 := HPD.out
    omega
   have J1 := Lib.hid (HJ.out.alloc (.cells #[.int .u8 0] 5))
   have X1 := Lib.hid (one_src (wr.alloc (.cells #[.int .u8 0] 5)) wr.heap.size 0 ((cell_of_row _ _ _ _ _ _ (heap_alloc_last _ _)).trans rfl))
   have hlen1 : (r ++ [128] ++ List.replicate j 0).length = Ln := by rw [hLn]; simp; omega
   have HLN := Lib.hid hLn
   have J1r : RestV (wr.alloc (.cells #[.int .u8 0] 5)) (.slice a Ln c) (r ++ [128] ++ List.replicate j 0) := J1.out.rest
   have HJ1r := Lib.hid J1r
   clear hm hLn J1r
   go_wp2_with (at_builtin; go_loud (first | (refine wpList_app (by rfl) (.tmp 23) (.tmp 24) (by rfl) _ _ (by rfl) (by rfl) (r ++ [128] ++ List.replicate j 0) [0] HJ1r.out X1.out (by simp; omega) ?_; intro v3 W3 R3 K3 N3; obtain ⟨va3, vc3, e3⟩ := R3.shape; subst e3; have J2 := Lib.hid (J1.out.app R3 K3 N3); clear R3 K3 N3)))
   have J3 : Hid (PadInv w (.slice va3 (r.length + (j + 1 + 1)) vc3) (r ++ [128] ++ List.replicate (j + 1) 0) W3) := by
    have := J2.out
    have e0 : r ++ [128] ++ List.replicate j 0 ++ [0] = r ++ [128] ++ List.replicate (j + 1) 0 := by rw [List.replicate_succ', List.append_assoc]
    have el : (r ++ [128] ++ List.replicate (j + 1) 0).length = r.length + (j + 1 + 1) := by simp only [List.length_append, List.length_cons, List.length_nil, List.length_replicate]; omega
    rw [e0, el] at this
    exact this
   go_roundg (P - (j + 1))
   case measure => omega
   case rel => exact ⟨j + 1, r.length + (j + 1 + 1), va3, vc3, rfl, by omega, by omega, J3⟩
theorem PieceV.mono {B B' : Nat} {xv : Value} {ys : List Nat} (h : PieceV W B xv ys) (hB : B ≤ B') : PieceV W B' xv ys := h.imp id (fun ⟨b, o, c, h1, h2, h3⟩ => ⟨b, o, c, Nat.lt_of_lt_of_le h1 hB, h2, h3⟩)
theorem Pcs.mono {B B' : Nat} {lv : Value} {pss : List (List Nat)} (h : Pcs W B lv pss) (hB : B ≤ B') (hW : B' ≤ W.heap.size) : Pcs W B' lv pss :=
 ⟨fun b hb => Nat.lt_of_lt_of_le hb hW, h.shape.imp id (fun ⟨lb, lo, c, h1, h2, h3⟩ => ⟨lb, lo, c, Nat.lt_of_lt_of_le h1 hB, h2, fun i ys hi => by
  obtain ⟨xv, h4, h5⟩ := h3 i ys hi
  exact ⟨xv, h4, PieceV.mono h5 hB⟩⟩)⟩
theorem sum_c (lv : Value) (pss : List (List Nat)) (w : World) (hp : Pcs w w.heap.size lv pss) (hby : ∀ y, y ∈ pss.flatten → y < 256) (hlen : pss.flatten.length ≤ 1000000000) (hpl : pss.length ≤ 1000000) :
 Calls Tryz.prog 39 #[lv] w fun e w' => e = .returned (.agg (wcells .u8 (sha pss.flatten))) ∧ Below w.heap.size w w' := by
 have HP := Lib.hid hp; have HBY := Lib.hid hby; have HLEN := Lib.hid hlen; have HPL := Lib.hid hpl
 have hw32 := sha_len pss.flatten
 obtain ⟨dg, hdg⟩ : ∃ dg, dg = sha pss.flatten := ⟨_, rfl⟩
 have HDG := Lib.hid hdg
 rw [← hdg] at hw32 ⊢
 have HW32 := Lib.hid hw32
 have S0 := (St.nil w).alloc (.cells (wcells .u8 (List.replicate 32 0)) 24) _ rfl
 clear hp hby hlen hpl hdg hw32
 go_enter Tryz.func39, Tryz.ntmps39
 go_wp2_with fail
 refine (new_c _).mono ?_
 rintro e W1 ⟨hg, rfl, hhrow, hge, hb⟩
 have hge' : w.heap.size < hg := by have := hge.out; simp at this; omega
 have S1 := S0.keep hb
 have P1 := HP.out.keep (Keeps.of_below (F := fun _ => False) S1.below) (fun _ _ h => h)
 have hh : HasherV W1 hg (.slice none 0 0) [] := ⟨hhrow.out, Or.inl ⟨rfl, rfl⟩⟩
 have A1 := Lib.hid (add_h w.heap.size hg (.slice none 0 0) lv [] pss W1 hh P1 (by omega) (fun b hb => by simp [Value.ownBlock] at hb) (by simpa using HBY.out) (by simpa using HLEN.out) HPL.out)
 have hhb := lt_of_block hhrow.out
 clear hb P1 hh
 go_wp2_with fail
 refine A1.out.mono ?_
 rintro e W2 ⟨rfl, HI⟩
 have S2 : St w [(w.heap.size, Obj.cells (wcells .u8 (List.replicate 32 0)) 24 (0, 0))] W2 := by
  have k := HI.out.keeps
  refine ⟨S1.below.trans ⟨k.os, k.tape, k.output, k.size, fun b hb => k.block b (Nat.lt_of_lt_of_le hb S1.below.size) (fun hf => ?_)⟩, fun p hpm => ?_⟩
  ·rcases hf with h1 | h1
   ·omega
   ·simp [Value.ownBlock] at h1
  ·rcases List.mem_cons.1 hpm with rfl | hpm
   ·exact (k.block _ (lt_of_block (S1.get (List.Mem.head _))) (fun hf => by
     rcases hf with h1 | h1
     ·have h1' : w.heap.size = hg := h1; omega
     ·simp [Value.ownBlock] at h1)).trans (S1.get (List.Mem.head _))
   ·cases hpm
 obtain ⟨v, hv, -⟩ := HI.out.now
 rw [List.take_of_length_le (Nat.le_refl _), List.nil_append] at hv
 have CS := Lib.hid (sum_h hg v pss.flatten W2 hv HBY.out HLEN.out)
 rw [← HDG.out] at CS
 clear hv HI A1
 go_wp2_with fail
 refine CS.out.mono ?_
 rintro e W3 ⟨rfl, hb⟩
 have S3 := S2.keep hb
 clear hb
 go_wp2_with (refine wpList_store_row rfl 24 (.tmp 2) (.tmp 9) rfl w.heap.size (wcells .u8 dg) rfl rfl 24 (wcells .u8 (List.replicate 32 0)) (S3.get (List.Mem.head _)) (by rw [wcells_size, HW32.out]; kernel_rfl) (by rw [wcells_size, wcells_size, HW32.out, List.length_replicate]) (wcells_one _ _) ?_)
 exact bodyPost_ret (results_cell_row rfl _ _ w.heap.size 24 (wcells .u8 dg) (0, 0) _ rfl (setRow_heap _ _ _ _ _ _ (S3.get (List.Mem.head _))) Tryz.underlying24 rfl (by rw [wcells_size, HW32.out]; kernel_rfl)) rfl (⟨rfl, below_setRow S3.below (Nat.le_refl _) _⟩)
theorem piece_hash {g B : Nat} {l : List Nat} {t : TypeId} (h : W.heap[g]? = some (.cells (wcells .u8 l) t (0, 0))) (hl : l.length = 32) (hB : g < B) : PieceV W B (.slice (some ⟨g, 0, none⟩) 32 32) l :=
 Or.inr ⟨g, 0, 32, hB, by rw [hl], fun i hi => by rw [Nat.zero_add]; exact cell_w h i hi⟩
theorem pcs_one {B g : Nat} {xv : Value} {l : List Nat} {t : TypeId} (hg : W.heap[g]? = some (.cells #[xv] t (0, 0))) (hB : g < B) (hle : B ≤ W.heap.size) (hp : PieceV W B xv l) : Pcs W B (.slice (some ⟨g, 0, none⟩) 1 1) [l] :=
 ⟨fun b hb => Nat.lt_of_lt_of_le hb hle, Or.inr ⟨g, 0, 1, hB, rfl, fun i ys hi => by
  cases i with
  | zero => simp at hi; subst hi; exact ⟨xv, (cell_of_row _ _ _ _ _ _ hg).trans rfl, hp⟩
  | succ i => simp at hi⟩⟩
theorem twice_c (lv : Value) (pss : List (List Nat)) (w : World) (hp : Pcs w w.heap.size lv pss) (hby : ∀ y, y ∈ pss.flatten → y < 256) (hlen : pss.flatten.length ≤ 1000000000) (hpl : pss.length ≤ 1000000) :
 Calls Tryz.prog 56 #[lv] w fun e w' => e = .returned (.agg (wcells .u8 (sha (sha pss.flatten)))) ∧ Below w.heap.size w w' := by
 have S0 := (St.nil w).alloc (.cells (wcells .u8 (List.replicate 32 0)) 24) _ rfl
 have P1 := hp.keep (Keeps.of_below (F := fun _ => False) S0.below) (fun _ _ h => h)
 have CS1 := Lib.hid (sum_c lv pss _ (P1.mono S0.below.size (Nat.le_refl _)) hby hlen hpl)
 have hw32 := sha_len pss.flatten
 obtain ⟨d1, hd1⟩ : ∃ d, d = sha pss.flatten := ⟨_, rfl⟩
 rw [← hd1] at CS1 hw32 ⊢
 have hd1b : Hid (∀ y, y ∈ d1 → y < 256) := by rw [hd1]; exact sha_lt _
 have hw32' := sha_len d1
 obtain ⟨d2, hd2⟩ : ∃ d, d = sha d1 := ⟨_, rfl⟩
 have HD2 := Lib.hid hd2
 rw [← hd2] at hw32' ⊢
 have HW1 := Lib.hid hw32; have HW2 := Lib.hid hw32'
 clear hp hby hlen hpl P1 hd1 hd2 hw32 hw32'
 go_enter Tryz.func56, Tryz.ntmps56
 go_wp2_with fail
 refine CS1.out.mono ?_
 rintro e W1 ⟨rfl, hb⟩
 have S1 := (S0.keep hb)
 have S2 := S1.alloc (.cells (wcells .u8 (List.replicate 32 0)) 24) _ rfl
 clear hb
 have hs0 : w.heap.size < W1.heap.size := lt_of_block (S1.get (List.Mem.head _))
 go_wp2_with (refine wpList_store_row rfl 24 (.tmp 3) (.tmp 5) rfl W1.heap.size (wcells .u8 d1) rfl rfl 24 (wcells .u8 (List.replicate 32 0)) (S2.get (List.Mem.head _)) (by rw [wcells_size, HW1.out]; kernel_rfl) (by rw [wcells_size, wcells_size, HW1.out, List.length_replicate]) (wcells_one _ _) ?_)
 have S3 : St w [(W1.heap.size, Obj.cells (wcells .u8 d1) 24 (0, 0)), (w.heap.size, Obj.cells (wcells .u8 (List.replicate 32 0)) 24 (0, 0))] ((W1.alloc (.cells (wcells .u8 (List.replicate 32 0)) 24)).setRow W1.heap.size (wcells .u8 d1)) :=
  ((S1.alloc0 (.cells (wcells .u8 (List.replicate 32 0)) 24)).setRow (by omega) (fun q hq => by
   rcases List.mem_cons.1 hq with rfl | hq
   ·show w.heap.size ≠ _; omega
   ·cases hq) _).cons (setRow_heap _ _ _ _ _ _ (S2.get (List.Mem.head _)))
 have S4 := S3.alloc (.cells #[.slice (some ⟨W1.heap.size, 0, none⟩) 32 32] 22) (W1.heap.size + 1) (by simp [World.setRow])
 have P2 := pcs_one (B := W1.heap.size + 2) (S4.get (List.Mem.head _)) (by omega) (by simp [World.setRow]) (piece_hash (S4.get (List.Mem.tail _ (List.Mem.head _))) HW1.out (by omega))
 have CS2 := sum_c _ [d1] _ (P2.mono (by simp [World.setRow]) (Nat.le_refl _)) (by simpa using hd1b.out) (by simp [HW1.out]) (by simp)
 rw [List.flatten_cons, List.flatten_nil, List.append_nil, ← HD2.out] at CS2
 refine CS2.mono ?_
 rintro e W2 ⟨rfl, hb⟩
 have S5 := S4.keep hb
 have h5 := S5.get (List.Mem.tail _ (List.Mem.tail _ (List.Mem.head _)))
 have H5 := Lib.hid h5
 clear hb CS2 P2 h5
 go_wp2_with (refine wpList_store_row rfl 24 (.tmp 2) (.tmp 8) rfl w.heap.size (wcells .u8 d2) rfl rfl 24 (wcells .u8 (List.replicate 32 0)) H5.out (by rw [wcells_size, HW2.out]; kernel_rfl) (by rw [wcells_size, wcells_size, HW2.out, List.length_replicate]) (wcells_one _ _) ?_)
 exact bodyPost_ret (results_cell_row rfl _ _ w.heap.size 24 (wcells .u8 d2) (0, 0) _ rfl (setRow_heap _ _ _ _ _ _ H5.out) Tryz.underlying24 rfl (by rw [wcells_size, HW2.out]; kernel_rfl)) rfl (⟨rfl, below_setRow S5.below (Nat.le_refl _) _⟩)
def hobj (l : List Nat) : Obj := .cells (wcells .u8 l) 24 (0, 0)
def zobj : Obj := .cells (wcells .u8 (List.replicate 32 0)) 24 (0, 0)
theorem wpList_puth {ops : Array Oper} {rest : List Oper} {o : Oper} {a : Act} (hgd : o.guard = none) (x y : Operand) (ho : o.op = .store 24 x y)
 (g : Nat) (hx : a.eval x = .pointer (some ⟨g, 0, none⟩)) (l l0 : List Nat) (hl : l.length = 32) (hl0 : l0.length = 32) (hy : a.eval y = .agg (wcells .u8 l)) (hg : W.heap[g]? = some (hobj l0)) (h : wpList Tryz.prog ops Q rest (a.put o.dst undef) (W.setRow g (wcells .u8 l))) : wpList Tryz.prog ops Q (o :: rest) a W :=
 wpList_store_row hgd 24 x y ho g (wcells .u8 l) hx hy 24 (wcells .u8 l0) hg (by rw [wcells_size, hl]; kernel_rfl) (by rw [wcells_size, wcells_size, hl, hl0]) (wcells_one _ _) h
theorem set_hash {l l0 : List Nat} (hg : W.heap[g]? = some (hobj l0)) : (W.setRow g (wcells .u8 l)).heap[g]? = some (hobj l) := setRow_heap W g _ _ _ _ hg
def heq (a b : List Nat) : Bool := decide (a = b)
theorem St.puth {l0 : List Nat} (h : St w L W) (hge : w.heap.size ≤ g) (hg : W.heap[g]? = some (hobj l0)) (hne : ∀ p, p ∈ L → p.1 ≠ g) (l : List Nat) : St w ((g, hobj l) :: L) (W.setRow g (wcells .u8 l)) :=
 (h.setRow hge hne _).cons (set_hash hg)
theorem St.ne (h : St w L W) {p : Nat × Obj} (hp : p ∈ L) (hg : g = W.heap.size) : p.1 ≠ g := by have := lt_of_block (h.rows p hp); omega
theorem St.newh (h : St w L W) (l : List Nat) : St w ((W.heap.size, hobj l) :: L) ((W.alloc zobj).setRow W.heap.size (wcells .u8 l)) :=
 (h.alloc0 zobj).puth h.below.size (lastH W zobj _ rfl) (fun p hp => by have := lt_of_block (h.rows p hp); omega) l
structure PadR (w : World) (v : Value) (z : List Nat) (wr : World) : Prop where
 below : Below w.heap.size w wr
 rest : RestV wr v z
 own : ∀ b, v.ownBlock = some b → w.heap.size ≤ b
theorem PadR.app {w wr W2 : World} {v v2 : Value} {z zz : List Nat} (h : PadR w v z wr) (R : RestV W2 v2 zz) (K : Keeps (fun b => v.ownBlock = some b) wr W2) (Nn : ∀ b, v2.ownBlock = some b → v.ownBlock = some b ∨ b = wr.heap.size) : PadR w v2 zz W2 := by
 refine ⟨?_, R, fun b hb => ?_⟩
 ·exact h.below.trans ⟨K.os, K.tape, K.output, K.size, fun b hb => K.block b (Nat.lt_of_lt_of_le hb h.below.size) (fun e => by have := h.own _ e; omega)⟩
 ·rcases Nn b hb with h1 | h1
  ·exact h.own b h1
  ·rw [h1]; exact h.below.size
theorem PadR.alloc {w wr : World} {z : List Nat} (h : PadR w v z wr) (o : Obj) : PadR w v z (wr.alloc o) :=
 ⟨h.below.alloc h.below.size o, h.rest.keep (F := fun _ => False) (Keeps.of_below ((Below.refl _ _).alloc (Nat.le_refl _) o)) (fun _ _ h => h), h.own⟩
theorem PadR.new (w : World) : PadR w (.slice (some ⟨w.heap.size, 0, none⟩) 0 0) [] (w.alloc (.cells #[] 5)) := by
 have S := (St.nil w).alloc (.cells #[] 5) _ rfl
 refine ⟨S.below, Or.inr ⟨w.heap.size, 0, 0, #[], rfl, S.get (List.Mem.head _), Nat.le_refl _, Nat.le_refl _, fun i hi => absurd hi (by simp)⟩, fun b hb => ?_⟩
 simp [Value.ownBlock] at hb; omega
theorem padded_c (xv : Value) (bs : List Nat) (w : World) (hp : PieceV w w.heap.size xv bs) (hlen : bs.length ≤ 1000000000) :
 Calls Tryz.prog 45 #[xv] w fun e w' => ∃ a n c, e = .returned (.slice a n c) ∧ n = (padded bs).length ∧ Hid (PadR w (.slice a n c) (padded bs) w') := by
 obtain ⟨xa, xc, hxv⟩ := hp.shape
 subst hxv
 have I0 : Hid (PadR w (.slice (some ⟨w.heap.size, 0, none⟩) 0 0) [] (w.alloc (.cells #[] 5))) := PadR.new w
 have X0 : Hid (SrcB (w.alloc (.cells #[] 5)) (.slice xa bs.length xc) bs) := (hp.keep (Nat.le_refl _) (F := fun _ => False) (Keeps.of_below ((Below.refl _ _).alloc (Nat.le_refl _) _)) (fun _ _ h => h)).src
 have hlI : (bs.length : Int) ≤ 1000000000 := by omega
 have h8 : IntKind.u64.wrap ((bs.length : Int)) = (bs.length : Int) := by rw [IntKind.wrap_u64]; omega
 have h8m : IntKind.u64.wrap ((bs.length : Int) * 8) = ((8 * bs.length : Nat) : Int) := by rw [IntKind.wrap_u64]; omega
 have HMOD : Hid (8 * bs.length % 18446744073709551616 = 8 * bs.length) := Nat.mod_eq_of_lt (by omega)
 obtain ⟨N8, hN8⟩ : ∃ N8, N8 = 8 * bs.length := ⟨_, rfl⟩
 rw [← hN8] at h8m
 have HN8 := Lib.hid hN8
 clear hp hN8
 go_enter Tryz.func45, Tryz.ntmps45
 go_wp2_with (at_builtin; go_loud (first | (refine wpList_app (by rfl) (.tmp 6) (.tmp 7) (by rfl) _ _ (by rfl) (by rfl) [] bs I0.out.rest X0.out (by simp; omega) ?_; intro v1 W1 R1 K1 N1; obtain ⟨va1, vc1, e1⟩ := R1.shape; subst e1; have I1 := Lib.hid (I0.out.app R1 K1 N1); clear R1 K1 N1) | (have I1a := Lib.hid (I1.out.alloc (.cells #[.int .u8 128] 5)); have X1 := Lib.hid (one_src (W1.alloc (.cells #[.int .u8 128] 5)) W1.heap.size 128 ((cell_of_row _ _ _ _ _ _ (heap_alloc_last _ _)).trans rfl)); rw [List.nil_append] at I1a; refine wpList_app (by rfl) (.tmp 8) (.tmp 9) (by rfl) _ _ (by rfl) (by rfl) bs [128] I1a.out.rest X1.out (by simp; omega) ?_; intro v2 W2 R2 K2 N2; obtain ⟨va2, vc2, e2⟩ := R2.shape; subst e2; have I2 := Lib.hid (I1a.out.app R2 K2 N2); clear R2 K2 N2)))
 clear I0 X0 I1 I1a X1
 obtain ⟨P, hP⟩ : ∃ P, P = pads bs.length := ⟨_, rfl⟩
 have HPD := Lib.hid hP
 have hPl : P < 64 := by rw [hP]; unfold pads; omega
 clear hP
 have hr0 : Hid ((bs ++ [128]).length = bs.length + 1) := by show _ = _; simp
 have I2' : Hid (PadR w (.slice va2 (bs.length + 1) vc2) (bs ++ [128] ++ List.replicate 0 0) W2) := by
  rw [List.replicate_zero, List.append_nil, ← hr0.out]; exact I2.out
 clear I2
 go_loopg [3] P (fun t s3 wr => ∃ j Ln : Nat, ∃ a c, s3 = .slice a Ln c ∧ Ln = bs.length + 1 + j ∧ j + t = P ∧ Hid (PadR w s3 (bs ++ [128] ++ List.replicate j 0) wr))
 case atStart => exact ⟨0, bs.length + 1, va2, vc2, by simp, rfl, by omega, I2'⟩
 case round =>
  obtain ⟨j, Ln, a, c, rfl, hLn, hj, HJ⟩ := hrel
  have hLb : (Ln : Int) ≤ 1000000200 := by omega
  by_cases ht : j = P
  ·have h56 : (Ln : Int) % 64 = 56 := by
    have h1 := pads_56 bs.length; rw [← HPD.out] at h1; omega
   obtain ⟨zb, hzb⟩ : ∃ zb, zb = bs ++ [128] ++ List.replicate j 0 := ⟨_, rfl⟩
   rw [← hzb] at HJ
   have hzl : zb.length = Ln := by rw [hzb, hLn]; simp; omega
   have HZB : Hid (zb = bs ++ [128] ++ List.replicate P 0) := by rw [hzb, ht]; exact rfl
   have HZL := Lib.hid hzl
   have HJ0 : Hid (PadR w (.slice a Ln c) (zb ++ (be8 N8).take 0) wr) := by rw [List.take_zero, List.append_nil]; exact HJ
   clear hzb hzl hLn ht hj
   go_wp2_with fail
   clear h56 h8 h8m
   go_loopg [3, 5] 8 (fun t s3 s5 wr => ∃ k Mn : Nat, ∃ a c, s5 = .int .i64 ((t : Int) - 1) ∧ k + t = 8 ∧ s3 = .slice a Mn c ∧ Mn = Ln + k ∧ Hid (PadR w s3 (zb ++ (be8 N8).take k) wr))
   case atStart => exact ⟨0, Ln, a, c, rfl, by omega, rfl, rfl, HJ0⟩
   case round =>
    obtain ⟨k, Mn, a, c, rfl, hk, rfl, hMn, HK⟩ := hrel
    have hMb : (Mn : Int) ≤ 1000000300 := by omega
    by_cases hk8 : k = 8
    ·obtain rfl : gk = 0 := by omega
     have hpd : Hid (zb ++ (be8 N8).take k = padded bs) := by
      rw [hk8, List.take_of_length_le (by rw [be8_len]; omega), HZB.out, HN8.out]
      have hm := HMOD.out; have hpp := HPD.out
      show _ = _
      unfold padded
      rw [hm, hpp]
     have hpl : Hid (Mn = (padded bs).length) := by
      show _ = _
      rw [← hpd.out, List.length_append, HZL.out, List.length_take, be8_len]; omega
     rw [hpd.out] at HK
     clear hMn
     go_wp2_with fail
     go_ret
     exact ⟨_, _, _, rfl, hpl.out, HK⟩
    ·obtain ⟨s, hs⟩ : ∃ s, gk = s + 1 := ⟨gk - 1, by omega⟩
     subst hs
     obtain ⟨y, hy0⟩ : ∃ y, N8 / 2 ^ (56 - 8 * k) % 256 = y := ⟨_, rfl⟩
     have hy256 : y < 256 := by rw [← hy0]; exact Nat.mod_lt _ (by decide)
     have e1 : ((s + 1 : Nat) : Int) - 1 = (s : Int) := by omega
     have hy : ((N8 : Int) / 2 ^ (8 * s)).tmod 256 = (y : Int) := by
      have e : (N8 : Int) / 2 ^ (8 * s) = ((N8 / 2 ^ (56 - 8 * k) : Nat) : Int) := by rw [show 8 * s = 56 - 8 * k by omega]; simp
      rw [e, Int.tmod_eq_emod_of_nonneg (Int.natCast_nonneg _), ← hy0]; exact (Int.natCast_emod _ 256).symm
     have hyy : (y : Int) % 256 = y := by omega
     have hsh : IntKind.u64.wrap (8 * (s : Int)) = ((8 * s : Nat) : Int) := by rw [IntKind.wrap_u64]; omega
     have J1 := Lib.hid (HK.out.alloc (.cells #[.int .u8 (y : Int)] 5))
     have X1 := Lib.hid (one_src (wr.alloc (.cells #[.int .u8 (y : Int)] 5)) wr.heap.size y ((cell_of_row _ _ _ _ _ _ (heap_alloc_last _ _)).trans rfl))
     have hlen1 : (zb ++ (be8 N8).take k).length = Mn := by rw [hMn, List.length_append, HZL.out, List.length_take, be8_len]; omega
     have J1r : RestV (wr.alloc (.cells #[.int .u8 (y : Int)] 5)) (.slice a Mn c) (zb ++ (be8 N8).take k) := J1.out.rest
     have HJ1r := Lib.hid J1r
     obtain ⟨zk, hzk⟩ : ∃ zk, zk = zb ++ (be8 N8).take k := ⟨_, rfl⟩
     have hzk2 : zb ++ (be8 N8).take (k + 1) = zk ++ [y] := by rw [be8_take _ _ (by omega), hy0, hzk, List.append_assoc]
     rw [← hzk] at J1 hlen1 HJ1r
     have HZK := Lib.hid hzk2; have HMN := Lib.hid hMn
     have hs7 : (s : Int) ≤ 7 := by omega
     clear hy0 hMn J1r hzk hzk2
     rw [e1]
     go_wp2_with (at_builtin; go_loud (first | (refine wpList_app (by rfl) (.tmp 26) (.tmp 34) (by rfl) _ _ (by rfl) (by rfl) zk [y] HJ1r.out X1.out (by simp; omega) ?_; intro v3 W3 R3 K3 N3; obtain ⟨va3, vc3, e3⟩ := R3.shape; subst e3; have J2 := Lib.hid (J1.out.app R3 K3 N3); clear R3 K3 N3)))
     have J3 : Hid (PadR w (.slice va3 (Mn + 1) vc3) (zb ++ (be8 N8).take (k + 1)) W3) := by
      have := J2.out
      rw [HZK.out]
      rwa [List.length_append, hlen1] at this
     go_roundg s
     case measure => omega
     case rel => exact ⟨k + 1, Mn + 1, va3, vc3, by go_num, by omega, rfl, by have := HMN.out; omega, J3⟩
  ·obtain ⟨m, hm⟩ : ∃ m : Nat, Ln % 64 = m := ⟨_, rfl⟩
   have h56 : (Ln : Int) % 64 = m := by omega
   have hm56 : ¬ (m : Int) = 56 := by
    have h1 : P = (119 - bs.length % 64) % 64 := HPD.out
    omega
   have J1 := Lib.hid (HJ.out.alloc (.cells #[.int .u8 0] 5))
   have X1 := Lib.hid (one_src (wr.alloc (.cells #[.int .u8 0] 5)) wr.heap.size 0 ((cell_of_row _ _ _ _ _ _ (heap_alloc_last _ _)).trans rfl))
   have hlen1 : (bs ++ [128] ++ List.replicate j 0).length = Ln := by rw [hLn]; simp; omega
   have HLN := Lib.hid hLn
   have J1r : RestV (wr.alloc (.cells #[.int .u8 0] 5)) (.slice a Ln c) (bs ++ [128] ++ List.replicate j 0) := J1.out.rest
   have HJ1r := Lib.hid J1r
   clear hm hLn J1r
   go_wp2_with (at_builtin; go_loud (first | (refine wpList_app (by rfl) (.tmp 15) (.tmp 16) (by rfl) _ _ (by rfl) (by rfl) (bs ++ [128] ++ List.replicate j 0) [0] HJ1r.out X1.out (by simp; omega) ?_; intro v3 W3 R3 K3 N3; obtain ⟨va3, vc3, e3⟩ := R3.shape; subst e3; have J2 := Lib.hid (J1.out.app R3 K3 N3); clear R3 K3 N3)))
   have J3 : Hid (PadR w (.slice va3 (bs.length + (j + 1 + 1)) vc3) (bs ++ [128] ++ List.replicate (j + 1) 0) W3) := by
    have := J2.out
    have e0 : bs ++ [128] ++ List.replicate j 0 ++ [0] = bs ++ [128] ++ List.replicate (j + 1) 0 := by rw [List.replicate_succ', List.append_assoc]
    have el : (bs ++ [128] ++ List.replicate (j + 1) 0).length = bs.length + (j + 1 + 1) := by simp only [List.length_append, List.length_cons, List.length_nil, List.length_replicate]; omega
    rw [e0, el] at this
    exact this
   go_roundg (P - (j + 1))
   case measure => omega
   case rel => exact ⟨j + 1, bs.length + (j + 1 + 1), va3, vc3, rfl, by omega, by omega, J3⟩
def sobj (l : List Nat) : Obj := .cells (wcells .u8 l) 68 (0, 0)
theorem nth_take (l : List Nat) (k i : Nat) (h : i < k) : nth (l.take k) i = nth l i := by
 unfold nth; rw [List.getD_eq_getElem?_getD, List.getD_eq_getElem?_getD, List.getElem?_take, if_pos h]
theorem array_at20 (a : Addr) (c : Nat) (w : World) : (Instr.arrayAt 68 (.slice (some a) 20 c)).run Tryz.prog w = .ok (.pointer (some a)) w := by kernel_rfl
theorem short_c (lv : Value) (pss : List (List Nat)) (w : World) (hp : Pcs w w.heap.size lv pss) (hby : ∀ y, y ∈ pss.flatten → y < 256) (hlen : pss.flatten.length ≤ 1000000000) (hpl : pss.length ≤ 1000000) :
 Calls Tryz.prog 40 #[lv] w fun e w' => e = .returned (.agg (wcells .u8 ((sha (sha pss.flatten)).take 20))) ∧ Below w.heap.size w w' := by
 have S0 := (St.nil w).alloc (sobj (List.replicate 20 0)) _ rfl
 have P1 := hp.keep (Keeps.of_below (F := fun _ => False) S0.below) (fun _ _ h => h)
 have CS1 := Lib.hid (twice_c lv pss _ (P1.mono S0.below.size (Nat.le_refl _)) hby hlen hpl)
 have hl1 := sha_len (sha pss.flatten)
 obtain ⟨d, hd⟩ : ∃ d, d = sha (sha pss.flatten) := ⟨_, rfl⟩
 rw [← hd] at CS1 hl1 ⊢
 have hl2 : (d.take 20).length = 20 := by rw [List.length_take, hl1]; decide
 have HL1 := Lib.hid hl1
 have xarr := array_at20
 clear hp hby hlen hpl P1 hd
 go_enter Tryz.func40, Tryz.ntmps40
 go_wp2_with fail
 refine CS1.out.mono ?_
 rintro e W1 ⟨rfl, hb⟩
 have S1 := S0.keep hb
 have S2 := S1.newh d
 have Z1 := Lib.hid (lastH W1 zobj _ rfl)
 obtain ⟨V, hV⟩ : ∃ V, V = (W1.alloc zobj).setRow W1.heap.size (wcells .u8 d) := ⟨_, rfl⟩
 rw [← hV] at S2
 have HV := Lib.hid hV
 have hrg : V.rangeAt W1.heap.size 0 (wcells .u8 (d.take 20)).toList := part_of_row (S2.get (List.Mem.head _)) _ (by
  have e : (wcells .u8 (d.take 20)).toList = (wcells .u8 d).toList.take 20 := by simp [wcells]
  rw [e, List.drop_zero, List.length_take, Array.length_toList, wcells_size, hl1]; rfl)
 have HRG := Lib.hid hrg
 have HG := Lib.hid (S2.get (List.Mem.tail _ (List.Mem.head _)))
 obtain ⟨s, hs⟩ : ∃ s, s = d.take 20 := ⟨_, rfl⟩
 rw [← hs] at HRG hl2
 have HS := Lib.hid hs
 have HL2 := Lib.hid hl2
 clear hb S1 hV S0 hrg hl2 hs
 go_wp2_with (first
  | (refine wpList_puth rfl (.tmp 3) (.tmp 5) rfl W1.heap.size rfl d (List.replicate 32 0) HL1.out (by simp) rfl Z1.out ?_; refine Eq.mp (congrArg (fun v => wpList _ _ _ _ _ v) HV.out) ?_)
  | (refine wpList_load_mid rfl 68 (.tmp 7) rfl W1.heap.size 0 rfl (wcells .u8 s).toList _ HRG.out Tryz.underlying68 rfl (by rw [Array.length_toList, wcells_size, HL2.out]; kernel_rfl) ?_; rw [Array.toArray_toList])
  | (refine wpList_store_row rfl 68 (.tmp 2) (.tmp 8) rfl w.heap.size (wcells .u8 s) rfl rfl 68 (wcells .u8 (List.replicate 20 0)) HG.out (by rw [wcells_size, HL2.out]; kernel_rfl) (by rw [wcells_size, wcells_size, HL2.out, List.length_replicate]) (wcells_one _ _) ?_))
 exact bodyPost_ret (results_cell_row rfl _ _ w.heap.size 68 (wcells .u8 s) (0, 0) _ rfl (setRow_heap _ _ _ _ _ _ HG.out) Tryz.underlying68 rfl (by rw [wcells_size, HL2.out]; kernel_rfl)) rfl (⟨by rw [HS.out], below_setRow S2.below (Nat.le_refl _) _⟩)
structure ShInv (w : World) (g3 g4 : Nat) (d : List Nat) (k : Nat) (wr : World) : Prop where
 below : Below w.heap.size w wr
 res : wr.heap[w.heap.size]? = some (sobj (List.replicate 20 0))
 src : wr.heap[g3]? = some (hobj d)
 row : ∃ l : List Nat, l.length = 20 ∧ (∀ j, j < k → nth l j = nth d j) ∧ wr.heap[g4]? = some (sobj l)
theorem ShInv.step {w wr : World} {g3 g4 : Nat} {d : List Nat} {k : Nat} (h : ShInv w g3 g4 d k wr) (hk : k < 20) (h3 : g3 ≠ g4) (h4 : w.heap.size < g4) : ShInv w g3 g4 d (k + 1) (wr.setCell ⟨g4, k, none⟩ (vcz (nth d k))) := by
 obtain ⟨l, hl, hp, hr⟩ := h.row
 refine ⟨h.below.setCell (by show w.heap.size ≤ g4; omega) _, (heap_setCell_other _ _ _ _ (by show w.heap.size ≠ g4; omega)).trans h.res, (heap_setCell_other _ _ _ _ (by show g3 ≠ g4; exact h3)).trans h.src, l.set k (nth d k), by simpa using hl, fun j hj => ?_, set_w hr k _⟩
 rw [nth_set _ _ _ _ (by omega)]
 split
 ·next e => rw [e]
 ·exact hp j (by omega)
theorem RestV.piece {bs : List Nat} (h : RestV W v bs) : PieceV W W.heap.size v bs := by
 rcases h with ⟨rfl, rfl⟩ | ⟨g, off, cap, cur, rfl, hg, h1, h2, h3⟩
 ·exact Or.inl ⟨⟨_, _, rfl⟩, rfl⟩
 ·exact Or.inr ⟨g, off, cap, lt_of_block hg, rfl, fun i hi => (cell_of_row _ _ _ _ _ _ hg).trans (h3 i hi)⟩
theorem PadR.keep {z : List Nat} (h : PadR w v z W) (hb : Below W.heap.size W W') : PadR w v z W' :=
 ⟨below_step h.below hb, h.rest.keep (F := fun _ => False) (Keeps.of_below hb) (fun _ _ h => h), h.own⟩
theorem bytes_elem : Tryz.prog.elem 22 = 5 := by kernel_rfl
theorem bytes_slice : Tryz.prog.underlying 22 = some (.slice (Tryz.prog.elem 22)) := by rw [bytes_elem]; exact Tryz.underlying22
theorem byte_size (w : World) : (Go.sizeOf (Tryz.prog.elem 22)).run Tryz.prog w = .ok 1 w := by rw [bytes_elem]; exact Tryz.sizeOf5 w
def nst (l : List Nat) : ByteArray := ⟨(l.map UInt8.ofNat).toArray⟩
theorem nst_app (a b : List Nat) : nst a ++ nst b = nst (a ++ b) := by
 apply ByteArray.ext
 simp [nst, ByteArray.data_append]
theorem nst_size (l : List Nat) : (nst l).size = l.length := by simp [nst, ByteArray.size]
theorem bln_nst (l : List Nat) (h : ∀ y, y ∈ l → y < 256) : (nst l).data.toList.map UInt8.toNat = l := by
 unfold nst
 simp only [List.map_map]
 rw [show (List.map (UInt8.toNat ∘ UInt8.ofNat) l) = List.map id l from List.map_congr_left (fun x hx => by
  have := h x hx
  simp; omega), List.map_id]
theorem run_str {S : Nat → Prop} {bs : List Nat} (h : PieceS W S v bs) : (convert 22 9 v).run Tryz.prog W = .ok (.string (nst bs)) W := by
 rcases h with ⟨⟨a, c, rfl⟩, rfl⟩ | ⟨b, o, c, -, rfl, h⟩
 ·cases a with
  | none => exact Lib.run_convert_nil_bytes W _ _ 5 c Tryz.underlying22 Tryz.underlying5 Tryz.underlying9
  | some a =>
   rw [run_convert_bytes_string W 22 9 5 (some a) 0 c Tryz.underlying22 Tryz.underlying5 Tryz.underlying9]
   simp [Conv.bytesToString, loadCells, nst]
   rfl
 ·rw [run_convert_bytes_arg W 22 5 Tryz.underlying22 Tryz.underlying5 b o bs.length c (bs.map Int.ofNat) (by simp) (fun i hi => by
   rw [h i hi, List.getD_eq_getElem?_getD, List.getElem?_map, nth_get bs i hi]; rfl) 9 Tryz.underlying9]
  congr 2
  apply ByteArray.ext
  apply Array.toList_inj.1
  rw [strOfNums_data]
  simp [nst]
theorem cell_same {W W' : World} {b o : Nat} (h : W'.heap[b]? = W.heap[b]?) : W'.cell? ⟨b, o, none⟩ = W.cell? ⟨b, o, none⟩ := World.cell?_of_block (a := ⟨b, o, none⟩) h
theorem PieceS.stays {W W' : World} {S : Nat → Prop} {bs : List Nat} (h : PieceS W S v bs) (hb : ∀ b, S b → b < W.heap.size) (hk : ∀ b, S b → b < W.heap.size → W'.heap[b]? = W.heap[b]?) : PieceS W' S v bs := by
 rcases h with h | ⟨b, o, c, h1, rfl, h⟩
 ·exact Or.inl h
 ·exact Or.inr ⟨b, o, c, h1, rfl, fun i hi => (cell_same (hk b h1 (hb b h1))).trans (h i hi)⟩
def xpc (B : Nat) (v : Value) (bs : List Nat) : Xt := ⟨false, fun b => b < B, fun W => B ≤ W.heap.size ∧ PieceV W B v bs, fun _ _ hk hs h => ⟨Nat.le_trans h.1 hs, PieceS.stays h.2 (fun _ hb => Nat.lt_of_lt_of_le hb h.1) hk⟩⟩
def xps (S : Nat → Prop) (v : Value) (bs : List Nat) : Xt := ⟨false, S, fun W => (∀ b, S b → b < W.heap.size) ∧ PieceS W S v bs, fun _ _ hk hs h => ⟨fun b hb => Nat.lt_of_lt_of_le (h.1 b hb) hs, PieceS.stays h.2 h.1 hk⟩⟩
theorem PcsS.stays {W W' : World} {S : Nat → Prop} {pss : List (List Nat)} (h : PcsS W S v pss) (hk : ∀ b, S b → b < W.heap.size → W'.heap[b]? = W.heap[b]?) (hs : W.heap.size ≤ W'.heap.size) : PcsS W' S v pss := by
 refine ⟨fun b hb => Nat.lt_of_lt_of_le (h.le b hb) hs, ?_⟩
 have hle := h.le
 rcases h.shape with h1 | ⟨lb, lo, c, hb, rfl, h2⟩
 ·exact Or.inl h1
 ·refine Or.inr ⟨lb, lo, c, hb, rfl, fun i ys hi => ?_⟩
  obtain ⟨xv, h3, h4⟩ := h2 i ys hi
  exact ⟨xv, (cell_same (hk lb hb (hle lb hb))).trans h3, PieceS.stays h4 hle hk⟩
def xpcs (S : Nat → Prop) (v : Value) (pss : List (List Nat)) : Xt := ⟨false, S, fun W => PcsS W S v pss, fun _ _ hk hs h => PcsS.stays h hk hs⟩
theorem PieceS.mono {S S' : Nat → Prop} {bs : List Nat} (h : PieceS W S v bs) (hS : ∀ b, S b → S' b) : PieceS W S' v bs := h.imp id (fun ⟨b, o, c, h1, h2, h3⟩ => ⟨b, o, c, hS b h1, h2, h3⟩)
theorem PcsS.mono {S S' : Nat → Prop} {pss : List (List Nat)} (h : PcsS W S v pss) (hS : ∀ b, S b → S' b) (hle : ∀ b, S' b → b < W.heap.size) : PcsS W S' v pss :=
 ⟨hle, h.shape.imp id (fun ⟨lb, lo, c, h1, h2, h3⟩ => ⟨lb, lo, c, hS _ h1, h2, fun i ys hi => by
  obtain ⟨xv, h4, h5⟩ := h3 i ys hi
  exact ⟨xv, h4, h5.mono hS⟩⟩)⟩
theorem Sx.pc (h : Sx w L X W) (i : Nat) {B : Nat} {bs : List Nat} (hi : X[i]? = some (xpc B v bs)) : PieceV W W.heap.size v bs :=
 have k : B ≤ W.heap.size ∧ PieceV W B v bs := h.x i hi
 PieceV.mono k.2 k.1
theorem Sx.ps (h : Sx w L X W) (i : Nat) {S : Nat → Prop} {bs : List Nat} (hi : X[i]? = some (xps S v bs)) : PieceV W W.heap.size v bs :=
 have k : (∀ b, S b → b < W.heap.size) ∧ PieceS W S v bs := h.x i hi
 PieceS.mono k.2 k.1
theorem Sx.pcs (h : Sx w L X W) (i : Nat) {S : Nat → Prop} {pss : List (List Nat)} (hi : X[i]? = some (xpcs S v pss)) : Pcs W W.heap.size v pss :=
 have k : PcsS W S v pss := h.x i hi
 PcsS.mono k k.le (fun _ h => h)
theorem RestV.stays {W W' : World} {bs : List Nat} (h : RestV W v bs) (hk : ∀ b, v.ownBlock = some b → b < W.heap.size → W'.heap[b]? = W.heap[b]?) : RestV W' v bs := by
 rcases h with h | ⟨g, off, cap, cur, rfl, hg, h1, h2, h3⟩
 ·exact Or.inl h
 ·exact Or.inr ⟨g, off, cap, cur, rfl, (hk g rfl (lt_of_block hg)).trans hg, h1, h2, h3⟩
theorem RestV.lt {bs : List Nat} (h : RestV W v bs) : ∀ b, v.ownBlock = some b → b < W.heap.size := fun b hb => by
 rcases h with ⟨rfl, -⟩ | ⟨g, off, cap, cur, rfl, hg, -⟩
 ·cases hb
 ·simp [Value.ownBlock] at hb; subst hb; exact lt_of_block hg
def xown (w : World) (v : Value) (bs : List Nat) : Xt := ⟨true, fun b => v.ownBlock = some b, fun W => RestV W v bs ∧ ∀ b, v.ownBlock = some b → w.heap.size ≤ b, fun _ _ hk _ h => ⟨RestV.stays h.1 hk, h.2⟩⟩
theorem Sx.own (h : Sx w L X W) (i : Nat) {bs : List Nat} (hi : X[i]? = some (xown w v bs)) : RestV W v bs := (show RestV W v bs ∧ _ from h.x i hi).1
theorem Sx.app (h : Sx w L X W) (i : Nat) {v v' : Value} {bs zs : List Nat} (hi : X[i]? = some (xown w v bs)) (R : RestV W' v' zs) (K : Keeps (fun b => v.ownBlock = some b) W W') (Nn : ∀ b, v'.ownBlock = some b → v.ownBlock = some b ∨ b = W.heap.size) : Sx w L (X.set i (xown w v' zs)) W' := by
 have ho : RestV W v bs ∧ ∀ b, v.ownBlock = some b → w.heap.size ≤ b := h.x i hi
 refine h.writeX i hi rfl rfl ⟨R, fun b hb => ?_⟩ (fun b hb => ?_) (fun b hb => R.lt b hb) (fun b hb => ho.2 b hb) K.os K.tape K.output K.size K.block
 ·rcases Nn b hb with h1 | h1
  ·exact ho.2 b h1
  ·rw [h1]; exact h.below.size
 ·rcases Nn b hb with h1 | h1
  ·exact Or.inl h1
  ·exact Or.inr (by omega)
theorem Sx.gave (h : Sx w L X W) {bs : List Nat} (p : PadR W v bs W') : Sx w L (xown w v bs :: X) W' :=
 h.madeX p.below _ ⟨p.rest, fun b hb => Nat.le_trans h.below.size (p.own b hb)⟩ (fun b hb => p.own b hb) (fun b hb => p.rest.lt b hb)
theorem Sx.padr (h : Sx w L X W) (i : Nat) {bs : List Nat} (hi : X[i]? = some (xown w v bs)) : PadR w v bs W :=
 have ho : RestV W v bs ∧ ∀ b, v.ownBlock = some b → w.heap.size ≤ b := h.x i hi
 ⟨h.below, ho.1, ho.2⟩
theorem wp_app {o : Oper} {a : Act} (S : Sx w L X W) (i : Nat) (s x : Operand)
 (ho : o.op = .call { callee := .builtin .append, args := #[s, x], argTypes := #[22, 22] }) {v xv : Value} (hsv : a.eval s = v) (hxv : a.eval x = xv) {bs ys : List Nat} (hi : X[i]? = some (xown w v bs)) (hs : SrcB W xv ys) (hn : bs.length + ys.length ≤ 70368744177664)
 (h : ∀ v' W', Sx w L (X.set i (xown w v' (bs ++ ys))) W' → K (a.put o.dst v') W') : o.wp Tryz.prog a W K Q := by
 obtain ⟨v', W', hr, h2, h3, h4⟩ := run_app o.type W v xv bs ys (S.own i hi) hs hn
 unfold Oper.wp execOp
 simp only [ho, resolve, invoke, builtin, Sem.run_bind, Sem.run_pure, Result.andThen_ok, List.map_toArray, List.map_cons, List.map_nil, hsv, hxv, hr]
 exact h _ _ (S.app i hi h2 h3 h4)
theorem Sx.empty (h : Sx w L X W) : Sx w L (xown w (.slice (some ⟨W.heap.size, 0, none⟩) 0 0) [] :: X) (W.alloc (.cells #[] 5)) := h.gave (PadR.new W)
theorem piece_cut {S : Nat → Prop} {a : Option Addr} {n c : Nat} {bs : List Nat} (h : PieceS W S (.slice a n c) bs) (lo hi : Nat) (h1 : lo ≤ hi) (h2 : hi ≤ bs.length) (hc : bs.length ≤ c) :
 ∃ a', sliced a lo hi c 1 = .slice a' (hi - lo) (c - lo) ∧ PieceS W S (.slice a' (hi - lo) (c - lo)) ((bs.drop lo).take (hi - lo)) := by
 have hl : ((bs.drop lo).take (hi - lo)).length = hi - lo := by rw [List.length_take, List.length_drop]; omega
 refine ⟨_, rfl, ?_⟩
 by_cases h0 : hi = lo
 ·subst h0
  refine Or.inl ⟨⟨_, _, by rw [Nat.sub_self]⟩, by rw [Nat.sub_self]; rfl⟩
 ·rcases h with ⟨-, h3⟩ | ⟨b, o, c', hb, h3, h4⟩
  ·exfalso; rw [h3] at h2; simp at h2; omega
  ·injection h3 with e1 e2 e3
   subst e1
   rw [if_neg (by omega)]
   refine Or.inr ⟨b, o + lo, c - lo, hb, ?_, fun i hi' => ?_⟩
   ·have : (⟨b, o, none⟩ : Addr).add (lo * 1) = ⟨b, o + lo, none⟩ := by unfold Addr.add; split <;> simp_all
    simp only [Option.map_some, this, hl]
   ·rw [hl] at hi'
    rw [nth_take _ _ _ hi', nth_drop, Nat.add_assoc]; exact h4 (lo + i) (by omega)
section cuts
variable {o : Oper} {a : Act} {K : Act → World → Prop} {Q : Exit → Act → World → Prop} {W : World} {S : Nat → Prop} {A : Option Addr} {n c : Nat} {bs : List Nat} {x y z : Operand} {k k' : IntKind}
end cuts
theorem Sx.lies (h : Sx w L X W) (i : Nat) {q : Xt} (hi : X[i]? = some q) {B : Nat} {n c : Nat} {bs : List Nat} (hq : q = xpc B (.slice A n c) bs) (h0 : 0 < bs.length) : ∃ b o, A = some ⟨b, o, none⟩ := by
 subst hq
 rcases h.pc i hi with ⟨-, h1⟩ | ⟨b, o, c', -, h1, -⟩
 ·rw [h1] at h0; simp at h0
 ·injection h1 with e; exact ⟨b, o, e⟩
theorem PieceS.at {S : Nat → Prop} {b o n c : Nat} {bs : List Nat} (h : PieceS W S (.slice (some ⟨b, o, none⟩) n c) bs) (k a : Nat) (hk : k < bs.length) (ha : a = o + k) : W.cell? ⟨b, a, none⟩ = some (.int .u8 ((nth bs k : Nat) : Int)) := by
 subst ha
 rcases h with ⟨-, h1⟩ | ⟨b', o', c', -, h1, h2⟩
 ·rw [h1] at hk; simp at hk
 ·injection h1 with e; injection e with e; injection e with e1 e2; subst e1 e2; exact h2 k hk
theorem Sx.cutpc (h : Sx w L X W) (i : Nat) {B : Nat} {v v' : Value} {bs bs' : List Nat} (hi : X[i]? = some (xpc B v bs)) (hp : PieceS W (fun b => b < B) v' bs') : Sx w L (xpc B v' bs' :: X) W :=
 h.dup i hi rfl _ rfl (fun _ h => h) ⟨(show B ≤ W.heap.size ∧ _ from h.x i hi).1, hp⟩
theorem Sx.pcS (h : Sx w L X W) (i : Nat) {B : Nat} {bs : List Nat} (hi : X[i]? = some (xpc B v bs)) : PieceS W (fun b => b < B) v bs := (show B ≤ W.heap.size ∧ PieceV W B v bs from h.x i hi).2
theorem Sx.psS (h : Sx w L X W) (i : Nat) {S : Nat → Prop} {bs : List Nat} (hi : X[i]? = some (xps S v bs)) : PieceS W S v bs := (show (∀ b, S b → b < W.heap.size) ∧ PieceS W S v bs from h.x i hi).2
def RestG (E : TypeId) (W : World) (v : Value) (cs : List Value) : Prop :=
 (v = .slice none 0 0 ∧ cs = []) ∨ ∃ g off cap cur, v = .slice (some ⟨g, off, none⟩) cs.length cap ∧ W.heap[g]? = some (.cells cur E (0, 0)) ∧ cs.length ≤ cap ∧ off + cap ≤ cur.size ∧ (∀ i, i < cs.length → cur[off + i]? = cs[i]?)
theorem RestG.shape {E : TypeId} {cs : List Value} (h : RestG E W v cs) : ∃ a c, v = .slice a cs.length c := by
 rcases h with ⟨rfl, rfl⟩ | ⟨g, off, cap, cur, rfl, -⟩
 ·exact ⟨_, _, rfl⟩
 ·exact ⟨_, _, rfl⟩
theorem RestG.stays {E : TypeId} {W W' : World} {cs : List Value} (h : RestG E W v cs) (hk : ∀ b, v.ownBlock = some b → b < W.heap.size → W'.heap[b]? = W.heap[b]?) : RestG E W' v cs := by
 rcases h with h | ⟨g, off, cap, cur, rfl, hg, h1, h2, h3⟩
 ·exact Or.inl h
 ·exact Or.inr ⟨g, off, cap, cur, rfl, (hk g rfl (lt_of_block hg)).trans hg, h1, h2, h3⟩
theorem RestG.lt {E : TypeId} {cs : List Value} (h : RestG E W v cs) : ∀ b, v.ownBlock = some b → b < W.heap.size := fun b hb => by
 rcases h with ⟨rfl, -⟩ | ⟨g, off, cap, cur, rfl, hg, -⟩
 ·cases hb
 ·simp [Value.ownBlock] at hb; subst hb; exact lt_of_block hg
theorem RestG.at {E : TypeId} {g off n c : Nat} {cs : List Value} (h : RestG E W (.slice (some ⟨g, off, none⟩) n c) cs) (i a : Nat) (x : Value) (hi : cs[i]? = some x) (ha : a = off + i) : W.cell? ⟨g, a, none⟩ = some x := by
 subst ha
 have hlt : i < cs.length := (List.getElem?_eq_some_iff.1 hi).1
 rcases h with ⟨h1, -⟩ | ⟨g', off', cap, cur, h1, hg, -, -, h3⟩
 ·cases h1
 ·injection h1 with e; injection e with e; injection e with e1 e2; subst e1 e2
  exact (cell_of_row _ _ _ _ _ _ hg).trans ((h3 i hlt).trans hi)
theorem RestG.based {E : TypeId} {n c : Nat} {cs : List Value} (h : RestG E W (.slice A n c) cs) (h0 : 0 < cs.length) : ∃ b o, A = some ⟨b, o, none⟩ := by
 rcases h with ⟨-, h1⟩ | ⟨g, off, cap, cur, h1, -⟩
 ·rw [h1] at h0; simp at h0
 ·injection h1 with e; exact ⟨g, off, e⟩
theorem RestG.caple {E : TypeId} {n c : Nat} {cs : List Value} (h : RestG E W (.slice A n c) cs) : cs.length ≤ c ∧ n = cs.length := by
 rcases h with ⟨h1, h2⟩ | ⟨g, off, cap, cur, h1, -, h2, -⟩
 ·injection h1 with e1 e2 e3; subst h2 e2 e3; exact ⟨Nat.le_refl _, rfl⟩
 ·injection h1 with e1 e2 e3; subst e3; exact ⟨h2, e2⟩
def xog (E : TypeId) (w : World) (v : Value) (cs : List Value) : Xt := ⟨true, fun b => v.ownBlock = some b, fun W => RestG E W v cs ∧ ∀ b, v.ownBlock = some b → w.heap.size ≤ b, fun _ _ hk _ h => ⟨RestG.stays h.1 hk, h.2⟩⟩
theorem Sx.og (h : Sx w L X W) (i : Nat) {E : TypeId} {cs : List Value} (hi : X[i]? = some (xog E w v cs)) : RestG E W v cs := (show RestG E W v cs ∧ _ from h.x i hi).1
theorem Sx.ogown (h : Sx w L X W) (i : Nat) {E : TypeId} {cs : List Value} (hi : X[i]? = some (xog E w v cs)) : ∀ b, v.ownBlock = some b → w.heap.size ≤ b := (show RestG E W v cs ∧ _ from h.x i hi).2
theorem Sx.nilog (h : Sx w L X W) (E : TypeId) : Sx w L (xog E w (.slice none 0 0) [] :: X) W :=
 h.addX _ ⟨Or.inl ⟨rfl, rfl⟩, fun b hb => by cases hb⟩ (fun _ _ hb => by cases hb) (fun _ hb => by cases hb) (fun _ _ _ _ hb => by cases hb)
theorem Sx.rowog (h : Sx w L X W) (E : TypeId) (cs : List Value) (n : Nat) (hn : n = cs.length) : Sx w L (xog E w (.slice (some ⟨W.heap.size, 0, none⟩) n n) cs :: X) (W.alloc (.cells cs.toArray E)) := by
 subst hn
 refine h.madeX ((Below.refl _ _).alloc (Nat.le_refl _) _) _ ⟨Or.inr ⟨W.heap.size, 0, cs.length, _, rfl, lastH _ _ _ rfl, Nat.le_refl _, by simp, fun i hi => by simp⟩, fun b hb => ?_⟩ (fun b hb => ?_) (fun b hb => ?_)
 ·simp [Value.ownBlock] at hb; have := h.below.size; omega
 ·have hb : some W.heap.size = some b := hb
  injection hb with hb; omega
 ·have hb : some W.heap.size = some b := hb
  injection hb with hb; simp; omega
theorem Sx.appg (h : Sx w L X W) (i : Nat) {E : TypeId} {v v' : Value} {cs zs : List Value} (hi : X[i]? = some (xog E w v cs)) (R : RestG E W' v' zs) (K : Keeps (fun b => v.ownBlock = some b) W W') (Nn : ∀ b, v'.ownBlock = some b → v.ownBlock = some b ∨ b = W.heap.size) : Sx w L (X.set i (xog E w v' zs)) W' := by
 have ho : RestG E W v cs ∧ ∀ b, v.ownBlock = some b → w.heap.size ≤ b := h.x i hi
 refine h.writeX i hi rfl rfl ⟨R, fun b hb => ?_⟩ (fun b hb => ?_) (fun b hb => R.lt b hb) (fun b hb => ho.2 b hb) K.os K.tape K.output K.size K.block
 ·rcases Nn b hb with h1 | h1
  ·exact ho.2 b h1
  ·rw [h1]; exact h.below.size
 ·rcases Nn b hb with h1 | h1
  ·exact Or.inl h1
  ·exact Or.inr (by omega)
theorem runG_room {T E : TypeId} (hT : Tryz.prog.underlying T = some (.slice E)) (ty : TypeId) (i : TypeInfo) (hi : Tryz.prog.info? E = some i) (h1 : i.size = 1) (W : World) (g off n cap : Nat) (cur : Array Value) (hg : W.heap[g]? = some (.cells cur E (0, 0))) (x : Value) (m : Nat) (news : List Value) (hs : Src Tryz.prog 1 T x m news W)
 (hroom : n + m ≤ cap) (hfit : off + cap ≤ cur.size) :
 (Builtin.append_ #[T, T] ty #[.slice (some ⟨g, off, none⟩) n cap, x]).run Tryz.prog W = .ok (.slice (some ⟨g, off, none⟩) (n + m) cap) (W.setRow g (cur.toList.take (off + n) ++ news ++ cur.toList.drop (off + n + news.length)).toArray) := by
 have hl := hs.newsLen
 have hst := run_storeCells_at Tryz.prog g (off + n) E news 0 cur W hg (by omega) hs.one
 simp only [Nat.add_zero] at hst
 rcases hs.kind with ⟨e', hk⟩ | hk <;> simp [Builtin.append_, run_underlying hT, sizeOf, typeInfo, hi, h1, hs.len, hroom, hs.cells, Addr.add_lit, hst]
theorem runG_nothing {T E : TypeId} (hT : Tryz.prog.underlying T = some (.slice E)) (ty : TypeId) (i : TypeInfo) (hi : Tryz.prog.info? E = some i) (h1 : i.size = 1) (W : World) (base : Option Addr) (n cap : Nat) (hle : n ≤ cap) (x : Value) (hs : Src Tryz.prog 1 T x 0 [] W) :
 (Builtin.append_ #[T, T] ty #[.slice base n cap, x]).run Tryz.prog W = .ok (.slice base n cap) W := by
 rcases hs.kind with ⟨e', hk⟩ | hk <;> cases base <;> simp [Builtin.append_, run_underlying hT, sizeOf, typeInfo, hi, h1, hs.len, hle, hs.cells, storeCells]
def Z0 (v : Value) : Prop := ∀ b o m n c, v = .slice (some ⟨b, o, m⟩) n c → o = 0
theorem runG_app {T E : TypeId} (hT : Tryz.prog.underlying T = some (.slice E)) {z : Value} {sb' : Nat} (hE : (Tryz.prog.info? E).map (fun i => (i.zero, i.size, i.bytes)) = some (some z, 1, sb')) (hzs : z.cells.size = 1) (ty : TypeId) (W : World) (v x : Value) (cs ys : List Value) (hv : RestG E W v cs) (hs : Src Tryz.prog 1 T x ys.length ys W) (hn : (cs.length + ys.length) * sb' ≤ 70368744177664) (hn2 : cs.length + ys.length ≤ 1000000000000) :
 ∃ v' W', (Builtin.append_ #[T, T] ty #[v, x]).run Tryz.prog W = .ok v' W' ∧ RestG E W' v' (cs ++ ys) ∧ Keeps (fun b => v.ownBlock = some b) W W' ∧ (∀ b, v'.ownBlock = some b → v.ownBlock = some b ∨ b = W.heap.size) ∧ (Z0 v → Z0 v') := by
 obtain ⟨i, hi, hz, h1, h2⟩ := info_parts hE
 have hsm : ∀ k, k = cs.length + ys.length → ((k : Nat) : Int) ≤ 9223372036854775807 := fun k hk => by omega
 have grow : ∀ (base : Option Addr) (cap : Nat), v = .slice base cs.length cap → cap < cs.length + ys.length → (Builtin.firstCells i.size cs.length (.slice base cs.length cap)).run Tryz.prog W.drew = .ok cs.toArray W.drew →
  ∃ v' W', (Builtin.append_ #[T, T] ty #[v, x]).run Tryz.prog W = .ok v' W' ∧ RestG E W' v' (cs ++ ys) ∧ Keeps (fun b => v.ownBlock = some b) W W' ∧ (∀ b, v'.ownBlock = some b → v.ownBlock = some b ∨ b = W.heap.size) ∧ (Z0 v → Z0 v') := by
  rintro base cap rfl hlt hold
  have hfit : Builtin.nextslicecap (cs.length + ys.length) cap * i.bytes ≤ 281474976710656 := growslice_fits (by omega) (by rw [h2]; omega)
  have hr := run_append_grow_src (P := Tryz.prog) (w := W) T T ty E i z hT hi hz base cs.length cap cs hold x ys.length ys (by rw [h1]; exact hs) hlt (hsm _ rfl) hfit
  have hge := grownCap_ge W (cs.length + ys.length) cap E
  generalize grownCap W (cs.length + ys.length) cap E = gc at hr hge
  refine ⟨_, _, hr, Or.inr ⟨W.heap.size, 0, gc, _, by rw [List.length_append], heap_alloc_new W.drew _, by rw [List.length_append]; exact hge, ?_, ?_⟩, ?_, ?_⟩
  ·simp only [Array.size_append, List.size_toArray, List.length_append, size_zeroCells, hzs]
   omega
  ·intro k hk
   rw [Nat.zero_add, Array.getElem?_append_left (by simpa using hk), List.getElem?_toArray]
  ·exact Keeps.of_below ((Below.refl _ _).drew.alloc (Nat.le_refl _) _)
  ·exact ⟨fun b hb => by simp [Value.ownBlock] at hb; exact Or.inr hb.symm, fun _ b o m n c e => by cases e; rfl⟩
 rcases hv with ⟨rfl, rfl⟩ | ⟨g, off, cap, cur, rfl, hg, hc1', hc2, hc3⟩
 ·by_cases hm : ys.length = 0
  ·obtain rfl : ys = [] := List.eq_nil_of_length_eq_zero hm
   have hr := runG_nothing hT ty i hi h1 W none 0 0 (Nat.le_refl _) x hs
   exact ⟨_, _, hr, Or.inl ⟨rfl, rfl⟩, Keeps.refl _ _, fun b hb => Or.inl hb, id⟩
  ·exact grow none 0 rfl (by simp; omega) (run_firstCells_none (P := Tryz.prog) W.drew i.size 0 0 0)
 ·by_cases hroom : cs.length + ys.length ≤ cap
  ·have hr := runG_room hT ty i hi h1 W g off cs.length cap cur hg x ys.length ys hs hroom hc2
   refine ⟨_, _, hr, Or.inr ⟨g, off, cap, _, by rw [List.length_append], setRow_heap W g cur _ _ _ hg, by rw [List.length_append]; exact hroom, ?_, ?_⟩, ?_, ?_⟩
   ·simp only [List.size_toArray, List.length_append, List.length_take, List.length_drop, Array.length_toList]; omega
   ·intro k hk
    rw [List.getElem?_toArray]
    have htl : (List.take (off + cs.length) cur.toList).length = off + cs.length := by simp; omega
    by_cases hkb : k < cs.length
    ·rw [List.append_assoc, List.getElem?_append_left (by rw [htl]; omega), List.getElem?_take, if_pos (by omega), List.getElem?_append_left hkb]
     have := hc3 k hkb
     simpa using this
    ·rw [List.length_append] at hk
     rw [List.append_assoc, List.getElem?_append_right (by rw [htl]; omega), htl, List.getElem?_append_left (by omega), show off + k - (off + cs.length) = k - cs.length by omega, List.getElem?_append_right (by omega)]
   ·exact (Keeps.refl _ W).setRow _ (Or.inl rfl)
   ·exact ⟨fun b hb => Or.inl hb, fun h b o m n c e => by cases e; exact h _ _ _ _ _ rfl⟩
  ·refine grow (some ⟨g, off, none⟩) cap rfl (by omega) ?_
   rw [h1]
   exact run_firstCells_some (P := Tryz.prog) W.drew 1 cs.length ⟨g, off, none⟩ cs.length cap cs (by rw [Nat.mul_one]) (fun j u hj => by
    have hl : j < cs.length := (List.getElem?_eq_some_iff.1 hj).1
    have hadd : (⟨g, off, none⟩ : Addr).add j = ⟨g, off + j, none⟩ := by unfold Addr.add; split <;> simp_all
    rw [hadd, ← hj]
    exact (cell_of_row W g (off + j) cur _ _ hg).trans (hc3 j hl))
theorem wp_appg {o : Oper} {a : Act} (S : Sx w L X W) (i : Nat) {T E : TypeId} (hT : Tryz.prog.underlying T = some (.slice E)) {z : Value} {sb' : Nat} (hE : (Tryz.prog.info? E).map (fun i => (i.zero, i.size, i.bytes)) = some (some z, 1, sb')) (hzs : z.cells.size = 1) (s x : Operand)
 (ho : o.op = .call { callee := .builtin .append, args := #[s, x], argTypes := #[T, T] }) {v : Value} {b n c : Nat} (hsv : a.eval s = v) (hxv : a.eval x = .slice (some ⟨b, 0, none⟩) n c) {cs ys : List Value} (hi : X[i]? = some (xog E w v cs)) (hrw : W.heap[b]? = some (.cells ys.toArray E (0, 0))) (hn0 : n = ys.length) (h1 : ∀ u ∈ ys, u.oneCell' = true)
 (hn : (cs.length + ys.length) * sb' ≤ 70368744177664) (hn2 : cs.length + ys.length ≤ 1000000000000)
 (h : ∀ v' W', Sx w L (X.set i (xog E w v' (cs ++ ys))) W' → K (a.put o.dst v') W') : o.wp Tryz.prog a W K Q := by
 subst hn0
 have hs : Src Tryz.prog 1 T (.slice (some ⟨b, 0, none⟩) ys.length c) ys.length ys W := Src.ofSlice (w := W) hT ⟨b, 0, none⟩ _ c _ (by rw [Nat.mul_one]) (fun j u hj => by
  have hadd : (⟨b, 0, none⟩ : Addr).add j = ⟨b, 0 + j, none⟩ := by unfold Addr.add; split <;> simp_all
  rw [hadd, cell_of_row _ _ _ _ _ _ hrw, Nat.zero_add, List.getElem?_toArray]; exact hj) h1
 obtain ⟨v', W', hr, h2, h3, h4, -⟩ := runG_app hT hE hzs o.type W v _ cs ys (S.og i hi) hs hn hn2
 unfold Oper.wp execOp
 simp only [ho, resolve, invoke, builtin, Sem.run_bind, Sem.run_pure, Result.andThen_ok, List.map_toArray, List.map_cons, List.map_nil, hsv, hxv, hr]
 exact h _ _ (S.appg i hi h2 h3 h4)
theorem Sx.merge {q1 q2 : Xt} (h : Sx w L (q1 :: q2 :: X) W) (q' : Xt) (hex : q'.ex = false) (hf : ∀ b, q'.foot b → q1.foot b ∨ q2.foot b) (hq' : q'.holds W) : Sx w L (q' :: X) W := by
 have m1 : q1 ∈ q1 :: q2 :: X := List.mem_cons_self ..
 have m2 : q2 ∈ q1 :: q2 :: X := List.mem_cons_of_mem _ (List.mem_cons_self ..)
 obtain ⟨e1, e2⟩ := List.pairwise_cons.1 h.excl
 obtain ⟨e3, e4⟩ := List.pairwise_cons.1 e2
 have h0 : Sx w L X W := ⟨h.below, h.rows, h.apart, fun q hq => h.ext q (List.mem_cons_of_mem _ (List.mem_cons_of_mem _ hq)), fun p hp q hq => h.sep p hp q (List.mem_cons_of_mem _ (List.mem_cons_of_mem _ hq)), fun q hq => h.bound q (List.mem_cons_of_mem _ (List.mem_cons_of_mem _ hq)), e4⟩
 refine h0.addX q' hq' (fun p hp hb => ?_) (fun b hb => ?_) (fun r hr hrx b hb hrb => ?_)
 ·rcases hf _ hb with hb | hb
  ·exact h.sep p hp q1 m1 hb
  ·exact h.sep p hp q2 m2 hb
 ·rcases hf _ hb with hb | hb
  ·exact h.bound q1 m1 b hb
  ·exact h.bound q2 m2 b hb
 ·rw [hex, Bool.false_or] at hrx
  rcases hf _ hb with hb | hb
  ·exact e1 r (List.mem_cons_of_mem _ hr) (by rw [hrx]; simp) b hb hrb
  ·exact e3 r hr (by rw [hrx]; simp) b hb hrb
def xpl (S : Nat → Prop) (vs : List Value) (pss : List (List Nat)) : Xt := ⟨false, S, fun W => (∀ b, S b → b < W.heap.size) ∧ ∀ (i : Nat) v ps, vs[i]? = some v → pss[i]? = some ps → PieceS W S v ps, fun _ _ hk hs h => ⟨fun b hb => Nat.lt_of_lt_of_le (h.1 b hb) hs, fun i v ps hv hp => PieceS.stays (h.2 i v ps hv hp) h.1 hk⟩⟩
theorem Sx.nilpl (h : Sx w L X W) : Sx w L (xpl (fun _ => False) [] [] :: X) W :=
 h.addX _ ⟨fun _ hb => hb.elim, fun i v ps hv => by simp at hv⟩ (fun _ _ hb => hb) (fun _ hb => hb.elim) (fun _ _ _ _ hb => hb.elim)
section walkapp
variable {f : Func} {r i N : Nat} {Q : Exit → Act → World → Prop} {F : List (Nat × Value)} {w : World} {L : List (Nat × Obj)} {X : List Xt}
def appB (T : Array Value) (F : List (Nat × Value)) (o : Oper) : Option (Nat × TypeId × TypeId × Value × Value) := match o.dst, o.op with
 | some d, .call c => match c.callee, c.args.toList, c.argTypes.toList with
  | .builtin .append, [s, x], [t1, t2] => some (d, t1, t2, opd F T s, opd F T x)
  | _, _, _ => none
 | _, _ => none
theorem toList_two {α : Type} {a : Array α} {x y : α} (h : a.toList = [x, y]) : a = #[x, y] := by
 cases a; simp only at h; rw [h]
theorem At.app (n : Nat) (hs : List Nat) (d : Nat) {TT E : TypeId} {z : Value} {sb' : Nat} {v xv : Value} {cs ys : List Value} (j : Nat) (hj : X[j]? = some (xog E w v cs)) (hsrc : ∀ W, Sx w L X W → Src Tryz.prog 1 TT xv ys.length ys W) (hn : (cs.length + ys.length) * sb' ≤ 70368744177664) (hn2 : cs.length + ys.length ≤ 1000000000000)
 (k : ∀ y : Lt, y.n = (cs ++ ys).length → (Z0 v → Z0 y.sl) → At Tryz.prog f r (i + n + 1) Q N ((d, y.sl) :: F) w L (X.set j (xog E w y.sl (cs ++ ys))))
 (hT : Tryz.prog.underlying TT = some (.slice E) := by kernel_rfl) (hE : (Tryz.prog.info? E).map (fun i => (i.zero, i.size, i.bytes)) = some (some z, 1, sb') := by kernel_rfl) (hzs : z.cells.size = 1 := by rfl)
 (hk : ∀ T T', opL Tryz.prog f r i n L F hs T (appB T') = opR Tryz.prog f r i n L F hs T (d, TT, TT, v, xv) := by intro T T'; kernel_rfl) : At Tryz.prog f r i Q N F w L X := by
 intro hN T W hF hS
 refine op_run hN hF hS hk (fun T' F1 o hF' hF1 hb hw hdN => ?_)
 refine wpSeq_step fun K hK => ?_
 rw [if_pos hw]
 unfold appB at hb
 split at hb
 ·rename_i d' c e1 e2
  obtain ⟨callee, args, argTypes⟩ := c
  split at hb
  ·rename_i s x t1 t2 h1 h2 h3
   simp only at h1 h2 h3
   have h2 := toList_two h2
   have h3 := toList_two h3
   subst h1 h2 h3
   simp only [Option.some.injEq, Prod.mk.injEq] at hb
   obtain ⟨rfl, rfl, rfl, rfl, rfl⟩ := hb
   obtain ⟨v', W', hr, h4, h5, h6, h7⟩ := runG_app hT hE hzs o.type W _ _ cs ys (hS.og j hj) (hsrc W hS) hn hn2
   unfold Oper.wp
   rw [opd_eq hF1]
   unfold execOp
   simp only [e2, resolve, invoke, builtin, Sem.run_bind, Sem.run_pure, Result.andThen_ok, List.map_toArray, List.map_cons, List.map_nil, hr]
   obtain ⟨a, c, rfl⟩ := h4.shape
   show K ((⟨T', []⟩ : Act).put o.dst (.slice a (cs ++ ys).length c)) W'
   rw [e1]
   exact hK _ _ (k (lt0 a (cs ++ ys).length c) rfl h7 hN _ W' (hF'.put _ _ (hdN _ e1)) (hS.appg j hj h4 h5 h6))
  ·cases hb
 ·cases hb
end walkapp
theorem Sx.srcg (S : Sx w L X W) {TT E : TypeId} {ys : List Value} {g m c : Nat} (j : Nat) (hj : L[j]? = some (ro g ys.toArray E)) (hm : m = ys.length) (hT : Tryz.prog.underlying TT = some (.slice E) := by kernel_rfl) (h1 : ys.all (·.oneCell') = true := by rfl) : Src Tryz.prog 1 TT (.slice (some ⟨g, 0, none⟩) m c) ys.length ys W := by
 subst hm
 have hrw : W.heap[g]? = some (.cells ys.toArray E (0, 0)) := S.rows _ (List.mem_of_getElem? hj)
 exact Src.ofSlice (w := W) hT ⟨g, 0, none⟩ _ c _ (by rw [Nat.mul_one]) (fun j u hj => by
  have hadd : (⟨g, 0, none⟩ : Addr).add j = ⟨g, 0 + j, none⟩ := by unfold Addr.add; split <;> simp_all
  rw [hadd, cell_of_row _ _ _ _ _ _ hrw, Nat.zero_add, List.getElem?_toArray]; exact hj) (fun u hu => List.all_eq_true.1 h1 u hu)
theorem Sx.tl {p : Nat × Obj} (h : Sx w (p :: L) X W) : Sx w L X W := ⟨h.below, fun p hp => h.rows p (List.mem_cons_of_mem _ hp), (List.pairwise_cons.1 h.apart).2, h.ext, fun p hp => h.sep p (List.mem_cons_of_mem _ hp), h.bound, h.excl⟩
theorem Sx.ogrow {E : TypeId} {g n : Nat} {cs : List Value} (h : Sx w (ro g cs.toArray E :: L) X W) (hw : w.heap.size ≤ g) (hn : n = cs.length) : Sx w L (xog E w (.slice (some ⟨g, 0, none⟩) n n) cs :: X) W := by
 subst hn
 have hg : W.heap[g]? = some (.cells cs.toArray E (0, 0)) := h.rows _ (List.mem_cons_self ..)
 have h' : Sx w L X W := ⟨h.below, fun p hp => h.rows p (List.mem_cons_of_mem _ hp), (List.pairwise_cons.1 h.apart).2, h.ext, fun p hp => h.sep p (List.mem_cons_of_mem _ hp), h.bound, h.excl⟩
 have hb1 : ∀ b, (Value.slice (some ⟨g, 0, none⟩) cs.length cs.length).ownBlock = some b → b = g := fun b hb => by
  have hb : some g = some b := hb
  cases hb; rfl
 refine h'.addX _ ⟨Or.inr ⟨g, 0, cs.length, _, rfl, hg, Nat.le_refl _, by simp, fun i hi => by simp⟩, fun b hb => by rw [hb1 b hb]; exact hw⟩ (fun p hp e => ?_) (fun b hb => ?_) (fun q hq _ b hb hqb => ?_)
 ·exact (List.pairwise_cons.1 h.apart).1 p hp (hb1 _ e).symm
 ·rw [hb1 b hb]; exact lt_of_block hg
 ·rw [hb1 b hb] at hqb; exact h.sep _ (List.mem_cons_self ..) q hq hqb
section sem
variable {P : Program} {f : Func} {r i N : Nat} {Q : Exit → Act → World → Prop} {F : List (Nat × Value)} {w : World} {L : List (Nat × Obj)} {X : List Xt}
def semB (T : Array Value) (F : List (Nat × Value)) (o : Oper) : Option (Nat × Sem Next) := match o.dst with
 | some d => some (d, execOp (opd F T) o)
 | none => none
theorem At.semX {ι : Type} (n : Nat) (hs : List Nat) (d : Nat) (s : Sem Value) {V : ι → Value} {L' : ι → List (Nat × Obj)} {X' : ι → List Xt} (hv : ∀ W, Sx w L X W → ∃ y W', s.run P W = .ok (V y) W' ∧ Sx w (L' y) (X' y) W') (k : ∀ y, At P f r (i + n + 1) Q N ((d, V y) :: F) w (L' y) (X' y))
 (hk : ∀ T T', opL P f r i n L F hs T (semB T') = opR P f r i n L F hs T (d, (do pure (.value (← s)))) := by intro T T'; kernel_rfl) : At P f r i Q N F w L X := by
 intro hN T W hF hS
 refine op_run hN hF hS hk (fun T' F1 o hF' hF1 hb hw hdN => ?_)
 refine wpSeq_step fun K hK => ?_
 rw [if_pos hw]
 unfold semB at hb
 split at hb
 ·rename_i d' e1
  simp only [Option.some.injEq, Prod.mk.injEq] at hb
  obtain ⟨rfl, hb⟩ := hb
  obtain ⟨y, W', hr, hS'⟩ := hv W hS
  unfold Oper.wp
  rw [opd_eq hF1, hb]
  simp only [Sem.run_bind, Sem.run_pure, hr, Result.andThen_ok]
  show K ((⟨T', []⟩ : Act).put o.dst (V y)) W'
  rw [e1]
  exact hK _ _ (k y hN _ W' (hF'.put _ _ (hdN _ e1)) hS')
 ·cases hb
theorem At.sem (n : Nat) (hs : List Nat) (d : Nat) (s : Sem Value) (v : Value) (hv : ∀ W, Sx w L X W → s.run P W = .ok v W) (k : At P f r (i + n + 1) Q N ((d, v) :: F) w L X)
 (hk : ∀ T T', opL P f r i n L F hs T (semB T') = opR P f r i n L F hs T (d, (do pure (.value (← s)))) := by intro T T'; kernel_rfl) : At P f r i Q N F w L X :=
 At.semX (ι := Unit) (V := fun _ => v) (L' := fun _ => L) (X' := fun _ => X) n hs d s (fun W hS => ⟨(), W, hv W hS, hS⟩) (fun _ => k) hk
end sem
section cutat
variable {f : Func} {r i N : Nat} {Q : Exit → Act → World → Prop} {F : List (Nat × Value)} {w : World} {L : List (Nat × Obj)} {X : List Xt}
theorem At.cutl (n : Nat) (hs : List Nat) (d : Nat) (j : Nat) {B m c lo : Nat} {bs : List Nat} (hj : X[j]? = some (xpc B (.slice A m c) bs)) (hm : m = bs.length) (h1 : lo ≤ bs.length) (hc : bs.length ≤ c)
 (k : ∀ y : Lt, y.n = bs.length - lo → y.c = c - lo → At Tryz.prog f r (i + n + 1) Q N ((d, y.sl) :: F) w L (xpc B y.sl (bs.drop lo) :: X))
 (hk : ∀ T T', opL Tryz.prog f r i n L F hs T (semB T') = opR Tryz.prog f r i n L F hs T (d, (do pure (.value (← Instr.sliceAt 22 (.slice A m c) (some (.int .i64 (lo : Int))) none none)))) := by intro T T'; kernel_rfl) : At Tryz.prog f r i Q N F w L X := by
 subst hm
 refine At.semX (ι := {y : Lt // y.n = bs.length - lo ∧ y.c = c - lo}) (V := fun y => y.1.sl) (L' := fun _ => L) (X' := fun y => xpc B y.1.sl (bs.drop lo) :: X) n hs d _ (fun W hS => ?_) (fun y => k y.1 y.2.1 y.2.2) hk
 obtain ⟨a', e, h⟩ := piece_cut (hS.pcS j hj) lo bs.length h1 (Nat.le_refl _) hc
 rw [show (bs.drop lo).take (bs.length - lo) = bs.drop lo from List.take_of_length_le (by rw [List.length_drop]; omega)] at h
 refine ⟨⟨lt0 a' (bs.length - lo) (c - lo), rfl, rfl⟩, W, ?_, hS.cutpc j hj h⟩
 rw [run_sliceAt_slice _ _ _ _ _ _ bytes_slice, run_slice_l W 22 A bs.length c bytes_slice .i64 (lo : Int) (Int.natCast_nonneg _) (by omega), byte_size]
 simp only [Result.andThen_ok, Int.toNat_natCast, e]
theorem At.arr32 (n : Nat) (hs : List Nat) (d : Nat) {b o m c : Nat} (hm : 32 ≤ m)
 (k : At Tryz.prog f r (i + n + 1) Q N ((d, po b o) :: F) w L X)
 (hk : ∀ T T', opL Tryz.prog f r i n L F hs T (semB T') = opR Tryz.prog f r i n L F hs T (d, (do pure (.value (← Instr.arrayAt 23 (.slice (some ⟨b, o, none⟩) m c))))) := by intro T T'; kernel_rfl) : At Tryz.prog f r i Q N F w L X :=
 At.sem n hs d _ _ (fun W _ => run_arrayAt W 23 _ 32 _ m c Tryz.underlying23 hm) k hk
theorem At.cutb (n : Nat) (hs : List Nat) (d : Nat) (j : Nat) {B m c lo : Nat} {bs : List Nat} (hj : X[j]? = some (xpc B (.slice A m c) bs)) (hm : m = bs.length) (h1 : lo < bs.length) (hc : bs.length ≤ c)
 (k : ∀ b o, At Tryz.prog f r (i + n + 1) Q N ((d, .slice (some ⟨b, o, none⟩) (m - lo) (c - lo)) :: F) w L (xpc B (.slice (some ⟨b, o, none⟩) (m - lo) (c - lo)) (bs.drop lo) :: X))
 (hk : ∀ T T', opL Tryz.prog f r i n L F hs T (semB T') = opR Tryz.prog f r i n L F hs T (d, (do pure (.value (← Instr.sliceAt 22 (.slice A m c) (some (.int .i64 (lo : Int))) none none)))) := by intro T T'; kernel_rfl) : At Tryz.prog f r i Q N F w L X := by
 subst hm
 refine At.cutl n hs d j hj rfl (Nat.le_of_lt h1) hc (fun y hn hy => At.fact (p := ∃ b o, y.a = some ⟨b, o, none⟩) (fun W S => ?_) (fun ⟨b, o, e⟩ => ?_)) hk
 ·exact S.lies 0 rfl rfl (by rw [List.length_drop]; omega)
 ·have := k b o
  unfold Lt.sl
  rw [e, hn, hy]; exact this
def bfn (bs : List Nat) (i : Nat) : Int := ((nth bs i : Nat) : Int)
theorem At.ld32 (n : Nat) (hs : List Nat) (d : Nat) (j : Nat) {B b o m c : Nat} {bs : List Nat} (hj : X[j]? = some (xpc B (.slice (some ⟨b, o, none⟩) m c) bs)) (h1 : 32 ≤ bs.length)
 (k : At Tryz.prog f r (i + n + 1) Q N ((d, .agg (row32 (bfn bs))) :: F) w L X)
 (hk : ∀ T T', opL Tryz.prog f r i n L F hs T (semB T') = opR Tryz.prog f r i n L F hs T (d, (do pure (.value (← Instr.loadAt 23 (po b o))))) := by intro T T'; kernel_rfl) : At Tryz.prog f r i Q N F w L X := by
 refine At.sem n hs d _ _ (fun W S => ?_) k hk
 have hl : (row32 (bfn bs)).toList.length = 32 := by unfold row32; rw [cells32_eq]; simp
 have := run_loadAt_mid (P := Tryz.prog) W b o 23 (row32 (bfn bs)).toList _ (fun q v hq => ?_) Tryz.underlying23 rfl (by rw [hl]; kernel_rfl)
 ·rw [Array.toArray_toList] at this; exact this
 ·have hq2 : q < 32 := by have := (List.getElem?_eq_some_iff.1 hq).1; omega
  rw [(S.pcS j hj).at q _ (by omega) rfl, ← hq, Array.getElem?_toList, row32_get _ _ hq2]; rfl
end cutat
theorem sem_ob {s : Sem Value} (h : s.run P W = .ok v W) : ∃ (e : Ending) (w' : World), (e = .returned v ∧ Below W.heap.size W w') ∧ ∃ v', e = .returned v' ∧ (do pure (.value (← s)) : Sem Next).run P W = .ok (.value v') w' :=
 ⟨_, W, ⟨rfl, Below.refl _ _⟩, v, rfl, by simp only [Sem.run_bind, Sem.run_pure, h, Result.andThen_ok]⟩
theorem cut_l_run {b o m c lo : Nat} (h1 : lo < m) (hc : m ≤ c) (W : World) : (Instr.sliceAt 22 (.slice (some ⟨b, o, none⟩) m c) (some (.int .i64 (lo : Int))) none none).run Tryz.prog W = .ok (.slice (some ⟨b, o + lo, none⟩) (m - lo) (c - lo)) W := by
 have hadd : (⟨b, o, none⟩ : Addr).add (lo * 1) = ⟨b, o + lo, none⟩ := by unfold Addr.add; split <;> simp_all
 have e : sliced (some ⟨b, o, none⟩) lo m c 1 = .slice (some ⟨b, o + lo, none⟩) (m - lo) (c - lo) := by
  unfold sliced
  rw [if_neg (by omega)]
  simp only [Option.map_some, hadd]
 rw [run_sliceAt_slice _ _ _ _ _ _ bytes_slice, run_slice_l W 22 _ m c bytes_slice .i64 (lo : Int) (Int.natCast_nonneg _) (by omega), byte_size]
 simp only [Result.andThen_ok, Int.toNat_natCast, e]
theorem cut_h_run {b o m c hi : Nat} (h0 : 0 < hi) (h1 : hi ≤ c) (W : World) : (Instr.sliceAt 22 (.slice (some ⟨b, o, none⟩) m c) none (some (.int .i64 (hi : Int))) none).run Tryz.prog W = .ok (.slice (some ⟨b, o, none⟩) hi c) W := by
 have hadd : (⟨b, o, none⟩ : Addr).add (0 * 1) = ⟨b, o, none⟩ := by unfold Addr.add; split <;> simp_all
 have e : sliced (some ⟨b, o, none⟩) 0 hi c 1 = .slice (some ⟨b, o, none⟩) hi c := by
  unfold sliced
  rw [if_neg (by omega)]
  simp only [Option.map_some, hadd, Nat.sub_zero]
 rw [run_sliceAt_slice _ _ _ _ _ _ bytes_slice, run_slice_h W 22 _ m c bytes_slice .i64 (hi : Int) (Int.natCast_nonneg _) (by omega), byte_size]
 simp only [Result.andThen_ok, Int.toNat_natCast, e]
section appn
variable {f : Func} {r i N : Nat} {Q : Exit → Act → World → Prop} {F : List (Nat × Value)} {w : World} {L : List (Nat × Obj)} {X : List Xt}
end appn
def PRM : Bool → Nat
 | true => 115792089237316195423570985008687907853269984665640564039457584007908834671663
 | false => 115792089237316195423570985008687907852837564279074904382605163141518161494337
def GAP (p : Bool) : Nat := W256 - PRM p
theorem prm_lt (p : Bool) : PRM p < W256 := by cases p <;> decide +kernel
theorem gap_lt (p : Bool) : GAP p < W256 := by cases p <;> decide +kernel
theorem prm_gap (p : Bool) : PRM p + GAP p = W256 := by have := prm_lt p; unfold GAP; omega
theorem gap_small (p : Bool) : GAP p < 1361129467683753853853498429727072845824 := by cases p <;> decide +kernel
theorem prm_big (p : Bool) : 115792089237316195423570985008687907852837564279074904382605163141518161494336 < PRM p := by cases p <;> decide +kernel
theorem w256_two (p : Bool) : W256 < 2 * PRM p := by cases p <;> decide +kernel
@[reducible] def rcells (p : Bool) : Array Value := #[.int .u64 (limb (PRM p) 0 : Nat), .int .u64 (limb (PRM p) 1 : Nat), .int .u64 (limb (PRM p) 2 : Nat), .int .u64 (limb (PRM p) 3 : Nat), .int .u64 (limb (GAP p) 0 : Nat), .int .u64 (limb (GAP p) 1 : Nat), .int .u64 (limb (GAP p) 2 : Nat), .int .u64 (limb (GAP p) 3 : Nat), .bool p]
@[reducible] def rrow (p : Bool) : Obj := .cells (rcells p) 152
@[reducible] def rptr (g : Nat) : Value := .pointer (some ⟨g, 0, none⟩)
theorem ring_prime {p : Bool} (h : W.heap[g]? = some (rrow p)) : W.rangeAt g 0 (limbs4 (PRM p)).toList := part_of_row h _ rfl
theorem ring_gap {p : Bool} (h : W.heap[g]? = some (rrow p)) : W.rangeAt g 4 (limbs4 (GAP p)).toList := part_of_row h _ rfl
theorem callw {x z : Nat} (h : z = x) (hc : Calls P fid vs w fun e w' => e = .returned (wv x) ∧ Below w.heap.size w w') : Calls P fid vs w fun e w' => e = .returned (wv z) ∧ Below w.heap.size w w' := by subst h; exact hc
theorem Sx.ringX {o : Obj} (h : w.heap[g]? = some o) : Sx w [] [xrow g o] w := (Sx.nil w).addX _ h (fun _ h => by cases h) (fun b hb => by have hb : b = g := hb; rw [hb]; exact lt_of_block h) (fun _ h => by cases h)
theorem ring_p {p : Bool} (h : W.heap[g]? = some (rrow p)) : (Instr.loadAt 87 (pt g)).run Tryz.prog W = .ok (wv (PRM p)) W :=
 run_loadAt_mid (P := Tryz.prog) W g 0 87 (limbs4 (PRM p)).toList _ (ring_prime h) Tryz.underlying87 rfl (by kernel_rfl)
theorem ring_g {p : Bool} (h : W.heap[g]? = some (rrow p)) : (Instr.loadAt 87 (po g 4)).run Tryz.prog W = .ok (wv (GAP p)) W :=
 run_loadAt_mid (P := Tryz.prog) W g 4 87 (limbs4 (GAP p)).toList _ (ring_gap h) Tryz.underlying87 rfl (by kernel_rfl)
theorem in_c (g a : Nat) (p : Bool) (ha : a < W256) (w : World) (hr : w.heap[g]? = some (rrow p)) : Calls Tryz.prog 80 #[rptr g, wv a] w (RetB w (decide (a < PRM p))) := by
 have S0 := Sx.ringX hr
 refine enterQ 11 (fun q => .seq (q 0) (.seq (q 1) .ret)) S0 Tryz.func80 (Cd.sr (At.new 0 [] 3 (limbs4 a) 87 fun g3 h3 => At.run 1 [] [] (At.nx (Cd.seq (Cd.dk 5 [] [(4, wv (PRM p))] [(5, wv a), (9, wv (PRM p))] (.cons 4 (fun _ W S _ => sem_ob (ring_p (S.x 0 rfl))) <| .nil) (At.call 0 [] 10 (fun W S => less_c a (PRM p) ha (prm_lt p) W) (At.run 1 [] [(4, .bool (decide (a < PRM p)))] ?_)))))))
 exact At.nx (Cd.rv r0 [] (.bool (decide (a < PRM p))) fun W S => ⟨rfl, S.below⟩)
theorem one_more (p : Bool) (a : Nat) : (a + GAP p) % PRM p = (a + W256) % PRM p := by
 rw [← prm_gap p, show a + (PRM p + GAP p) = a + GAP p + PRM p by omega, Nat.add_mod_right]
abbrev sk0 (q : Nat → Code) : Code := .seq (q 0) (.seq (.seq (q 1) (.cond (.tmp 9) (.seq (q 2) (.seq (q 3) .ret)) .skip)) (.seq (.seq (q 4) (.cond (.tmp 26) (q 5) .skip)) (.seq (q 6) .ret)))
theorem one_step (g a : Nat) (p : Bool) (ha : a < W256) (s : Nat) (m : Bool) (hs : (a + GAP p) % W256 = s) (hm : decide (W256 ≤ a + GAP p) = m) (z : Nat) (w : World) (hr : w.heap[g]? = some (rrow p))
 (ih : ∀ W, W.heap[g]? = some (rrow p) → Calls Tryz.prog 117 #[rptr g, wv s, .bool m] W fun e w' => e = .returned (wv z) ∧ Below W.heap.size W w') : Calls Tryz.prog 117 #[rptr g, wv a, .bool true] w fun e w' => e = .returned (wv z) ∧ Below w.heap.size w w' := by
 have S0 := Sx.ringX hr
 refine enterQ 37 sk0 S0 Tryz.func117 (Cd.sr (At.new 0 [] 4 (limbs4 a) 87 fun g4 h4 => At.new 0 [] 6 (limbs4 0) 87 fun g6 h6 => At.nx (Cd.seq (Cd.sr (At.run 1 [] [(9, .bool true)] (At.nx ?_))))))
 refine Cd.ct (Cd.seq (Cd.drM 10 [8] [1] [(4, wv (GAP p)), (5, .tuple #[wv s, .bool m])] [(9, ⟨none, limbs4 0, 87⟩)] [] [] (fun u2 => [(17, wv s), (18, .bool m), (7, pt ((u2 9).n))]) (fun u2 => [ro (u2 9).n (limbs4 0) 87, ro g6 (limbs4 0) 87, ro g4 (limbs4 a) 87]) (fun u2 => [xrow g (rrow p)]) stays_nil eqs_nil (.cons 4 (fun u2 W S h => sem_ob (ring_g (S.x 0 rfl))) <| .cons 5 (fun u2 W S h => add_n a (GAP p) ha (gap_lt p) s m hs hm W) <| .nil) (fun u2 W S h => S) (fun u2 => [(0, pt g), (6, pt g6), (7, pt ((u2 9).n)), (8, .bool m)]) (fun u2 => [ro (u2 9).n (limbs4 s) 87, ro g6 (limbs4 0) 87, ro g4 (limbs4 a) 87]) (fun u2 => [xrow g (rrow p)]) (fun u2 hu2 => ?_) (fun u2 hu2 => ?_)))
 ·exact At.st 0 [] 0 (limbs4 s) (hu2 9 _ rfl) (At.run 1 [] [(8, .bool m)] (At.fin (endsU_of u2 hu2)))
 exact Cd.sh (Cd.sr (At.call 3 [] 22 (fun W S => ih W (S.x 0 rfl)) (At.st 0 [] 1 (limbs4 z) h6 (At.nx (Cd.rv (rt r0) [1] (wv z) fun W S => ⟨rfl, S.below⟩)))))
section
variable {a d : Nat} {p : Bool} (h : (!decide (a < PRM p)) = true) (hd : d = a - PRM p) (ha : a < W256)
include h hd ha
theorem one_rest : d = a % PRM p := by
 have h2 := w256_two p
 have h1 : ¬ a < PRM p := by simpa using h
 rw [Nat.mod_eq_sub_mod (by omega), ← hd, Nat.mod_eq_of_lt (by omega)]
theorem one_sub (W : World) : Calls Tryz.prog 120 #[wv a, wv (PRM p)] W fun e w' => e = .returned (.tuple #[wv d, .bool false]) ∧ Below W.heap.size W w' := by
 have h2 := prm_lt p
 have h1 : ¬ a < PRM p := by simpa using h
 refine sub_n a (PRM p) ha h2 d false ?_ (decide_eq_false (by omega)) W
 rw [show a + W256 - PRM p = d + W256 by omega, Nat.add_mod_right, Nat.mod_eq_of_lt (by omega)]
end
theorem one_f (g a : Nat) (p : Bool) (ha : a < W256) (w : World) (hr : w.heap[g]? = some (rrow p)) : Calls Tryz.prog 117 #[rptr g, wv a, .bool false] w fun e w' => e = .returned (wv (a % PRM p)) ∧ Below w.heap.size w w' := by
 have S0 := Sx.ringX hr
 refine enterQ 37 sk0 S0 Tryz.func117 (Cd.sr (At.new 0 [] 4 (limbs4 a) 87 fun g4 h4 => At.new 0 [] 6 (limbs4 0) 87 fun g6 h6 => At.nx (Cd.seq (Cd.sr (At.run 1 [] [(9, .bool false)] (At.nx ?_))))))
 refine Cd.cf (Cd.sk (Cd.sh (Cd.seq ?_)))
 obtain ⟨d, hd⟩ : ∃ d, d = a - PRM p := ⟨_, rfl⟩
 refine Cd.sr (At.call 2 [0, 1] 25 (fun W S => in_c g a p ha W (S.x 0 rfl)) (At.run 1 [] [(26, .bool (!(decide (a < PRM p))))] (At.nx (Cd.sp 26 (!(decide (a < PRM p))) (fun hb => ?_) fun hb => ?_))))
 ·refine Cd.ct (Cd.drM 9 [8] [1] [(4, wv (PRM p)), (5, .tuple #[wv d, .bool false])] [] [] [] (fun u5 => [(34, wv d)]) (fun u5 => [ro g6 (limbs4 0) 87, ro g4 (limbs4 a) 87]) (fun u5 => [xrow g (rrow p)]) stays_nil eqs_nil (.cons 4 (fun _ W S _ => sem_ob (ring_p (S.x 0 rfl))) <| .cons 5 (fun _ W S _ => one_sub hb hd ha W) <| .nil) (fun u5 W S h => S) (fun u5 => [(4, pt g4), (6, pt g6)]) (fun u5 => [ro g6 (limbs4 0) 87, ro g4 (limbs4 d) 87]) (fun u5 => [xrow g (rrow p)]) (fun u5 hu5 => ?_) (fun u5 hu5 => ?_))
  ·exact At.st 0 [] 1 (limbs4 d) h4 (At.fin (endsU_of u5 hu5))
  exact Cd.sh (Cd.sr (At.st 1 [1] 0 (limbs4 d) h6 (At.nx (Cd.rv r0 [] (wv d) fun W S => ⟨congrArg (fun z => Ending.returned (wv z)) (one_rest hb hd ha), S.below⟩))))
 exact Cd.cf (Cd.sk (Cd.sh (Cd.sr (At.st 1 [1] 0 (limbs4 a) h6 (At.nx (Cd.rv r0 [] (wv a) fun W S => ⟨congrArg (fun z => Ending.returned (wv z)) (Nat.mod_eq_of_lt (by simpa using hb)).symm, S.below⟩))))))
theorem one_c (g a : Nat) (p m : Bool) (ha : a < W256) (w : World) (hr : w.heap[g]? = some (rrow p)) :
 Calls Tryz.prog 117 #[rptr g, wv a, .bool m] w fun e w' => e = .returned (wv ((a + (if m then W256 else 0)) % PRM p)) ∧ Below w.heap.size w w' := by
 have hp := prm_lt p; have hg := gap_lt p; have hpg := prm_gap p; have hs := gap_small p; have hb := prm_big p; have hw : W256 = 115792089237316195423570985008687907853269984665640564039457584007913129639936 := by decide +kernel
 cases m with
 | false => simpa using one_f g a p ha w hr
 | true =>
  have hz : ∀ x, x % PRM p < W256 := fun x => Nat.lt_trans (Nat.mod_lt _ (by omega)) hp
  simp only [if_true]
  rw [← one_more]
  by_cases h1 : W256 ≤ a + GAP p
  ·obtain ⟨s, hs1⟩ : ∃ s, s = a + GAP p - W256 := ⟨_, rfl⟩
   have e1 : (a + GAP p) % W256 = s := by rw [hs1, Nat.mod_eq_sub_mod h1, Nat.mod_eq_of_lt (by omega)]
   refine one_step g a p ha s true e1 (by simpa using h1) _ w hr (fun W h => ?_)
   have hsl : s < W256 := by omega
   refine (one_step g s p hsl (s + GAP p) false (Nat.mod_eq_of_lt (by omega)) (by simp; omega) _ W h (fun W' h' => one_f g (s + GAP p) p (by omega) W' h')).mono fun e w' he => ?_
   rw [one_more, show s + W256 = a + GAP p by omega] at he
   exact he
  ·refine one_step g a p ha (a + GAP p) false (Nat.mod_eq_of_lt (by omega)) (by simpa using h1) _ w hr (fun W h => one_f g (a + GAP p) p (by omega) W h)
theorem mul_n (a b : Nat) (ha : a < W256) (hb : b < W256) (l h : Nat) (hl : a * b % W256 = l) (hh : a * b / W256 = h) (W : World) :
 Calls Tryz.prog 128 #[wv a, wv b] W fun e w' => e = .returned (.tuple #[wv l, wv h]) ∧ Below W.heap.size W w' := by
 refine (mul_c a b ha hb W).mono ?_
 rintro e w' ⟨y, z, -, -, ⟨hy, hz⟩, rfl, hb⟩
 rw [hy, hz, hl, hh]; exact ⟨rfl, hb⟩
theorem of_n (k : Int) (n : Nat) (hk : k = n) (hn : n < 18446744073709551616) (W : World) : Calls Tryz.prog 114 #[.int .u64 k] W fun e w' => e = .returned (wv n) ∧ Below W.heap.size W w' := by
 subst hk
 refine (of_c (n : Int) (by omega) (by omega) W).mono ?_
 rintro e w' ⟨z, -, hz, rfl, hb⟩
 rw [hz]; exact ⟨rfl, hb⟩
structure FoldInv (w : World) (p : Bool) (LR : List (Nat × Obj)) (t k low high : Nat) (wr : World) : Prop where
 st : St w LR wr
 lo : wr.heap[w.heap.size]? = some (wrow low)
 hi : wr.heap[w.heap.size + 1]? = some (wrow high)
 lowW : low < W256
 highW : high < W256
 rest : (low + W256 * high) % PRM p = t
 ghost : k = low + W256 * high
theorem fold_down (p : Bool) (low high pl ph s h2 : Nat) (m : Bool) (hlow : low < W256) (hhigh : high < W256) (h0 : high ≠ 0) (hpl : high * GAP p % W256 = pl) (hph : high * GAP p / W256 = ph) (hs : (low + pl) % W256 = s) (hm : decide (W256 ≤ low + pl) = m)
 (hh2 : h2 = ph + (if m then 1 else 0)) : s < W256 ∧ ph < GAP p ∧ h2 < W256 ∧ s + W256 * h2 = low + high * GAP p ∧ (s + W256 * h2) % PRM p = (low + W256 * high) % PRM p ∧ s + W256 * h2 < low + W256 * high := by
 have hg := prm_gap p; have hgs := gap_small p; have hW : W256 = 115792089237316195423570985008687907853269984665640564039457584007913129639936 := by decide +kernel
 have hpos : 0 < W256 := by decide
 have hphl : ph < GAP p := by
  rw [← hph]
  exact Nat.div_lt_of_lt_mul (Nat.mul_lt_mul_of_pos_right hhigh (by have := prm_lt p; omega))
 have hpll : pl < W256 := by rw [← hpl]; exact Nat.mod_lt _ hpos
 have e1 : high * GAP p = pl + W256 * ph := by rw [← hpl, ← hph]; exact (Nat.mod_add_div _ _).symm
 have hsl : s < W256 := by rw [← hs]; exact Nat.mod_lt _ hpos
 have e2 : s + W256 * h2 = low + high * GAP p := by
  rw [e1, hh2]
  cases m with
  | true =>
   have hc : W256 ≤ low + pl := by simpa using hm
   rw [Nat.mod_eq_sub_mod hc, Nat.mod_eq_of_lt (by omega)] at hs
   simp only [if_true, Nat.mul_add]; omega
  | false =>
   have hc : ¬ W256 ≤ low + pl := by simpa using hm
   rw [Nat.mod_eq_of_lt (by omega)] at hs
   simp; omega
 have e3 : low + W256 * high = (low + high * GAP p) + PRM p * high := by
  rw [← hg, Nat.add_mul, Nat.mul_comm high]; omega
 refine ⟨hsl, hphl, by rw [hh2]; split <;> omega, e2, ?_, ?_⟩
 ·rw [e2, e3, Nat.add_mul_mod_self_left]
 ·rw [e2, e3]
  have : 0 < PRM p * high := Nat.mul_pos (by have := prm_big p; omega) (by omega)
  omega
theorem one_v {g a z : Nat} {p : Bool} (hz : a % PRM p = z) (ha : a < W256) (w : World) (hr : w.heap[g]? = some (rrow p)) : Calls Tryz.prog 117 #[rptr g, wv a, .bool false] w fun e w' => e = .returned (wv z) ∧ Below w.heap.size w w' := by
 subst hz; exact one_f g a p ha w hr
theorem weq_zz {x : Nat} (hx : x < W256) (h : weq x 0 = true) : x = 0 := (weq_iff hx (by decide)).1 h
theorem weq_nz {x : Nat} (hx : x < W256) (h : weq x 0 = false) : x ≠ 0 := fun e => by rw [(weq_iff hx (by decide)).2 e] at h; cases h
theorem Sx.drop3 {a b c : Nat × Obj} (h : Sx w (a :: b :: c :: L) X W) : Sx w L X W := h.tl.tl.tl
theorem fold_end {lo hi t : Nat} {p : Bool} (hhi : hi < W256) (hb : (!weq hi 0) = false) (ht : (lo + W256 * hi) % PRM p = t) : lo % PRM p = t := by
 have e := weq_zz hhi (by simpa using hb)
 rw [e] at ht
 simpa using ht
theorem fold_r6 {g4 g5 g6 g7 g8 g9 lo hi pl h2 s : Nat} (h4 : w.heap.size ≤ g4) (h5 : w.heap.size ≤ g5)
 (hF : [4, 5, 8, 9].map (look F) = [some (pt g4), some (pt g5), some (pt g8), some (pt g9)]) (hd : look F 36 = none ∧ look F 37 = none)
 (k : ∀ T W, Fq 41 T F → Sx w [(g9, wrow s), (g7, wrow pl), (g8, wrow h2), (g6, wrow 0), (g5, wrow h2), (g4, wrow s)] X W → Q .normal ⟨T, []⟩ W) : Cd Tryz.prog (rgn Tryz.f89 6) Q 41 F w [(g9, wrow s), (g7, wrow pl), (g8, wrow h2), (g6, wrow 0), (g5, wrow hi), (g4, wrow lo)] X := by
 intro T W hT hS
 obtain ⟨id, e⟩ := rgn_drawn (f := Tryz.f89) (r := 6) (by kernel_rfl)
 rw [e]
 simp only [List.map_cons, List.map_nil, List.cons.injEq, and_true] at hF
 obtain ⟨f4, f5, f8, f9⟩ := hF
 have put : ∀ {T' : Array Value} {d : Nat} {v : Value}, Fq 41 T' F → look F d = none → Fq 41 (T'.setIfInBounds d v) F := fun h hn => ⟨by rw [Array.size_setIfInBounds]; exact h.size, fun q u hq => by
  rw [← h.known q u hq, Array.getD_eq_getD_getElem?, Array.getD_eq_getD_getElem?, Array.getElem?_setIfInBounds_ne (fun e => by rw [e, hq] at hn; cases hn)]⟩
 have got : ∀ {T' : Array Value} {d : Nat} {v : Value}, Fq 41 T' F → d < 41 → (T'.setIfInBounds d v).getD d undef = v := fun h hl => by
  rw [Array.getD_eq_getD_getElem?, Array.getElem?_setIfInBounds_self_of_lt (by rw [h.size]; exact hl)]; rfl
 have oth : ∀ {T' : Array Value} {d q : Nat} {v : Value}, d ≠ q → (T'.setIfInBounds d v).getD q undef = T'.getD q undef := fun h => by
  rw [Array.getD_eq_getD_getElem?, Array.getD_eq_getD_getElem?, Array.getElem?_setIfInBounds_ne h]
 refine wp_region_steps (by kernel_rfl) (by kernel_rfl) (fun L a W => ∃ T', a = ⟨T', []⟩ ∧ Fq 41 T' F ∧ (L 0 = true → T'.getD 36 undef = wv s) ∧ (L 1 = true → T'.getD 37 undef = wv h2) ∧ Sx w [(g9, wrow s), (g7, wrow pl), (g8, wrow h2), (g6, wrow 0), (g5, wrow (if L 3 then h2 else hi)), (g4, wrow (if L 2 then s else lo))] X W) ⟨T, rfl, hT, nofun, nofun, hS.drew⟩ ?_ ?_
 ·refine ⟨?_, ?_, ?_, ?_, trivial⟩
  ·rintro L a W ⟨T', rfl, hT', a0, a1, S⟩ hno hdep
   exact wp_wide (.tmp 9) rfl g9 (hT'.known 9 _ f9) s (S.at 0 rfl) (⟨_, rfl, put hT' hd.1, fun _ => got hT' (by decide), fun h => (oth (by decide)).trans (a1 h), S⟩)
  ·rintro L a W ⟨T', rfl, hT', a0, a1, S⟩ hno hdep
   exact wp_wide (.tmp 8) rfl g8 (hT'.known 8 _ f8) h2 (S.at 2 rfl) (⟨_, rfl, put hT' hd.2, fun h => (oth (by decide)).trans (a0 h), fun _ => got hT' (by decide), S⟩)
  ·rintro L a W ⟨T', rfl, hT', a0, a1, S⟩ hno hdep
   have l0 := hdep ⟨0, .data⟩ (by simp) rfl
   refine wp_put (.tmp 4) (.tmp 36) rfl g4 (hT'.known 4 _ f4) s _ (a0 l0) (S.at 5 rfl) (⟨T', rfl, hT', fun _ => a0 l0, fun h => a1 h, ?_⟩)
   have S2 := S.setRow 5 rfl h4 (limbs4 s)
   exact S2
  ·rintro L a W ⟨T', rfl, hT', a0, a1, S⟩ hno hdep
   have l1 := hdep ⟨1, .data⟩ (by simp) rfl
   refine wp_put (.tmp 5) (.tmp 37) rfl g5 (hT'.known 5 _ f5) h2 _ (a1 l1) (S.at 4 rfl) (⟨T', rfl, hT', fun h => a0 h, fun _ => a1 l1, ?_⟩)
   have S2 := S.setRow 4 rfl h5 (limbs4 h2)
   exact S2
 ·rintro L a W hall ⟨T', rfl, hT', -, -, S⟩
  rw [hall 2 (by decide), hall 3 (by decide)] at S
  exact k T' W hT' S
theorem fold_c (g a c : Nat) (p : Bool) (ha : a < W256) (hc : c < W256) (w : World) (hr : w.heap[g]? = some (rrow p)) : Calls Tryz.prog 89 #[rptr g, wv a, wv c] w fun e w' => e = .returned (wv ((a + W256 * c) % PRM p)) ∧ Below w.heap.size w w' := by
 obtain ⟨t, ht0⟩ : ∃ t, (a + W256 * c) % PRM p = t := ⟨_, rfl⟩
 rw [ht0]
 have S0 := Sx.ringX hr
 refine enterQ 41 (fun q => .seq (q 0) (.seq (.block 0 (.loop (.seq (.seq (q 1) (.cond (.tmp 13) .skip (.exit 0))) (.block 1 (.seq (q 2) (.seq (q 3) (.seq (.seq (q 4) (.cond (.tmp 29) (q 5) .skip)) (q 6)))))))) (.seq (q 7) .ret))) S0 Tryz.func89 (Cd.sr (At.new 0 [] 4 (limbs4 a) 87 fun g4 h4 => At.new 0 [] 5 (limbs4 c) 87 fun g5 h5 => At.new 0 [] 6 (limbs4 0) 87 fun g6 h6 => At.nx (Cd.seq (Cd.blk (Cd.loop (ι := {q : Nat × Nat // q.1 < W256 ∧ q.2 < W256 ∧ (q.1 + W256 * q.2) % PRM p = t}) (fun q => q.1.1 + W256 * q.1.2) (fun q => [(0, pt g), (4, pt g4), (5, pt g5), (6, pt g6)]) (fun q => [ro g6 (limbs4 0) 87, ro g5 (limbs4 q.1.2) 87, ro g4 (limbs4 q.1.1) 87]) (fun q => [xrow g (rrow p)]) (⟨(a, c), ha, hc, ht0⟩) (fun _ S => S) (fun q => ?_))))))
 obtain ⟨⟨lo, hi⟩, hlo, hhi, ht⟩ := q
 dsimp only at hlo hhi ht
 refine Cd.seq (Cd.sr (At.run 3 [1] [(13, .bool (!(weq hi 0)))] (At.nx (Cd.sp 13 (!(weq hi 0)) (fun hb => ?_) fun hb => ?_))))
 ·refine Cd.ct (Cd.sk (Cd.sh (Cd.blk ?_)))
  obtain ⟨pl, hpl⟩ : ∃ x, hi * GAP p % W256 = x := ⟨_, rfl⟩
  obtain ⟨ph, hph⟩ : ∃ x, hi * GAP p / W256 = x := ⟨_, rfl⟩
  obtain ⟨s, hs⟩ : ∃ x, (lo + pl) % W256 = x := ⟨_, rfl⟩
  obtain ⟨m, hm⟩ : ∃ x, decide (W256 ≤ lo + pl) = x := ⟨_, rfl⟩
  have hh0 : hi ≠ 0 := weq_nz hhi (by simpa using hb)
  have hD0 := fold_down p lo hi pl ph s (ph + (if m then 1 else 0)) m hlo hhi hh0 hpl hph hs hm rfl
  have hplw : pl < W256 := by rw [← hpl]; exact Nat.mod_lt _ (by decide)
  have hgw := gap_lt p
  refine Cd.seq (Cd.drM 11 [8] [1] [(4, wv (GAP p)), (5, .tuple #[wv pl, wv ph])] [(9, ⟨none, limbs4 0, 87⟩), (10, ⟨none, limbs4 0, 87⟩)] [] [] (fun u2 => [(21, wv pl), (22, wv ph), (7, pt ((u2 9).n)), (8, pt ((u2 10).n))]) (fun u2 => [ro (u2 9).n (limbs4 0) 87, ro (u2 10).n (limbs4 0) 87, ro g6 (limbs4 0) 87, ro g5 (limbs4 hi) 87, ro g4 (limbs4 lo) 87]) (fun u2 => [xrow g (rrow p)]) stays_nil eqs_nil (.cons 4 (fun u2 W S h => sem_ob (ring_g (S.x 0 rfl))) <| .cons 5 (fun u2 W S h => mul_n hi (GAP p) hhi hgw pl ph hpl hph W) <| .nil) (fun u2 W S h => S) (fun u2 => [(0, pt g), (4, pt g4), (5, pt g5), (6, pt g6), (7, pt ((u2 9).n)), (8, pt ((u2 10).n))]) (fun u2 => [ro (u2 9).n (limbs4 pl) 87, ro (u2 10).n (limbs4 ph) 87, ro g6 (limbs4 0) 87, ro g5 (limbs4 hi) 87, ro g4 (limbs4 lo) 87]) (fun u2 => [xrow g (rrow p)]) (fun u2 hu2 => ?_) (fun u2 hu2 => ?_))
  ·exact At.st 0 [] 0 (limbs4 pl) (hu2 9 _ rfl) (At.st 0 [] 1 (limbs4 ph) (hu2 10 _ rfl) (At.fin (endsU_of u2 hu2)))
  refine Cd.sh (Cd.sr (At.call 2 [4] 26 (fun W S => add_n lo pl hlo hplw s m hs hm W) (At.run 3 [] [(27, wv s), (28, .bool m)] (At.new 0 [] 9 (limbs4 0) 87 fun g9 h9 => At.st 0 [] 0 (limbs4 s) h9 (At.run 1 [] [(10, .bool m)] (At.nx (Cd.seq ?_)))))))
  refine Cd.sr (At.run 1 [] [(29, .bool m)] (At.nx (Cd.sp 29 m (fun hb1 => ?_) fun hb1 => ?_)))
  ·refine Cd.ct (Cd.drM 6 [5] [2] [(1, wv 1), (2, .tuple #[wv (ph + 1), .bool false])] [] [] [] (fun u5 => [(34, wv (ph + 1))]) (fun u5 => [ro g9 (limbs4 s) 87, ro (u2 9).n (limbs4 pl) 87, ro (u2 10).n (limbs4 ph) 87, ro g6 (limbs4 0) 87, ro g5 (limbs4 hi) 87, ro g4 (limbs4 lo) 87]) (fun u5 => [xrow g (rrow p)]) stays_nil eqs_nil (.cons 1 (fun _ W S _ => of_n 1 1 rfl (by decide) W) <| .cons 2 (fun _ W S _ => add_n ph 1 (by have := hD0.2.1; omega) (by decide) (ph + 1) false (Nat.mod_eq_of_lt (by have := hD0.2.1; omega)) (decide_eq_false (by have := hD0.2.1; omega)) W) <| .nil) (fun u5 W S h => S) (fun u5 => [(0, pt g), (4, pt g4), (5, pt g5), (6, pt g6), (8, pt ((u2 10).n)), (9, pt g9)]) (fun u5 => [ro g9 (limbs4 s) 87, ro (u2 9).n (limbs4 pl) 87, ro (u2 10).n (limbs4 (ph + 1)) 87, ro g6 (limbs4 0) 87, ro g5 (limbs4 hi) 87, ro g4 (limbs4 lo) 87]) (fun u5 => [xrow g (rrow p)]) (fun u5 hu5 => ?_) (fun u5 hu5 => ?_))
   ·exact At.st 0 [] 2 (limbs4 (ph + 1)) (hu2 10 _ rfl) (At.fin (endsU_of u5 hu5))
   refine Cd.sh ?_
   have hD := hD0
   rw [hb1] at hD
   rw [if_pos rfl] at hD
   exact fold_r6 (pl := pl) (h2 := (ph + 1)) h4 h5 (by kernel_rfl) ⟨by kernel_rfl, by kernel_rfl⟩ (again_of (Q := fun _ _ _ => True) (⟨(s, (ph + 1)), hD.1, hD.2.2.1, hD.2.2.2.2.1.trans ht⟩) hD.2.2.2.2.2 (fun _ S => S.drop3))
  refine Cd.cf (Cd.sk (Cd.sh ?_))
  have hD := hD0
  rw [hb1] at hD
  rw [if_neg (by decide), Nat.add_zero] at hD
  exact fold_r6 (pl := pl) (h2 := ph) h4 h5 (by kernel_rfl) ⟨by kernel_rfl, by kernel_rfl⟩ (again_of (Q := fun _ _ _ => True) (⟨(s, ph), hD.1, hD.2.2.1, hD.2.2.2.2.1.trans ht⟩) hD.2.2.2.2.2 (fun _ S => S.drop3))
 exact Cd.cf (Cd.ex (Cd.sh (Cd.sr (At.call 2 [0, 2] 40 (fun W S => one_v (fold_end hhi hb ht) hlo W (S.x 0 rfl)) (At.st 0 [] 0 (limbs4 t) h6 (At.nx (Cd.rv r0 [] (wv t) fun W S => ⟨rfl, S.below⟩)))))))
theorem mul_rc (g a b : Nat) (p : Bool) (ha : a < W256) (hb : b < W256) (w : World) (hr : w.heap[g]? = some (rrow p)) :
 Calls Tryz.prog 88 #[rptr g, wv a, wv b] w fun e w' => e = .returned (wv (a * b % PRM p)) ∧ Below w.heap.size w w' := by
 have R0 := Lib.hid hr
 have HA := Lib.hid ha; have HB := Lib.hid hb
 obtain ⟨l, hl⟩ : ∃ x, a * b % W256 = x := ⟨_, rfl⟩
 obtain ⟨h, hh⟩ : ∃ x, a * b / W256 = x := ⟨_, rfl⟩
 have CM := Lib.hid (fun W => mul_n a b ha hb l h hl hh W)
 have CF := Lib.hid (fun W hW => fold_c g l h p (by rw [← hl]; exact Nat.mod_lt _ (by decide)) (by rw [← hh]; exact Nat.div_lt_of_lt_mul (Nat.mul_lt_mul'' ha hb)) W hW)
 have HE : Hid (l + W256 * h = a * b) := by rw [← hl, ← hh]; exact Nat.mod_add_div _ _
 rw [HE.out] at CF
 clear hr ha hb hl hh
 go_enter Tryz.func88, Tryz.ntmps88
 have S0 := (((((St.nil w).cons R0.out)).alloc (wrow (a)) (w.heap.size) rfl).alloc (wrow (b)) (w.heap.size + 1) (by simp)).alloc (wrow (0)) (w.heap.size + 1 + 1) (by simp)
 obtain ⟨L0, hL0⟩ : ∃ L, L = [(w.heap.size + 1 + 1, wrow (0)), (w.heap.size + 1, wrow (b)), (w.heap.size, wrow (a)), (g, rrow p)] := ⟨_, rfl⟩
 rw [← hL0] at S0
 have mv0 : (w.heap.size, wrow (a)) ∈ L0 := by rw [hL0]; exact (List.Mem.tail _ (List.Mem.tail _ (List.Mem.head _)))
 have mv1 : (w.heap.size + 1, wrow (b)) ∈ L0 := by rw [hL0]; exact (List.Mem.tail _ (List.Mem.head _))
 have mv2 : (w.heap.size + 1 + 1, wrow (0)) ∈ L0 := by rw [hL0]; exact (List.Mem.head _)
 have mr : (g, rrow p) ∈ L0 := by rw [hL0]; exact (List.Mem.tail _ (List.Mem.tail _ (List.Mem.tail _ (List.Mem.head _))))
 have hlow : Hid (∀ q, q ∈ L0 → q.1 < w.heap.size + 3) := by
  rw [hL0]; intro q hq; have hg0 := lt_of_block R0.out; simp at hq; rcases hq with rfl | rfl | rfl | rfl <;> simp <;> omega
 clear hL0
 go_wp2_with (first | (refine wpList_wide rfl _ rfl _ rfl (S0) _ mv0 ?_) | (refine wpList_wide rfl _ rfl _ rfl (S0) _ mv1 ?_) | fail)
 refine (CM.out _).mono ?_
 rintro e W1 ⟨rfl, hb⟩
 have S1 := S0.keep hb
 clear hb
 go_wp2_with fail
 refine (CF.out _ (S1.get mr)).mono ?_
 rintro e W2 ⟨rfl, hb⟩
 have S2 := S1.keep hb
 clear hb
 go_wp2_with (refine wpList_put rfl _ _ rfl (w.heap.size + 1 + 1) rfl (a * b % PRM p) 0 rfl (S2.get mv2) ?_)
 exact bodyPost_ret (results_cell_row rfl _ _ (w.heap.size + 1 + 1) 87 (limbs4 (a * b % PRM p)) (0, 0) _ rfl (set_row (S2.get mv2)) Tryz.underlying87 rfl (by kernel_rfl)) rfl (⟨rfl, below_setRow S2.below (by omega) _⟩)
theorem add_rc (g a b : Nat) (p : Bool) (ha : a < W256) (hb : b < W256) (w : World) (hr : w.heap[g]? = some (rrow p)) : Calls Tryz.prog 118 #[rptr g, wv a, wv b] w fun e w' => e = .returned (wv ((a + b) % PRM p)) ∧ Below w.heap.size w w' := by
 obtain ⟨x, hx⟩ : ∃ x, a % PRM p = x := ⟨_, rfl⟩
 obtain ⟨y, hy⟩ : ∃ x, b % PRM p = x := ⟨_, rfl⟩
 obtain ⟨s, hs⟩ : ∃ s, (x + y) % W256 = s := ⟨_, rfl⟩
 obtain ⟨m, hm⟩ : ∃ m, decide (W256 ≤ x + y) = m := ⟨_, rfl⟩
 obtain ⟨z, hz⟩ : ∃ z, z = (s + (if m then W256 else 0)) % PRM p := ⟨_, rfl⟩
 have hpl := prm_lt p
 have hpb := prm_big p
 have hxw : x < W256 := by rw [← hx]; exact Nat.lt_trans (Nat.mod_lt _ (by omega)) hpl
 have hyw : y < W256 := by rw [← hy]; exact Nat.lt_trans (Nat.mod_lt _ (by omega)) hpl
 have hsw : s < W256 := by rw [← hs]; exact Nat.mod_lt _ (by decide)
 have hzz : z = (a + b) % PRM p := by
  have e : s + (if m then W256 else 0) = x + y := by
   rw [← hs, ← hm]
   by_cases h : W256 ≤ x + y
   ·rw [if_pos (by simpa using h), Nat.mod_eq_sub_mod h, Nat.mod_eq_of_lt (by omega)]; omega
   ·rw [if_neg (by simpa using h), Nat.mod_eq_of_lt (by omega)]; rfl
  rw [hz, e, ← hx, ← hy, ← Nat.add_mod]
 rw [← hzz]
 have S0 := Sx.ringX hr
 refine enterQ 18 (fun q => .seq (q 0) (.seq (q 1) .ret)) S0 Tryz.func118 (Cd.sr (At.new 0 [] 4 (limbs4 a) 87 fun g4 h4 => At.new 0 [] 5 (limbs4 b) 87 fun g5 h5 => At.new 0 [] 6 (limbs4 0) 87 fun g6 h6 => At.nx (Cd.seq (Cd.dk 10 [0, 0, 2, 0, 0, 1] [(3, wv x), (6, wv y), (7, .tuple #[wv s, .bool m])] [(7, pt g), (15, wv s), (16, .bool m)] (.cons 3 (fun _ W S _ => one_v hx ha W (S.x 0 rfl)) <| .cons 6 (fun _ W S _ => one_v hy hb W (S.x 0 rfl)) <| .cons 7 (fun _ W S _ => add_n x y (hxw) (hyw) s m hs hm W) <| .nil) (At.call 0 [] 17 (fun W S => callw hz (one_c g s p m hsw W (S.x 0 rfl))) ?_)))))
 exact At.st 0 [] 0 (limbs4 z) h6 (At.nx (Cd.rv r0 [] (wv z) fun W S => ⟨rfl, S.below⟩))
section
variable (x y s z : Nat) (p : Bool) (hxp : x < PRM p) (hyp : y < PRM p) (hs : (x + W256 - y) % W256 = s) (hz : (x + PRM p - y) % PRM p = z)
include hxp hyp hs hz
theorem sub_same (h : decide (x < y) = false) : s = z := by
 have h2 : ¬ x < y := of_decide_eq_false h
 have := prm_lt p
 rw [show x + W256 - y = (x - y) + W256 by omega, Nat.add_mod_right, Nat.mod_eq_of_lt (by omega)] at hs
 rw [show x + PRM p - y = (x - y) + PRM p by omega, Nat.add_mod_right, Nat.mod_eq_of_lt (by omega)] at hz
 omega
omit hxp in
theorem sub_back (h : decide (x < y) = true) (W : World) : Calls Tryz.prog 113 #[wv s, wv (PRM p)] W fun e w' => e = .returned (.tuple #[wv z, .bool true]) ∧ Below W.heap.size W w' := by
 have h2 : x < y := of_decide_eq_true h
 have hp := prm_lt p
 rw [Nat.mod_eq_of_lt (by omega)] at hs hz
 refine add_n s (PRM p) (by omega) hp z true ?_ (decide_eq_true (by omega)) W
 rw [show s + PRM p = z + W256 by omega, Nat.add_mod_right, Nat.mod_eq_of_lt (by omega)]
end
theorem sub_rc (g a b : Nat) (p : Bool) (ha : a < W256) (hb : b < W256) (w : World) (hr : w.heap[g]? = some (rrow p)) : Calls Tryz.prog 81 #[rptr g, wv a, wv b] w fun e w' => e = .returned (wv ((a % PRM p + PRM p - b % PRM p) % PRM p)) ∧ Below w.heap.size w w' := by
 obtain ⟨x, hx⟩ : ∃ x, a % PRM p = x := ⟨_, rfl⟩
 obtain ⟨y, hy⟩ : ∃ x, b % PRM p = x := ⟨_, rfl⟩
 obtain ⟨s, hs⟩ : ∃ s, (x + W256 - y) % W256 = s := ⟨_, rfl⟩
 obtain ⟨z, hz⟩ : ∃ z, (x + PRM p - y) % PRM p = z := ⟨_, rfl⟩
 rw [hx, hy, hz]
 have hpl := prm_lt p
 have hpb := prm_big p
 have hxp : x < PRM p := by rw [← hx]; exact Nat.mod_lt _ (by omega)
 have hyp : y < PRM p := by rw [← hy]; exact Nat.mod_lt _ (by omega)
 have hxw : x < W256 := by omega
 have hyw : y < W256 := by omega
 have S0 := Sx.ringX hr
 refine enterQ 30 (fun q => .seq (q 0) (.seq (q 1) (.seq (.seq (q 2) (.cond (.tmp 19) (q 3) .skip)) (.seq (q 4) .ret)))) S0 Tryz.func81 (Cd.sr (At.new 0 [] 4 (limbs4 a) 87 fun g4 h4 => At.new 0 [] 5 (limbs4 b) 87 fun g5 h5 => At.new 0 [] 6 (limbs4 0) 87 fun g6 h6 => At.nx (Cd.seq (Cd.drM 11 [9] [0, 2, 0, 0, 1] [(2, wv x), (5, wv y), (6, .tuple #[wv s, .bool (decide (x < y))])] [(10, ⟨none, limbs4 0, 87⟩)] [] [] (fun u1 => [(17, wv s), (18, .bool (decide (x < y))), (7, pt ((u1 10).n))]) (fun u1 => [ro (u1 10).n (limbs4 0) 87, ro g6 (limbs4 0) 87, ro g5 (limbs4 b) 87, ro g4 (limbs4 a) 87]) (fun u1 => [xrow g (rrow p)]) stays_nil eqs_nil (.cons 2 (fun u1 W S h => one_v hx ha W (S.x 0 rfl)) <| .cons 5 (fun u1 W S h => one_v hy hb W (S.x 0 rfl)) <| .cons 6 (fun u1 W S h => sub_n x y hxw hyw s (decide (x < y)) hs rfl W) <| .nil) (fun u1 W S h => S) (fun u1 => [(0, pt g), (6, pt g6), (7, pt ((u1 10).n)), (8, .bool (decide (x < y)))]) (fun u1 => [ro (u1 10).n (limbs4 s) 87, ro g6 (limbs4 0) 87, ro g5 (limbs4 b) 87, ro g4 (limbs4 a) 87]) (fun u1 => [xrow g (rrow p)]) (fun u1 hu1 => ?_) (fun u1 hu1 => ?_)))))
 ·exact At.st 0 [] 0 (limbs4 s) (hu1 10 _ rfl) (At.run 1 [] [(8, .bool (decide (x < y)))] (At.fin (endsU_of u1 hu1)))
 refine Cd.sh (Cd.seq (Cd.sr (At.run 1 [] [(19, .bool (decide (x < y)))] (At.nx (Cd.sp 19 (decide (x < y)) (fun hb => ?_) fun hb => ?_)))))
 ·refine Cd.ct (Cd.drM 9 [8] [] [(4, wv (PRM p)), (5, .tuple #[wv z, .bool true])] [] [] [] (fun u3 => [(27, wv z)]) (fun u3 => [ro (u1 10).n (limbs4 s) 87, ro g6 (limbs4 0) 87, ro g5 (limbs4 b) 87, ro g4 (limbs4 a) 87]) (fun u3 => [xrow g (rrow p)]) stays_nil eqs_nil (.cons 4 (fun _ W S _ => sem_ob (ring_p (S.x 0 rfl))) <| .cons 5 (fun _ W S _ => sub_back x y s z p hyp hs hz hb W) <| .nil) (fun u3 W S h => S) (fun u3 => [(6, pt g6), (7, pt ((u1 10).n))]) (fun u3 => [ro (u1 10).n (limbs4 z) 87, ro g6 (limbs4 0) 87, ro g5 (limbs4 b) 87, ro g4 (limbs4 a) 87]) (fun u3 => [xrow g (rrow p)]) (fun u3 hu3 => ?_) (fun u3 hu3 => ?_))
  ·exact At.st 0 [] 0 (limbs4 z) (hu1 10 _ rfl) (At.fin (endsU_of u3 hu3))
  exact Cd.sh (Cd.sr (At.st 1 [] 1 (limbs4 z) h6 (At.nx (Cd.rv r0 [1] (wv z) fun W S => ⟨rfl, S.below⟩))))
 exact Cd.cf (Cd.sk (Cd.sh (Cd.sr (At.st 1 [] 1 (limbs4 s) h6 (At.nx (Cd.rv r0 [1] (wv s) fun W S => ⟨congrArg (fun z => Ending.returned (wv z)) (sub_same x y s z p hxp hyp hs hz hb), S.below⟩))))))
theorem modulus_c (g : Nat) (p : Bool) (w : World) (hr : w.heap[g]? = some (rrow p)) :
 Calls Tryz.prog 121 #[rptr g] w fun e w' => e = .returned (wv (PRM p)) ∧ Below w.heap.size w w' := by
 have R0 := Lib.hid hr
 have hlt := lt_of_block hr
 have c0 : w.cell? ⟨g, 0, none⟩ = some (.int .u64 (limb (PRM p) 0 : Nat)) := cell_of_row _ _ _ _ _ _ hr
 have c1 : w.cell? ⟨g, 1, none⟩ = some (.int .u64 (limb (PRM p) 1 : Nat)) := cell_of_row _ _ _ _ _ _ hr
 have c2 : w.cell? ⟨g, 2, none⟩ = some (.int .u64 (limb (PRM p) 2 : Nat)) := cell_of_row _ _ _ _ _ _ hr
 have c3 : w.cell? ⟨g, 3, none⟩ = some (.int .u64 (limb (PRM p) 3 : Nat)) := cell_of_row _ _ _ _ _ _ hr
 clear hr
 go_enter Tryz.func121, Tryz.ntmps121
 go_wp2
 go_returns
 exact ⟨rfl, by go_grown⟩
theorem limbs4_get (n q : Nat) (h : q < 4) : (limbs4 n)[q]? = some (.int .u64 (limb n q : Nat)) := by
 match q, h with
 | 0, _ => rfl
 | 1, _ => rfl
 | 2, _ => rfl
 | 3, _ => rfl
theorem limb_bit (n i : Nat) : limb n (i / 64) / 2 ^ (i % 64) % 2 = n / 2 ^ i % 2 := by
 unfold limb
 have hr : i % 64 < 64 := Nat.mod_lt _ (by decide)
 have e : n / 2 ^ i = n / 18446744073709551616 ^ (i / 64) / 2 ^ (i % 64) := by
  rw [show (18446744073709551616 : Nat) = 2 ^ 64 from rfl, ← Nat.pow_mul, Nat.div_div_eq_div_mul, ← Nat.pow_add, show 64 * (i / 64) + i % 64 = i by omega]
 rw [e]
 generalize n / 18446744073709551616 ^ (i / 64) = x
 generalize i % 64 = r at hr
 have hs : (18446744073709551616 : Nat) = 2 ^ r * (2 * 2 ^ (63 - r)) := by
  rw [← Nat.mul_assoc, Nat.mul_comm (2 ^ r) 2, Nat.mul_assoc, ← Nat.pow_add, show r + (63 - r) = 63 by omega]
 rw [hs, Nat.mod_mul_right_div_self, Nat.mod_mul_right_mod]
theorem and_one (s : Nat) (hs : s < 18446744073709551616) : bits BinOp.and IntKind.u64 (s : Int) 1 = ((s % 2 : Nat) : Int) := by
 have := bits_and_u64_nat s 1 hs (by decide)
 rw [Nat.and_one_is_mod] at this
 exact this
theorem pow_sq (a e M : Nat) : (a ^ e % M) * (a ^ e % M) % M = a ^ (2 * e) % M := by
 rw [← Nat.mul_mod, ← Nat.pow_add, show e + e = 2 * e by omega]
theorem pow_one_more (a e M : Nat) : (a ^ e % M) * a % M = a ^ (e + 1) % M := by
 rw [Nat.pow_succ, Nat.mod_mul_mod]
theorem half_up' (a i : Nat) : a / 2 ^ i = 2 * (a / 2 ^ (i + 1)) + a / 2 ^ i % 2 := by
 rw [Nat.pow_succ, ← Nat.div_div_eq_div_mul]; omega
structure PowInv (w : World) (L0 : List (Nat × Obj)) (g7 a n k : Nat) (p : Bool) (wr : World) : Prop where
 st : St w L0 wr
 out : wr.heap[g7]? = some (wrow (a ^ (n / 2 ^ k) % PRM p))
 kn : k ≤ 256
theorem pow_rc (g a n : Nat) (p : Bool) (ha : a < W256) (hn : n < W256) (w : World) (hr : w.heap[g]? = some (rrow p)) :
 Calls Tryz.prog 115 #[rptr g, wv a, wv n] w fun e w' => e = .returned (wv (a ^ n % PRM p)) ∧ Below w.heap.size w w' := by
 have hM : ∀ x, x % PRM p < W256 := fun x => Nat.lt_trans (Nat.mod_lt _ (by have := prm_big p; omega)) (prm_lt p)
 have HM := Lib.hid hM
 have R0 := Lib.hid hr
 have HA := Lib.hid ha
 have CO := Lib.hid (fun W => of_n 1 1 rfl (by decide) W)
 have CB := Lib.hid (fun W => bits_c n hn W)
 have hbl : (blen n : Int) ≤ 256 := by have := (blen_le_iff n 256).2 (by rw [← W256_pow]; exact hn); omega
 have HB : Hid (n < 2 ^ blen n) := (blen_le_iff n (blen n)).1 (Nat.le_refl _)
 have hbl0 : (0 : Int) ≤ blen n := by omega
 clear hr ha hn hM
 go_enter Tryz.func115, Tryz.ntmps115
 have S0 := (((((St.nil w).cons R0.out)).alloc (wrow (a)) (w.heap.size) rfl).alloc (wrow (n)) (w.heap.size + 1) (by simp)).alloc (wrow (0)) (w.heap.size + 1 + 1) (by simp)
 obtain ⟨L0, hL0⟩ : ∃ L, L = [(w.heap.size + 1 + 1, wrow (0)), (w.heap.size + 1, wrow (n)), (w.heap.size, wrow (a)), (g, rrow p)] := ⟨_, rfl⟩
 rw [← hL0] at S0
 have mv0 : (w.heap.size, wrow (a)) ∈ L0 := by rw [hL0]; exact (List.Mem.tail _ (List.Mem.tail _ (List.Mem.head _)))
 have mv1 : (w.heap.size + 1, wrow (n)) ∈ L0 := by rw [hL0]; exact (List.Mem.tail _ (List.Mem.head _))
 have mv2 : (w.heap.size + 1 + 1, wrow (0)) ∈ L0 := by rw [hL0]; exact (List.Mem.head _)
 have mr : (g, rrow p) ∈ L0 := by rw [hL0]; exact (List.Mem.tail _ (List.Mem.tail _ (List.Mem.tail _ (List.Mem.head _))))
 have hlow : Hid (∀ q, q ∈ L0 → q.1 < w.heap.size + 3) := by
  rw [hL0]; intro q hq; have hg0 := lt_of_block R0.out; simp at hq; rcases hq with rfl | rfl | rfl | rfl <;> simp <;> omega
 clear hL0
 go_wp2_with fail
 refine (CO.out _).mono ?_
 rintro e W1 ⟨rfl, hb⟩
 have S1 := S0.keep hb
 have h1s : Hid (w.heap.size + 3 ≤ W1.heap.size) := by have := hb.size; simp at this; exact this
 clear hb
 have S1' := S1.alloc0 (wrow 1)
 have O1 : Hid ((W1.alloc (wrow 1)).heap[W1.heap.size]? = some (wrow 1)) := lastH _ _ _ rfl
 go_wp2_with (first | (refine wpList_wide rfl _ rfl _ rfl (S1') _ mv1 ?_) | fail)
 refine (CB.out _).mono ?_
 rintro e W2 ⟨rfl, hb⟩
 have I0 : Hid (PowInv w L0 W1.heap.size a n (blen n) p W2) := ⟨S1'.keep hb, by rw [Nat.div_eq_of_lt HB.out, Nat.pow_zero, Nat.mod_eq_of_lt (by have := prm_big p; omega)]; exact keepH hb O1.out, by omega⟩
 clear hb S1 S1' O1 S0
 go_wp2_with fail
 go_loopw [8] (fun iv wr => ∃ k : Nat, iv = .int .i64 ((k : Int) - 1) ∧ Hid (PowInv w L0 W1.heap.size a n k p wr)) (fun iv _ => (intOf iv + 1).toNat)
 case atStart => exact ⟨blen n, rfl, I0⟩
 case round =>
  obtain ⟨k, rfl, J⟩ := hrel
  by_cases hk0 : k = 0
  ·subst hk0
   have SJ := J.out.st
   have OJ := Lib.hid J.out.out
   have S2 := SJ.cons OJ.out
   go_wp2_with (first | (refine wpList_wide rfl _ rfl _ rfl S2 _ (List.Mem.head _) ?_) | (refine wpList_put rfl _ _ rfl (w.heap.size + 1 + 1) rfl (a ^ (n / 2 ^ 0) % PRM p) 0 rfl (SJ.get mv2) ?_))
   exact bodyPost_ret (results_cell_row rfl _ _ (w.heap.size + 1 + 1) 87 (limbs4 (a ^ (n / 2 ^ 0) % PRM p)) (0, 0) _ rfl (set_row (SJ.get mv2)) Tryz.underlying87 rfl (by kernel_rfl)) rfl (⟨by rw [Nat.pow_zero, Nat.div_one], below_setRow SJ.below (by omega) _⟩)
  ·obtain ⟨i, rfl⟩ : ∃ i, k = i + 1 := ⟨k - 1, by omega⟩
   have em : (((i + 1 : Nat) : Int) - 1) = i := by omega
   rw [em]
   have hk := J.out.kn
   have SJ := J.out.st
   obtain ⟨o, ho⟩ : ∃ o, a ^ (n / 2 ^ (i + 1)) % PRM p = o := ⟨_, rfl⟩
   have OJ : Hid (wr.heap[W1.heap.size]? = some (wrow o)) := by rw [← ho]; exact J.out.out
   have hoW : o < W256 := by rw [← ho]; exact HM.out _
   obtain ⟨o2, ho2⟩ : ∃ o2, o * o % PRM p = o2 := ⟨_, rfl⟩
   have ho2W : o2 < W256 := by rw [← ho2]; exact HM.out _
   have CM := Lib.hid (fun W h => mul_rc g o o p hoW hoW W h)
   rw [ho2] at CM
   have CM2 := Lib.hid (fun W h => mul_rc g o2 a p ho2W HA.out W h)
   have HO2 : Hid (o2 = a ^ (2 * (n / 2 ^ (i + 1))) % PRM p) := by rw [← ho2, ← ho]; exact pow_sq _ _ _
   obtain ⟨q, hq⟩ : ∃ q, i / 64 = q := ⟨_, rfl⟩
   obtain ⟨r, hr⟩ : ∃ r, i % 64 = r := ⟨_, rfl⟩
   have hqi : (i : Int) / 64 = q := by omega
   have hri : (i : Int) % 64 = r := by omega
   have hi0 : (i : Int) ≤ 256 := by omega
   have hq4 : q < 4 := by omega
   have hq4i : (q : Int) < 4 := by omega
   have hr64 : (r : Int) < 64 := by omega
   obtain ⟨s, hs⟩ : ∃ s, limb n q / 2 ^ r = s := ⟨_, rfl⟩
   have hsi : ((limb n q : Nat) : Int) / 2 ^ r = s := by rw [cast_div_pow, hs]
   have hsW : s < 18446744073709551616 := by rw [← hs]; exact Nat.lt_of_le_of_lt (Nat.div_le_self _ _) (limb_lt n q)
   have hbit : Hid (s % 2 = n / 2 ^ i % 2) := by rw [← hs, ← hq, ← hr]; exact limb_bit n i
   have hand := and_one s hsW
   have hup := Lib.hid (half_up' n i)
   clear em hk0 hq hr hs ho ho2 hsW hoW ho2W
   have S2 := SJ.cons OJ.out
   go_wp2_with (first | (refine wpList_wide rfl _ rfl _ rfl S2 _ (List.Mem.head _) ?_) | fail)
   refine (CM.out _ (SJ.get mr)).mono ?_
   rintro e W3 ⟨rfl, hb⟩
   have S3 := SJ.keep hb
   have O3 := Lib.hid (keepH hb OJ.out)
   have h13 : Hid (W1.heap.size < W3.heap.size) := lt_of_block O3.out
   clear hb
   have hap : Hid (∀ q, q ∈ L0 → q.1 ≠ W1.heap.size) := fun q hq => by have := hlow.out q hq; have := h1s.out; omega
   have S4 := S3.setRow (g := W1.heap.size) (by have := h1s.out; omega) hap.out (limbs4 o2)
   have O4 := Lib.hid (set_row (z := o2) O3.out)
   have ce : (W3.setRow W1.heap.size (limbs4 o2)).cell? ⟨w.heap.size + 1, q, none⟩ = some (.int .u64 (limb n q : Nat)) := by
    rw [cell_of_row _ _ _ _ _ _ (S4.get mv1), limbs4_get n q hq4]
   by_cases hb1 : s % 2 = 1
   ·rw [hb1] at hand
    have S5 := S4.cons O4.out
    have HF : Hid (o2 * a % PRM p = a ^ (n / 2 ^ i) % PRM p) := by
     rw [HO2.out, pow_one_more, hup.out, ← hbit.out, hb1]; rfl
    go_wp2_with (first | (refine wpList_put rfl _ _ rfl W1.heap.size rfl o2 o rfl O3.out ?_) | (refine wpList_wide rfl _ rfl _ rfl S5 _ (List.Mem.head _) ?_) | (refine wpList_wide rfl _ rfl _ rfl S5 _ (List.Mem.tail _ mv0) ?_))
    refine (CM2.out _ (S4.get mr)).mono ?_
    rintro e W6 ⟨rfl, hb⟩
    have S6 := S4.keep hb
    have O6 := Lib.hid (keepH hb O4.out)
    clear hb
    have FI : Hid (PowInv w L0 W1.heap.size a n i p (W6.setRow W1.heap.size (limbs4 (o2 * a % PRM p)))) := ⟨S6.setRow (by have := h1s.out; omega) hap.out _, by rw [← HF.out]; exact set_row O6.out, by omega⟩
    go_wp2_with (refine wpList_put rfl _ _ rfl W1.heap.size rfl (o2 * a % PRM p) o2 rfl O6.out ?_)
    go_roundw
    case rel => exact ⟨i, rfl, FI⟩
    case measure => simp [intOf]
   ·have hb0 : s % 2 = 0 := by omega
    rw [hb0] at hand
    have FI : Hid (PowInv w L0 W1.heap.size a n i p (W3.setRow W1.heap.size (limbs4 o2))) := ⟨S4, by
     have e : o2 = a ^ (n / 2 ^ i) % PRM p := by rw [HO2.out, hup.out, ← hbit.out, hb0]; rfl
     rw [← e]; exact O4.out, by omega⟩
    clear hb1
    go_wp2_with (first | (refine wpList_put rfl _ _ rfl W1.heap.size rfl o2 o rfl O3.out ?_))
    go_roundw
    case rel => exact ⟨i, rfl, FI⟩
    case measure => simp [intOf]
theorem inv_rc (g a : Nat) (p : Bool) (ha : a < W256) (w : World) (hr : w.heap[g]? = some (rrow p)) : Calls Tryz.prog 86 #[rptr g, wv a] w fun e w' => e = .returned (.tuple #[wv (if a % PRM p = 0 then 0 else a ^ (PRM p - 2) % PRM p), .int .i64 (if a % PRM p = 0 then 31 else 0)]) ∧ Below w.heap.size w w' := by
 obtain ⟨t, ht⟩ : ∃ x, a % PRM p = x := ⟨_, rfl⟩
 obtain ⟨q, hq⟩ : ∃ q, q = PRM p - 2 := ⟨_, rfl⟩
 rw [ht, ← hq]
 obtain ⟨z, hz⟩ : ∃ z, z = a ^ q % PRM p := ⟨_, rfl⟩
 rw [← hz]
 have hpl := prm_lt p
 have hpb := prm_big p
 have htw : t < W256 := by rw [← ht]; exact Nat.lt_trans (Nat.mod_lt _ (by omega)) hpl
 have S0 := Sx.ringX hr
 refine enterQ 27 (fun q => .seq (q 0) (.seq (.seq (q 1) (.cond (.tmp 12) (.seq (q 2) .ret) .skip)) (.seq (q 3) (.seq (q 4) .ret)))) S0 Tryz.func86 (Cd.sr (At.new 0 [] 3 (limbs4 a) 87 fun g3 h3 => At.new 0 [] 4 (limbs4 0) 87 fun g4 h4 => At.run 1 [] [] (At.nx (Cd.seq (Cd.sr (At.call 2 [0, 1] 10 (fun W S => one_v ht ha W (S.x 0 rfl)) ?_))))))
 refine At.run 2 [] [(12, .bool (weq t 0))] (At.nx (Cd.sp 12 (weq t 0) (fun hb => ?_) fun hb => ?_))
 ·exact Cd.ct (Cd.sr (At.st 1 [] 0 (limbs4 0) h4 (At.run 1 [] [(5, .int .i64 31)] (At.nx (Cd.rv (rt r0) [] (.tuple #[wv 0, .int .i64 31]) fun W S => ⟨by rw [if_pos (weq_zz htw hb), if_pos (weq_zz htw hb)], S.below⟩)))))
 refine Cd.cf (Cd.sk (Cd.sh ?_))
 have hne : t ≠ 0 := weq_nz htw hb
 refine Cd.seq (Cd.drM 10 [8] [] [(3, wv (PRM p)), (4, wv 2), (5, .tuple #[wv q, .bool false])] [(9, ⟨none, limbs4 0, 87⟩)] [] [] (fun u3 => [(21, wv q), (22, .bool false), (6, pt ((u3 9).n))]) (fun u3 => [ro (u3 9).n (limbs4 0) 87, ro g4 (limbs4 0) 87, ro g3 (limbs4 a) 87]) (fun u3 => [xrow g (rrow p)]) stays_nil eqs_nil (.cons 3 (fun u3 W S h => sem_ob (ring_p (S.x 0 rfl))) <| .cons 4 (fun u3 W S h => of_n 2 2 rfl (by decide) W) <| .cons 5 (fun u3 W S h => sub_n (PRM p) 2 (prm_lt p) (by decide) q false (by rw [show PRM p + W256 - 2 = q + W256 by omega, Nat.add_mod_right, Nat.mod_eq_of_lt (by omega)]) (decide_eq_false (by omega)) W) <| .nil) (fun u3 W S h => S) (fun u3 => [(0, pt g), (3, pt g3), (4, pt g4), (6, pt ((u3 9).n))]) (fun u3 => [ro (u3 9).n (limbs4 q) 87, ro g4 (limbs4 0) 87, ro g3 (limbs4 a) 87]) (fun u3 => [xrow g (rrow p)]) (fun u3 hu3 => ?_) (fun u3 hu3 => ?_))
 ·exact At.st 0 [] 0 (limbs4 q) (hu3 9 _ rfl) (At.run 1 [] [] (At.fin (endsU_of u3 hu3)))
 exact Cd.sh (Cd.sr (At.call 3 [0, 2] 26 (fun W S => callw hz (pow_rc g a q p ha (by omega) W (S.x 0 rfl))) (At.st 0 [] 1 (limbs4 z) h4 (At.run 1 [] [(5, .int .i64 0)] (At.nx (Cd.rv r0 [1] (.tuple #[wv z, .int .i64 0]) fun W S => ⟨by rw [if_neg hne, if_neg hne], S.below⟩))))))
def RetR (w : World) (p : Bool) (e : Ending) (w' : World) : Prop := ∃ g, e = .returned (rptr g) ∧ Hid (w'.heap[g]? = some (rrow p)) ∧ Below w.heap.size w w'
theorem ring_c (p : Bool) (w : World) : Calls Tryz.prog 112 #[wv (PRM p), .bool p] w (RetR w p) := by
 have CS := Lib.hid (fun W => sub_n 0 (PRM p) (by decide) (prm_lt p) (GAP p) true (by
  have := prm_gap p; have := gap_lt p; have := prm_lt p
  rw [Nat.zero_add]; unfold GAP; exact Nat.mod_eq_of_lt (by have := prm_big p; omega)) (by have := prm_big p; simp; omega) W)
 have z0 : (.agg #[.int .u64 0, .int .u64 0, .int .u64 0, .int .u64 0] : Value) = wv 0 := rfl
 have Z0 := Lib.hid z0
 clear z0
 go_enter Tryz.func112, Tryz.ntmps112
 have S0 := (St.nil w).alloc (wrow (PRM p)) _ rfl
 go_wp2_with (first | (refine wpList_wide rfl _ rfl _ rfl S0 _ (List.Mem.head _) ?_) | fail)
 refine (CS.out _).mono ?_
 rintro e W1 ⟨rfl, hb⟩
 have S1 := (S0.keep hb).alloc (wrow (GAP p)) _ rfl
 have hbl := Lib.hid (S0.keep hb).below
 clear hb
 go_wp2_with (first | (refine wpList_wide rfl _ rfl _ rfl S1 _ (List.Mem.head _) ?_) | (refine wpList_wide rfl _ rfl _ rfl S1 _ (List.Mem.tail _ (List.Mem.head _)) ?_))
 go_ret
 exact ⟨_, rfl, lastH _ _ _ (by simp), ((hbl.out.alloc hbl.out.size _).alloc (by have := hbl.out.size; simp; omega) _)⟩
theorem wv_P : (.agg #[.int .u64 18446744069414583343, .int .u64 18446744073709551615, .int .u64 18446744073709551615, .int .u64 18446744073709551615] : Value) = wv (PRM true) := by kernel_rfl
theorem wv_N : (.agg #[.int .u64 13822214165235122497, .int .u64 13451932020343611451, .int .u64 18446744073709551614, .int .u64 18446744073709551615] : Value) = wv (PRM false) := by kernel_rfl
theorem P_c (w : World) : Calls Tryz.prog 76 #[] w (RetR w true) := by
 have C := Lib.hid (fun W => ring_c true W)
 rw [← wv_P] at C
 go_enter Tryz.func76, Tryz.ntmps76
 go_wp2_with fail
 refine (C.out _).mono ?_
 rintro e W1 ⟨g, rfl, hg, hb⟩
 have HB := Lib.hid hb
 clear hb
 go_wp2_with fail
 go_ret
 exact ⟨g, rfl, hg, HB.out⟩
theorem N_c (w : World) : Calls Tryz.prog 85 #[] w (RetR w false) := by
 have C := Lib.hid (fun W => ring_c false W)
 rw [← wv_N] at C
 go_enter Tryz.func85, Tryz.ntmps85
 go_wp2_with fail
 refine (C.out _).mono ?_
 rintro e W1 ⟨g, rfl, hg, hb⟩
 have HB := Lib.hid hb
 clear hb
 go_wp2_with fail
 go_ret
 exact ⟨g, rfl, hg, HB.out⟩
def mpow (m : Nat) : Nat → Nat → Nat → Nat
 | 0, _, _ => 1 % m
 | f + 1, a, e => if e % 2 = 1 then a * mpow m f (a * a % m) (e / 2) % m else mpow m f (a * a % m) (e / 2)
theorem mpow_eq (m : Nat) : ∀ (f a e : Nat), e < 2 ^ f → mpow m f a e = a ^ e % m
 | 0, a, e, h => by
  obtain rfl : e = 0 := by simpa using h
  simp [mpow]
 | f + 1, a, e, h => by
  have ih := mpow_eq m f (a * a % m) (e / 2) (by rw [Nat.pow_succ] at h; omega)
  rw [mpow, ih, ← Nat.pow_mod, show a * a = a ^ 2 by rw [Nat.pow_succ, Nat.pow_one], ← Nat.pow_mul]
  split
  ·rename_i h1
   rw [Nat.mul_mod_mod, Nat.mul_comm, ← Nat.pow_succ, show (2 * (e / 2)).succ = e by omega]
  ·rename_i h1
   rw [show 2 * (e / 2) = e by omega]
def Pr (p : Nat) : Prop := 2 ≤ p ∧ ∀ d, d ∣ p → d = 1 ∨ d = p
theorem pr_mul {p a b : Nat} (hp : Pr p) (h : p ∣ a * b) : p ∣ a ∨ p ∣ b := by
 rcases hp.2 _ (Nat.gcd_dvd_left p a) with h1 | h1
 ·exact Or.inr (Nat.Coprime.dvd_of_dvd_mul_left h1 h)
 ·exact Or.inl (by have := Nat.gcd_dvd_right p a; rwa [h1] at this)
theorem exists_pr (n : Nat) : 2 ≤ n → ∃ p, Pr p ∧ p ∣ n := by
 induction n using Nat.strongRecOn with
 | ind n ih =>
  intro hn
  by_cases h : ∀ d, d ∣ n → d = 1 ∨ d = n
  ·exact ⟨n, ⟨hn, h⟩, Nat.dvd_refl n⟩
  ·have ⟨d, hd⟩ := Classical.not_forall.1 h
   have ⟨h1, h2⟩ : d ∣ n ∧ ¬ (d = 1 ∨ d = n) := Classical.not_imp.1 hd
   have h3 := Nat.le_of_dvd (by omega) h1
   have h4 : 0 < d := Nat.pos_of_dvd_of_pos h1 (by omega)
   obtain ⟨p, hp, hpd⟩ := ih d (by omega) (by omega)
   exact ⟨p, hp, Nat.dvd_trans hpd h1⟩
def ch : Nat → Nat → Nat
 | _, 0 => 1
 | 0, _ + 1 => 0
 | n + 1, k + 1 => ch n k + ch n (k + 1)
theorem ch_zero (n : Nat) : ch n 0 = 1 := by cases n <;> rfl
theorem ch_above : ∀ n k, n < k → ch n k = 0
 | _, 0, h => by omega
 | 0, _ + 1, _ => rfl
 | n + 1, k + 1, h => by rw [ch, ch_above n k (by omega), ch_above n (k + 1) (by omega)]
theorem ch_self : ∀ n, ch n n = 1
 | 0 => rfl
 | n + 1 => by rw [ch, ch_self n, ch_above n (n + 1) (by omega)]
theorem ch_mul : ∀ n k, (k + 1) * ch (n + 1) (k + 1) = (n + 1) * ch n k
 | 0, 0 => rfl
 | 0, k + 1 => by simp [ch]
 | n + 1, 0 => by
  have h := ch_mul n 0
  rw [ch_zero] at h ⊢
  rw [ch, ch_zero]
  omega
 | n + 1, k + 1 => by
  have h1 := ch_mul n k
  have h2 := ch_mul n (k + 1)
  have e1 : ch (n + 1 + 1) (k + 1 + 1) = ch (n + 1) (k + 1) + ch (n + 1) (k + 1 + 1) := rfl
  have e2 : ch (n + 1) (k + 1) = ch n k + ch n (k + 1) := rfl
  rw [e1]
  generalize ch (n + 1) (k + 1 + 1) = x at *
  generalize ch (n + 1) (k + 1) = y at *
  generalize ch n k = u at *
  generalize ch n (k + 1) = v at *
  subst e2
  have e3 : (k + 1 + 1) * (u + v + x) = (k + 1) * (u + v) + (u + v) + (k + 1 + 1) * x := by simp only [Nat.add_mul, Nat.mul_add, Nat.one_mul]; omega
  rw [e3, h1, h2]
  simp only [Nat.add_mul, Nat.mul_add, Nat.one_mul]; omega
def bs (n a : Nat) : Nat → Nat
 | 0 => 0
 | m + 1 => bs n a m + ch n m * a ^ m
theorem bs_succ (n a : Nat) : ∀ m, bs (n + 1) a (m + 1) = bs n a (m + 1) + a * bs n a m
 | 0 => by simp [bs, ch_zero]
 | m + 1 => by
  have h := bs_succ n a m
  rw [bs, h]
  show _ = bs n a (m + 1) + ch n (m + 1) * a ^ (m + 1) + a * (bs n a m + ch n m * a ^ m)
  have e : ch (n + 1) (m + 1) = ch n m + ch n (m + 1) := rfl
  have e2 : a * (ch n m * a ^ m) = ch n m * a ^ (m + 1) := by rw [Nat.pow_succ, Nat.mul_left_comm, Nat.mul_comm a]
  rw [e, Nat.add_mul, Nat.mul_add, e2]
  omega
theorem bs_all (a : Nat) : ∀ n, bs n a (n + 1) = (a + 1) ^ n
 | 0 => by simp [bs, ch]
 | n + 1 => by
  rw [bs_succ, show bs n a (n + 1 + 1) = bs n a (n + 1) by rw [bs, ch_above n (n + 1) (by omega)]; simp, bs_all a n, Nat.pow_succ, Nat.mul_comm a, Nat.mul_add, Nat.mul_one, Nat.add_comm]
theorem ch_dvd {p k : Nat} (hp : Pr p) (h0 : 0 < k) (hk : k < p) : p ∣ ch p k := by
 obtain ⟨n, rfl⟩ : ∃ n, p = n + 1 := ⟨p - 1, by omega⟩
 obtain ⟨j, rfl⟩ : ∃ j, k = j + 1 := ⟨k - 1, by omega⟩
 have h : n + 1 ∣ (j + 1) * ch (n + 1) (j + 1) := by rw [ch_mul]; exact Nat.dvd_mul_right _ _
 rcases pr_mul hp h with h | h
 ·have := Nat.le_of_dvd (by omega) h
  omega
 ·exact h
theorem bs_mod {p a : Nat} (hp : Pr p) : ∀ m, 0 < m → m ≤ p → bs p a m % p = 1 % p
 | 0, h, _ => by omega
 | 1, _, _ => by simp [bs, ch_zero]
 | m + 2, _, h => by
  have ih := bs_mod (a := a) hp (m + 1) (by omega) (by omega)
  rw [bs, Nat.add_mod, ih, Nat.mod_eq_zero_of_dvd (Nat.dvd_trans (ch_dvd hp (by omega) (by omega)) (Nat.dvd_mul_right _ _)), Nat.add_zero, Nat.mod_mod]
theorem fermat {p : Nat} (hp : Pr p) : ∀ a, a ^ p % p = a % p
 | 0 => by have := hp.1; rw [Nat.zero_pow (by omega)]
 | a + 1 => by
  have ih := fermat hp a
  have := hp.1
  rw [← bs_all, bs, ch_self, Nat.one_mul, Nat.add_mod, bs_mod hp p (by omega) (Nat.le_refl _), ih, ← Nat.add_mod, Nat.add_comm]
theorem fermat1 {p : Nat} (hp : Pr p) {a : Nat} (h : ¬ p ∣ a) : a ^ (p - 1) % p = 1 := by
 have h2 := hp.1
 have h1 := fermat hp a
 have e : a ^ p = a * a ^ (p - 1) := by rw [Nat.mul_comm, ← Nat.pow_succ, show (p - 1).succ = p by omega]
 have ha : 0 < a := Nat.pos_of_ne_zero (fun e => h (by rw [e]; exact Nat.dvd_zero p))
 have hq : 1 ≤ a ^ (p - 1) := Nat.pow_pos ha
 rw [e] at h1
 have hd : p ∣ a * (a ^ (p - 1) - 1) := by
  rw [Nat.mul_sub, Nat.mul_one]
  exact Nat.dvd_of_mod_eq_zero (Nat.sub_mod_eq_zero_of_mod_eq h1)
 rcases pr_mul hp hd with h3 | h3
 ·exact absurd h3 h
 ·obtain ⟨k, hk⟩ := h3
  rw [show a ^ (p - 1) = 1 + p * k by omega, Nat.add_mul_mod_self_left, Nat.mod_eq_of_lt (by omega)]
theorem pow_gcd (b r m n : Nat) : b ^ m % r = 1 % r → b ^ n % r = 1 % r → b ^ Nat.gcd m n % r = 1 % r := by
 induction m, n using Nat.gcd.induction with
 | H0 n => intro _ h; rwa [Nat.gcd_zero_left]
 | H1 m n hm ih =>
  intro h1 h2
  rw [Nat.gcd_rec]
  refine ih ?_ h1
  rw [← Nat.mod_add_div n m, Nat.pow_add, Nat.pow_mul, Nat.mul_mod, Nat.pow_mod (b ^ m), h1, ← Nat.pow_mod, Nat.one_pow, ← Nat.mul_mod, Nat.mul_one] at h2
  exact h2
theorem pock (N A B a : Nat) (hN : N = A * B + 1) (hA : 1 < A) (hB : 0 < B) (big : N < (A + 1) * (A + 1)) (h1 : a ^ (N - 1) % N = 1) (h2 : ∀ q, Pr q → q ∣ A → Nat.gcd (a ^ ((N - 1) / q) % N + N - 1) N = 1) : Pr N := by
 have hAB : 1 < A * B := Nat.lt_of_lt_of_le hA (Nat.le_mul_of_pos_right A hB)
 have key : ∀ r, Pr r → r ∣ N → A + 1 ≤ r := by
  intro r hr hrN
  have hr2 := hr.1
  have h1r : a ^ (A * B) % r = 1 % r := by
   have : a ^ (N - 1) % N % r = 1 % r := by rw [h1]
   rw [Nat.mod_mod_of_dvd _ hrN, show N - 1 = A * B by omega] at this
   exact this
  have hb : (a ^ B) ^ A % r = 1 % r := by rw [← Nat.pow_mul, Nat.mul_comm]; exact h1r
  have hra : ¬ r ∣ a ^ B := by
   intro hd
   have : r ∣ (a ^ B) ^ A := Nat.dvd_trans hd ⟨(a ^ B) ^ (A - 1), by rw [Nat.mul_comm, ← Nat.pow_succ, show (A - 1).succ = A by omega]⟩
   rw [Nat.mod_eq_zero_of_dvd this, Nat.mod_eq_of_lt (by omega)] at hb
   omega
  have hf := fermat1 hr hra
  have hg := pow_gcd (a ^ B) r A (r - 1) hb (by rw [hf, Nat.mod_eq_of_lt (by omega)])
  by_cases hgA : Nat.gcd A (r - 1) = A
  ·have h := Nat.gcd_dvd_right A (r - 1)
   rw [hgA] at h
   have := Nat.le_of_dvd (by omega) h
   omega
  ·exfalso
   obtain ⟨c, hc⟩ := Nat.gcd_dvd_left A (r - 1)
   generalize Nat.gcd A (r - 1) = g at hg hgA hc
   have hg0 : 0 < g := by exact Nat.pos_of_ne_zero (fun h => by rw [h, Nat.zero_mul] at hc; omega)
   have hc2 : 2 ≤ c := by
    rcases c with _ | _ | c
    ·omega
    ·omega
    ·omega
   obtain ⟨q, hq, d, hd⟩ := exists_pr c hc2
   have hqA : q ∣ A := ⟨g * d, by rw [hc, hd, Nat.mul_left_comm]⟩
   have hq2 := hq.1
   have := h2 q hq hqA
   have e : (N - 1) / q = B * (g * d) := by
    rw [show N - 1 = A * B by omega, hc, hd]
    apply Nat.div_eq_of_eq_mul_right (by omega)
    simp only [Nat.mul_comm, Nat.mul_left_comm]
   have h3 : a ^ ((N - 1) / q) % r = 1 := by
    rw [e, Nat.pow_mul, Nat.pow_mul, Nat.pow_mod, hg, ← Nat.pow_mod, Nat.one_pow, Nat.mod_eq_of_lt (by omega)]
   have h4 : r ∣ a ^ ((N - 1) / q) % N + N - 1 := by
    have h5 : a ^ ((N - 1) / q) % N % r = 1 := by rw [Nat.mod_mod_of_dvd _ hrN]; exact h3
    obtain ⟨k, hk⟩ := hrN
    have h6 := Nat.mod_add_div (a ^ ((N - 1) / q) % N) r
    rw [h5] at h6
    exact ⟨a ^ ((N - 1) / q) % N / r + k, by rw [Nat.mul_add, ← hk]; omega⟩
   have h7 := Nat.dvd_gcd h4 hrN
   rw [this] at h7
   have := Nat.le_of_dvd (by omega) h7
   omega
 refine ⟨by omega, fun d hd => ?_⟩
 obtain ⟨c, hc⟩ := hd
 by_cases hd1 : d = 1
 ·exact Or.inl hd1
 by_cases hdN : d = N
 ·exact Or.inr hdN
 exfalso
 have hd0 : d ≠ 0 := fun e => by rw [e, Nat.zero_mul] at hc; omega
 have hc0 : c ≠ 0 := fun e => by rw [e, Nat.mul_zero] at hc; omega
 have hc1 : c ≠ 1 := fun e => by rw [e, Nat.mul_one] at hc; omega
 obtain ⟨r, hr, hrd⟩ := exists_pr d (by omega)
 obtain ⟨s, hs, hsc⟩ := exists_pr c (by omega)
 have k1 := key r hr (Nat.dvd_trans hrd ⟨c, hc⟩)
 have k2 := key s hs (Nat.dvd_trans hsc ⟨d, by rw [hc, Nat.mul_comm]⟩)
 have k3 := Nat.le_of_dvd (by omega) hrd
 have k4 := Nat.le_of_dvd (by omega) hsc
 have := Nat.mul_le_mul (Nat.le_trans k1 k3) (Nat.le_trans k2 k4)
 omega
theorem pock_m (N A B a k : Nat) (hk : N < 2 ^ k) (hN : N = A * B + 1) (hA : 1 < A) (hB : 0 < B) (big : N < (A + 1) * (A + 1)) (h1 : mpow N k a (N - 1) = 1) (h2 : ∀ q, Pr q → q ∣ A → Nat.gcd (mpow N k a ((N - 1) / q) + N - 1) N = 1) : Pr N := by
 refine pock N A B a hN hA hB big ?_ fun q hq hd => ?_
 ·rw [← mpow_eq N k a _ (by omega)]; exact h1
 ·rw [← mpow_eq N k a _ (Nat.lt_of_le_of_lt (Nat.div_le_self _ _) (by omega))]; exact h2 q hq hd
def trial (n : Nat) : Nat → Nat → Bool
 | 0, d => n % (2 * d + 3) != 0
 | k + 1, d => trial n k d && trial n k (d + 2 ^ k)
theorem trial_all (n : Nat) : ∀ k d, trial n k d = true → ∀ i, d ≤ i → i < d + 2 ^ k → n % (2 * i + 3) ≠ 0
 | 0, d, h, i, h1, h2 => by
  obtain rfl : i = d := by simp at h2; omega
  simpa [trial] using h
 | k + 1, d, h, i, h1, h2 => by
  rw [trial, Bool.and_eq_true] at h
  rw [Nat.pow_succ] at h2
  by_cases hi : i < d + 2 ^ k
  ·exact trial_all n k d h.1 i h1 hi
  ·exact trial_all n k (d + 2 ^ k) h.2 i (by omega) (by omega)
theorem pr_small (n k : Nat) (h2 : 2 ≤ n) (ho : n % 2 = 1) (ht : trial n k 0 = true) (hb : n < (2 * 2 ^ k + 3) * (2 * 2 ^ k + 3)) : Pr n := by
 have key : ∀ r, Pr r → r ∣ n → 2 * 2 ^ k + 3 ≤ r := by
  intro r hr hd
  have hr2 := hr.1
  have e := Nat.mod_eq_zero_of_dvd hd
  have ho2 : r % 2 = 1 := by
   obtain ⟨c, hc⟩ := hd
   rcases Nat.mod_two_eq_zero_or_one r with h | h
   ·rw [hc, Nat.mul_mod, h, Nat.zero_mul] at ho; simp at ho
   ·exact h
  rcases Nat.lt_or_ge r (2 * 2 ^ k + 3) with h | h
  ·exfalso
   refine trial_all n k 0 ht ((r - 3) / 2) (Nat.zero_le _) (by omega) ?_
   rw [show 2 * ((r - 3) / 2) + 3 = r by omega]
   exact e
  ·exact h
 refine ⟨h2, fun d hd => ?_⟩
 obtain ⟨c, hc⟩ := hd
 by_cases hd1 : d = 1
 ·exact Or.inl hd1
 by_cases hdN : d = n
 ·exact Or.inr hdN
 exfalso
 have hd0 : d ≠ 0 := fun e => by rw [e, Nat.zero_mul] at hc; omega
 have hc0 : c ≠ 0 := fun e => by rw [e, Nat.mul_zero] at hc; omega
 have hc1 : c ≠ 1 := fun e => by rw [e, Nat.mul_one] at hc; omega
 obtain ⟨r, hr, hrd⟩ := exists_pr d (by omega)
 obtain ⟨s, hs, hsc⟩ := exists_pr c (by omega)
 have k1 := key r hr (Nat.dvd_trans hrd ⟨c, hc⟩)
 have k2 := key s hs (Nat.dvd_trans hsc ⟨d, by rw [hc, Nat.mul_comm]⟩)
 have k3 := Nat.le_of_dvd (by omega) hrd
 have k4 := Nat.le_of_dvd (by omega) hsc
 have := Nat.mul_le_mul (Nat.le_trans k1 k3) (Nat.le_trans k2 k4)
 omega
theorem pr_of_pr {p q : Nat} (hp : Pr p) (hq : Pr q) (h : q ∣ p) : q = p := (hp.2 q h).resolve_left (fun e => by have := hq.1; omega)
theorem pr_inv {p a : Nat} (hp : Pr p) (h : a % p ≠ 0) : a * a ^ (p - 2) % p = 1 := by
 have h2 := hp.1
 have := fermat1 hp (fun hd => h (Nat.mod_eq_zero_of_dvd hd))
 rw [Nat.mul_comm, ← Nat.pow_succ, show (p - 2).succ = p - 1 by omega]
 exact this
namespace Ec
abbrev clsOf {C : Type → Type} {a : Type} (_ : C a) : Type → Type := C
abbrev CR : Type → Type := clsOf (a := Dyadic) Dyadic.instCommRing
theorem r_mul_one {α : Type} [CR α] (a : α) : a * 1 = a := by grind
structure Fld (α : Type) [CR α] where
 inv : α → α
 mul_inv : ∀ a, a ≠ 0 → a * inv a = 1
 two : (2 : α) ≠ 0
 seven : ∀ x : α, x * x * x + 7 ≠ 0
inductive Pt (α : Type) where
 | none
 | af (x y : α)
section
variable {α : Type} [CR α] (K : Fld α)
def On : Pt α → Prop
 | .none => True
 | .af x y => y * y = x * x * x + 7
def neg : Pt α → Pt α
 | .none => .none
 | .af x y => .af x (-y)
noncomputable def lam (x1 y1 x2 y2 : α) : α := @ite _ (x1 = x2) (Classical.propDecidable _) (3 * x1 * x1 * K.inv (2 * y1)) ((y2 - y1) * K.inv (x2 - x1))
def third (l x1 y1 x2 : α) : Pt α := .af (l * l - x1 - x2) (l * (x1 - (l * l - x1 - x2)) - y1)
noncomputable def add : Pt α → Pt α → Pt α
 | .none, B => B
 | A, .none => A
 | .af x1 y1, .af x2 y2 => @ite _ (x1 = x2 ∧ y1 + y2 = 0) (Classical.propDecidable _) .none (third (lam K x1 y1 x2 y2) x1 y1 x2)
theorem add_none_left (A : Pt α) : add K .none A = A := rfl
theorem add_none_right (A : Pt α) : add K A .none = A := by cases A <;> rfl
theorem cancel (K : Fld α) {a x y : α} (ha : a ≠ 0) (h : a * x = a * y) : x = y := by
 have := K.mul_inv a ha
 have e1 : x = K.inv a * (a * x) := by grind
 have e2 : y = K.inv a * (a * y) := by grind
 rw [e1, e2, h]
theorem zero_or (K : Fld α) {a b : α} (h : a * b = 0) : a = 0 ∨ b = 0 := by
 by_cases ha : a = 0
 ·exact Or.inl ha
 ·exact Or.inr (cancel K ha (by rw [h]; grind))
theorem ne_mul (K : Fld α) {a b : α} (ha : a ≠ 0) (hb : b ≠ 0) : a * b ≠ 0 := fun h => (zero_or K h).elim ha hb
theorem y_ne (K : Fld α) {x y : α} (h : On (.af x y)) : y ≠ 0 := fun e => K.seven x (by
 have h1 : y * y = x * x * x + 7 := h
 rw [e] at h1; rw [← h1]; grind)
theorem two_y (K : Fld α) {x y : α} (h : On (.af x y)) : 2 * y ≠ 0 := ne_mul K K.two (y_ne K h)
structure Sl (x1 y1 x2 y2 l : α) : Prop where
 c : l * (x2 - x1) = y2 - y1
 t : l * (y1 + y2) = x1 * x1 + x1 * x2 + x2 * x2
theorem same_x (K : Fld α) {x y1 y2 : α} (h1 : On (.af x y1)) (h2 : On (.af x y2)) (h : ¬ y1 + y2 = 0) : y1 = y2 := by
 have e1 : y1 * y1 = x * x * x + 7 := h1
 have e2 : y2 * y2 = x * x * x + 7 := h2
 have e3 : (y1 + y2) * (y1 - y2) = 0 := by grind
 rcases zero_or K e3 with h3 | h3
 ·exact absurd h3 h
 ·grind
theorem sl_lam {x1 y1 x2 y2 : α} (h1 : On (.af x1 y1)) (h2 : On (.af x2 y2)) (h : ¬ (x1 = x2 ∧ y1 + y2 = 0)) : Sl x1 y1 x2 y2 (lam K x1 y1 x2 y2) := by
 unfold lam
 by_cases e : x1 = x2
 ·subst e
  rw [if_pos rfl]
  have hy : y1 = y2 := same_x K h1 h2 (fun h3 => h ⟨rfl, h3⟩)
  subst hy
  have := K.mul_inv _ (two_y K h1)
  exact ⟨by grind, by grind⟩
 ·rw [if_neg e]
  have hd : x2 - x1 ≠ 0 := fun h3 => e (by grind)
  have hi := K.mul_inv _ hd
  have e1 : y1 * y1 = x1 * x1 * x1 + 7 := h1
  have e2 : y2 * y2 = x2 * x2 * x2 + 7 := h2
  have hc : (y2 - y1) * K.inv (x2 - x1) * (x2 - x1) = y2 - y1 := by grind
  refine ⟨hc, cancel K hd ?_⟩
  have e3 : (x2 - x1) * ((y2 - y1) * K.inv (x2 - x1) * (y1 + y2)) = (y2 - y1) * (y1 + y2) := by grind
  rw [e3]; grind
theorem sl_uniq (K : Fld α) {x1 y1 x2 y2 l l' : α} (h : ¬ (x1 = x2 ∧ y1 + y2 = 0)) (s : Sl x1 y1 x2 y2 l) (s' : Sl x1 y1 x2 y2 l') : l = l' := by
 by_cases e : x2 - x1 = 0
 ·have e2 : y1 + y2 ≠ 0 := fun h2 => h ⟨by grind, h2⟩
  exact cancel K e2 (by have := s.t; have := s'.t; grind)
 ·exact cancel K e (by have := s.c; have := s'.c; grind)
theorem add_at {x1 y1 x2 y2 l : α} (h1 : On (.af x1 y1)) (h2 : On (.af x2 y2)) (h : ¬ (x1 = x2 ∧ y1 + y2 = 0)) (s : Sl x1 y1 x2 y2 l) : add K (.af x1 y1) (.af x2 y2) = third l x1 y1 x2 := by
 have := sl_uniq K h (sl_lam K h1 h2 h) s
 show (@ite _ (x1 = x2 ∧ y1 + y2 = 0) (Classical.propDecidable _) .none (third (lam K x1 y1 x2 y2) x1 y1 x2)) = _
 rw [if_neg h, this]
theorem add_inv {x1 y1 x2 y2 : α} (h : x1 = x2 ∧ y1 + y2 = 0) : add K (.af x1 y1) (.af x2 y2) = .none := by
 show (@ite _ (x1 = x2 ∧ y1 + y2 = 0) (Classical.propDecidable _) .none (third (lam K x1 y1 x2 y2) x1 y1 x2)) = _
 rw [if_pos h]
theorem sl_on {x1 y1 x2 y2 l : α} (h2 : On (.af x2 y2)) (s : Sl x1 y1 x2 y2 l) : On (third l x1 y1 x2) := by
 have e2 : y2 * y2 = x2 * x2 * x2 + 7 := h2
 have c := s.c; have t := s.t
 show (l * (x1 - (l * l - x1 - x2)) - y1) * (l * (x1 - (l * l - x1 - x2)) - y1) = (l * l - x1 - x2) * (l * l - x1 - x2) * (l * l - x1 - x2) + 7
 have e1 : y1 = y2 - l * (x2 - x1) := by grind
 subst e1
 have t2 : l * (2 * y2 - l * (x2 - x1)) - (x1 * x1 + x1 * x2 + x2 * x2) = 0 := by grind
 have e7 : (7 : α) = y2 * y2 - x2 * x2 * x2 := by grind
 rw [e7]
 grind
theorem sl_sym {x1 y1 x2 y2 l : α} (s : Sl x1 y1 x2 y2 l) : Sl x2 y2 x1 y1 l := ⟨by have := s.c; grind, by have := s.t; grind⟩
theorem third_sym {x1 y1 x2 y2 l : α} (s : Sl x1 y1 x2 y2 l) : third l x2 y2 x1 = third l x1 y1 x2 := by
 have c := s.c
 unfold third
 congr 1
 ·grind
 ·grind
theorem sl_third {x1 y1 x2 y2 l x3 : α} (c : l * (x2 - x1) = y2 - y1) (t : l * (y1 + y2) = x1 * x1 + x1 * x2 + x2 * x2) (h : x3 = l * l - x1 - x2) : Sl x1 (-y1) x3 (l * (x1 - x3) - y1) (-l) := by
 have ey : y2 = y1 + l * (x2 - x1) := by grind
 subst ey
 have a2 : l * l = x1 + x2 + x3 := by grind
 clear h c
 have a3 : 2 * (l * y1) + l * l * (x2 - x1) = x1 * x1 + x1 * x2 + x2 * x2 := by grind
 rw [a2] at a3
 constructor
 ·grind
 ·have a4 : -l * (-y1 + (l * (x1 - x3) - y1)) = 2 * (l * y1) - l * l * (x1 - x3) := by grind
  rw [a4, a2]; clear a4 t; grind
theorem third_back {x1 y1 x2 y2 l x3 : α} (c : l * (x2 - x1) = y2 - y1) (h : x3 = l * l - x1 - x2) : third (-l) x1 (-y1) x3 = .af x2 y2 := by
 have e : -l * -l - x1 - x3 = x2 := by grind
 have e2 : -l * (x1 - x2) - -y1 = y2 := by clear h e; grind
 unfold third
 rw [e, e2]
theorem on_add {A B : Pt α} (hA : On A) (hB : On B) : On (add K A B) := by
 match A, B, hA, hB with
 | .none, B, _, hB => exact hB
 | .af x y, .none, hA, _ => exact hA
 | .af x1 y1, .af x2 y2, hA, hB =>
  by_cases h : x1 = x2 ∧ y1 + y2 = 0
  ·rw [add_inv K h]; trivial
  ·have s := sl_lam K hA hB h
   rw [add_at K hA hB h s]; exact sl_on hB s
theorem add_comm {A B : Pt α} (hA : On A) (hB : On B) : add K A B = add K B A := by
 match A, B, hA, hB with
 | .none, B, _, _ => rw [add_none_left, add_none_right]
 | .af x y, .none, _, _ => rw [add_none_left, add_none_right]
 | .af x1 y1, .af x2 y2, hA, hB =>
  by_cases h : x1 = x2 ∧ y1 + y2 = 0
  ·rw [add_inv K h, add_inv K ⟨h.1.symm, by have := h.2; grind⟩]
  ·have s := sl_lam K hA hB h
   rw [add_at K hA hB h s, add_at K hB hA (fun h' => h ⟨h'.1.symm, by have := h'.2; grind⟩) (sl_sym s), third_sym s]
theorem on_neg {A : Pt α} (h : On A) : On (neg A) := by
 match A, h with
 | .none, _ => trivial
 | .af x y, h =>
  have e : y * y = x * x * x + 7 := h
  show -y * -y = x * x * x + 7
  grind
theorem neg_neg (A : Pt α) : neg (neg A) = A := by
 cases A with
 | none => rfl
 | af x y => show Pt.af x (- -y) = _; congr 1; grind
theorem add_neg (A : Pt α) : add K A (neg A) = .none := by
 cases A with
 | none => rfl
 | af x y => exact add_inv K ⟨rfl, by grind⟩
theorem neg_add {A B : Pt α} (hA : On A) (hB : On B) : add K (neg A) (neg B) = neg (add K A B) := by
 match A, B, hA, hB with
 | .none, B, _, _ => rfl
 | .af x y, .none, _, _ => rfl
 | .af x1 y1, .af x2 y2, hA, hB =>
  by_cases h : x1 = x2 ∧ y1 + y2 = 0
  ·rw [add_inv K h]; exact add_inv K ⟨h.1, by have := h.2; grind⟩
  ·have s := sl_lam K hA hB h
   obtain ⟨l, hl⟩ : ∃ l, l = lam K x1 y1 x2 y2 := ⟨_, rfl⟩
   rw [← hl] at s
   rw [add_at K hA hB h s]
   have s' : Sl x1 (-y1) x2 (-y2) (-l) := ⟨by have := s.c; grind, by have := s.t; grind⟩
   show add K (.af x1 (-y1)) (.af x2 (-y2)) = _
   rw [add_at K (on_neg hA) (on_neg hB) (fun h' => h ⟨h'.1, by have := h'.2; grind⟩) s']
   unfold third neg
   congr 1
   ·grind
   ·grind
theorem neg_add_self {A B : Pt α} (hA : On A) (hB : On B) : add K (neg A) (add K A B) = B := by
 match A, B, hA, hB with
 | .none, B, _, _ => rfl
 | .af x1 y1, .none, _, _ => rw [add_none_right, add_comm K (on_neg (by assumption)) (by assumption), add_neg]
 | .af x1 y1, .af x2 y2, hA, hB =>
  by_cases h : x1 = x2 ∧ y1 + y2 = 0
  ·rw [add_inv K h, add_none_right]
   show Pt.af x1 (-y1) = _
   rw [h.1]; congr 1; have := h.2; grind
  ·have s := sl_lam K hA hB h
   obtain ⟨l, hl⟩ : ∃ l, l = lam K x1 y1 x2 y2 := ⟨_, rfl⟩
   rw [← hl] at s
   have h3 := sl_on hB s
   rw [add_at K hA hB h s]
   obtain ⟨x3, hx3⟩ : ∃ x3, x3 = l * l - x1 - x2 := ⟨_, rfl⟩
   unfold third at h3 ⊢
   rw [← hx3] at h3 ⊢
   have c := s.c; have t := s.t
   have e1 : y1 * y1 = x1 * x1 * x1 + 7 := hA
   have e2 : y2 * y2 = x2 * x2 * x2 + 7 := hB
   show add K (.af x1 (-y1)) _ = _
   by_cases h' : x1 = x3 ∧ -y1 + (l * (x1 - x3) - y1) = 0
   ·exfalso
    have := two_y K hA
    apply this
    have h5 := h'.1; have h6 := h'.2
    rw [h5] at h6
    grind
   ·have s' : Sl x1 (-y1) x3 (l * (x1 - x3) - y1) (-l) := sl_third c t hx3
    rw [add_at K (on_neg hA) h3 h' s']
    exact third_back c hx3
theorem assoc_x (e f p q s t U V D1 D2 : α) (hU : U = t*q + s*(s^2-e-p) + f) (hV : V = s*p+t*(t^2-e-q)+f) (h1 : D1 = q-(s^2-e-p)) (h2 : D2 = p-(t^2-e-q)) (hR : e*(p-q)+f*(t-s)+p^2-q^2+t^2*q-s^2*p = 0) :
 U^2*D2^2-V^2*D1^2-(s^2-t^2+2*q-2*p)*D1^2*D2^2 = 0 := by
 have h : U^2*D2^2-V^2*D1^2-(s^2-t^2+2*q-2*p)*D1^2*D2^2 = (2*e^3 + 6*e^2*p + 6*e^2*q - 2*e^2*s^2 + 2*e^2*s*t - 2*e^2*t^2 - 2*e*f*s - 2*e*f*t + 6*e*p^2 + 12*e*p*q - 5*e*p*s^2 + 2*e*p*s*t - 5*e*p*t^2 + 6*e*q^2 - 5*e*q*s^2 + 2*e*q*s*t - 5*e*q*t^2 - 2*e*s^3*t + 2*e*s^2*t^2 - 2*e*s*t^3 - 2*f*p*s - 2*f*p*t - 2*f*q*s - 2*f*q*t + f*s^3 + f*s^2*t + f*s*t^2 + f*t^3 + 2*p^3 + 6*p^2*q - 3*p^2*s^2 - 3*p^2*t^2 + 6*p*q^2 - 6*p*q*s^2 - 6*p*q*t^2 + p*s^4 + 3*p*s^2*t^2 - 2*p*s*t^3 + 2*q^3 - 3*q^2*s^2 - 3*q^2*t^2 - 2*q*s^3*t + 3*q*s^2*t^2 + q*t^4 + 2*s^3*t^3) * (e*(p-q)+f*(t-s)+p^2-q^2+t^2*q-s^2*p) := by
  subst hU hV h1 h2
  grind
 rw [h, hR]; grind
theorem assoc_y (e f p q s t U V D1 D2 : α) (hU : U = t*q + s*(s^2-e-p) + f) (hV : V = s*p+t*(t^2-e-q)+f) (h1 : D1 = q-(s^2-e-p)) (h2 : D2 = p-(t^2-e-q)) (hR : e*(p-q)+f*(t-s)+p^2-q^2+t^2*q-s^2*p = 0) :
 D2*U*(U^2-(e+(s^2-e-p)+2*q)*D1^2)+(t*q-s*p)*D1^3*D2-V*D1*(U^2-(e+(s^2-e-p)+q+p)*D1^2) = 0 := by
 have h : D2*U*(U^2-(e+(s^2-e-p)+2*q)*D1^2)+(t*q-s*p)*D1^3*D2-V*D1*(U^2-(e+(s^2-e-p)+q+p)*D1^2) = (-2*e^3*s + e^2*f - 6*e^2*p*s - 4*e^2*q*s + 2*e^2*q*t + 4*e^2*s^3 + 2*e^2*s*t^2 + 2*e*f*p + 2*e*f*q + e*f*s^2 + 2*e*f*s*t - e*f*t^2 - 6*e*p^2*s - 8*e*p*q*s + 4*e*p*q*t + 8*e*p*s^3 + 4*e*p*s*t^2 - 2*e*q^2*s + 4*e*q^2*t + 7*e*q*s^3 + e*q*s^2*t + 5*e*q*s*t^2 - e*q*t^3 - 2*e*s^5 - 4*e*s^3*t^2 - f^2*s - f^2*t + f*p^2 + 2*f*p*q + f*p*s^2 + 2*f*p*s*t - f*p*t^2 + f*q^2 - f*q*s^2 - 2*f*q*s*t - 3*f*q*t^2 - 2*f*s^4 - 2*f*s^3*t + f*s^2*t^2 - 2*p^3*s - 4*p^2*q*s + 2*p^2*q*t + 4*p^2*s^3 + 2*p^2*s*t^2 - 2*p*q^2*s + 4*p*q^2*t + 7*p*q*s^3 + p*q*s^2*t + 5*p*q*s*t^2 - p*q*t^3 - 2*p*s^5 - 4*p*s^3*t^2 + 2*q^3*t + 2*q^2*s^3 - 2*q^2*s^2*t - 2*q^2*t^3 - 3*q*s^5 - 3*q*s^4*t - 5*q*s^3*t^2 + q*s^2*t^3 + 2*s^5*t^2) * (e*(p-q)+f*(t-s)+p^2-q^2+t^2*q-s^2*p) := by
  subst hU hV h1 h2
  grind
 rw [h, hR]; grind
theorem assoc_x1 (e f p q s t V D2 E W : α) (hq : q = s^2-e-p) (hf : f = -(s+t)*q) (hV : V = s*p+t*(t^2-e-q)+f) (h2 : D2 = p-(t^2-e-q)) (hE : E = f+2*t*q) (hW : W = s*f+s^2*p-p^2-e*p+2*e*q+3*q^2) :
 W^2*D2^2-V^2*E^2-(s^2-t^2+2*q-2*p)*E^2*D2^2 = 0 := by
 subst hW hE hV h2 hf hq
 grind
theorem assoc_y1 (e f p q s t V D2 E W : α) (hq : q = s^2-e-p) (hf : f = -(s+t)*q) (hV : V = s*p+t*(t^2-e-q)+f) (h2 : D2 = p-(t^2-e-q)) (hE : E = f+2*t*q) (hW : W = s*f+s^2*p-p^2-e*p+2*e*q+3*q^2) :
 D2*W*(W^2-(e+3*q)*E^2)+(t*q-s*p)*E^3*D2-V*E*(W^2-(e+2*q+p)*E^2) = 0 := by
 subst hW hE hV h2 hf hq
 grind
theorem shift_u {x1 y1 x2 y2 x3 y3 s t u xS yS e f p q : α} (he : e = 3 * x2) (hf : f = 2 * y2) (hp : p = x1 - x2) (hq : q = x3 - x2) (cs : s * (x2 - x1) = y2 - y1) (ct : t * (x3 - x2) = y3 - y2) (hxS : xS = s * s - x1 - x2) (hyS : yS = s * (x1 - xS) - y1) (cu : u * (x3 - xS) = y3 - yS) : u * (q - (s^2 - e - p)) = t * q + s * (s^2 - e - p) + f := by
 have h1 : x3 - xS = q - (s^2 - e - p) := by clear cs ct cu hyS hf; grind
 have h3 : xS - x2 = s^2 - e - p := by clear cs ct cu hyS hf h1; grind
 have h2 : y3 - yS = t * q + s * (s^2 - e - p) + f := by rw [← h3]; clear cu hxS he h1 h3 hp; grind
 rw [← h1, cu, h2]
theorem shift_v {x1 y1 x2 y2 x3 s t v xT yT e f p q : α} (he : e = 3 * x2) (hf : f = 2 * y2) (hp : p = x1 - x2) (hq : q = x3 - x2) (cs : s * (x2 - x1) = y2 - y1) (hxT : xT = t * t - x2 - x3) (hyT : yT = t * (x2 - xT) - y2) (cv : v * (xT - x1) = yT - y1) : v * (p - (t^2 - e - q)) = s * p + t * (t^2 - e - q) + f := by
 have h1 : x1 - xT = p - (t^2 - e - q) := by clear cs cv hyT hf; grind
 have h3 : xT - x2 = t^2 - e - q := by clear cs cv hyT hf h1; grind
 have h2 : y1 - yT = s * p + t * (t^2 - e - q) + f := by rw [← h3]; clear cv hxT he h1 h3 hq; grind
 rw [← h1, ← h2]
 clear h1 h2 hxT hyT cs; grind
theorem shift_s {x1 y1 x2 y2 s e f p : α} (he : e = 3 * x2) (hf : f = 2 * y2) (hp : p = x1 - x2) (cs : s * (x2 - x1) = y2 - y1) (ts : s * (y1 + y2) = x1 * x1 + x1 * x2 + x2 * x2) : s * f + s^2 * p = 3 * x2 * x2 + e * p + p^2 := by
 have h1 : y1 + y2 = f + s * p := by grind
 have h2 : x1 = x2 + p := by grind
 rw [h1] at ts
 subst h2
 clear cs hp h1 hf
 subst he
 have h3 : s * f + s^2 * p = s * (f + s * p) := by clear ts; grind
 rw [h3, ts]; clear h3 ts; grind
theorem shift_R {s t e f p q x2 : α} (hs : s * f + s^2 * p = 3 * x2 * x2 + e * p + p^2) (ht : t * f + t^2 * q = 3 * x2 * x2 + e * q + q^2) : e*(p-q)+f*(t-s)+p^2-q^2+t^2*q-s^2*p = 0 := by
 have h : e*(p-q)+f*(t-s)+p^2-q^2+t^2*q-s^2*p = (t * f + t^2 * q - (3 * x2 * x2 + e * q + q^2)) - (s * f + s^2 * p - (3 * x2 * x2 + e * p + p^2)) := by clear hs ht; grind
 rw [h, hs, ht]; clear h hs ht; grind
theorem slopes_x (K : Fld α) {u v D E m : α} (hD : D ≠ 0) (hE : E ≠ 0) (h : (u*E)^2*D^2-(v*D)^2*E^2-m*E^2*D^2 = 0) : u^2 - v^2 - m = 0 := by
 refine cancel K (ne_mul K (ne_mul K hE hE) (ne_mul K hD hD)) ?_
 rw [show (u*E)^2*D^2-(v*D)^2*E^2-m*E^2*D^2 = E * E * (D * D) * (u^2 - v^2 - m) from by clear h; grind] at h
 rw [h]; clear h; grind
theorem slopes_y (K : Fld α) {u v D E a b m : α} (hD : D ≠ 0) (hE : E ≠ 0) (h : D*(u*E)*((u*E)^2-a*E^2)+m*E^3*D-(v*D)*E*((u*E)^2-b*E^2) = 0) : u * (u^2 - a) + m - v * (u^2 - b) = 0 := by
 refine cancel K (ne_mul K (ne_mul K hE (ne_mul K hE hE)) hD) ?_
 rw [show D*(u*E)*((u*E)^2-a*E^2)+m*E^3*D-(v*D)*E*((u*E)^2-b*E^2) = E * (E * E) * D * (u * (u^2 - a) + m - v * (u^2 - b)) from by clear h; grind] at h
 rw [h]; clear h; grind
theorem same_third {x1 y1 x2 x3 y3 s t u v xS xT e p q xs : α} (he : e = 3 * x2) (hp : p = x1 - x2) (hq : q = x3 - x2) (hxS : xS = s * s - x1 - x2) (hxT : xT = t * t - x2 - x3) (hxs : xs = xS - x2) (hy : y3 - y1 = t * q - s * p) (gx : u^2 - v^2 - (s^2-t^2+2*q-2*p) = 0) (gy : u * (u^2 - (e + xs + 2*q)) + (t*q - s*p) - v * (u^2 - (e + xs + q + p)) = 0) : third u x3 y3 xS = third v x1 y1 xT := by
 have hX : u * u - x3 - xS = v * v - x1 - xT := by
  clear gy hy; grind
 unfold third
 rw [← hX]
 congr 1
 have e1 : u^2 - (e + xs + 2*q) = u * u - x3 - xS - x3 := by clear gx gy hX hxS hxT hy; grind
 have e2 : u^2 - (e + xs + q + p) = u * u - x3 - xS - x1 := by clear gx gy hX hxS hxT hy; grind
 rw [e1, e2, ← hy] at gy
 clear gx hX hxS hxT hy e1 e2 hxs hp hq he
 grind
theorem assoc_gen (K : Fld α) {x1 y1 x2 y2 x3 y3 s t u v xS yS xT yT : α} (hs : Sl x1 y1 x2 y2 s) (ht : Sl x2 y2 x3 y3 t) (hxS : xS = s * s - x1 - x2) (hyS : yS = s * (x1 - xS) - y1) (hxT : xT = t * t - x2 - x3) (hyT : yT = t * (x2 - xT) - y2) (hu : Sl xS yS x3 y3 u) (hv : Sl x1 y1 xT yT v) (hD : x1 - xT ≠ 0) (oC : On (.af x3 y3)) (oS : On (.af xS yS)) (hn : ¬ (xS = x3 ∧ yS + y3 = 0)) : third u xS yS x3 = third v x1 y1 xT := by
 rw [← third_sym hu]
 obtain ⟨e, he⟩ : ∃ e, e = 3 * x2 := ⟨_, rfl⟩
 obtain ⟨f, hf⟩ : ∃ f, f = 2 * y2 := ⟨_, rfl⟩
 obtain ⟨p, hp⟩ : ∃ p, p = x1 - x2 := ⟨_, rfl⟩
 obtain ⟨q, hq⟩ : ∃ q, q = x3 - x2 := ⟨_, rfl⟩
 have U := shift_u he hf hp hq hs.c ht.c hxS hyS hu.c
 have V := shift_v he hf hp hq hs.c hxT hyT hv.c
 have R1 := shift_s he hf hp hs.c hs.t
 have R2 := shift_s he hf hq (sl_sym ht).c (sl_sym ht).t
 have D2 : x1 - xT = p - (t^2 - e - q) := by clear hu hv hs ht hyT hyS oC oS hn hD U V R1 R2 hxS; grind
 have D1 : x3 - xS = q - (s^2 - e - p) := by clear hu hv hs ht hyT hyS oC oS hn hD U V R1 R2 hxT D2; grind
 have hy : y3 - y1 = t * q - s * p := by
  have c1 := hs.c; have c2 := ht.c
  rw [hp, hq]
  clear hu hv hs ht hyT hyS oC oS hn hD U V R1 R2 hxT hxS D1 D2
  grind
 by_cases hE : x3 - xS = 0
 ·
  have hx : xS = x3 := by clear hu hv hs ht hyT hyS oC oS hn hD U V R1 R2 hxT hxS D1 D2 hy; grind
  subst hx
  have hyy : yS = y3 := same_x K oS oC (fun h => hn ⟨rfl, h⟩)
  subst hyy
  have hq2 : q = s^2 - e - p := by rw [hE] at D1; clear hu hv hs ht hyT hyS oC oS hn hD U V R1 R2 hxT hxS D2 hy; grind
  have hf2 : f = -(s+t)*q := by rw [← hq2] at U; clear hu hv hs ht hyT hyS oC oS hn hD V R1 R2 hxT hxS D2 hy D1; grind
  have E0 := two_y K oC
  have hEE : 2 * yS = f + 2*t*q := by
   have c2 := ht.c
   rw [hq, hf]
   clear hu hv hs ht hyT hyS oC oS hn hD U V R1 R2 hxT hxS D1 D2 hq2 hf2 E0 hy
   grind
  have hW : u * (2 * yS) = s*f+s^2*p-p^2-e*p+2*e*q+3*q^2 := by
   have h1 : u * (2 * yS) = 3 * xS * xS := by
    have := hu.t
    clear hv hs ht hyT hyS oC oS hn hD U V R1 R2 hxT hxS D1 D2 hq2 hf2 E0 hEE hy hu
    grind
   have h2 : s*f+s^2*p-p^2-e*p+2*e*q+3*q^2 = 3 * x2 * x2 + e * p + p^2 - p^2 - e*p+2*e*q+3*q^2 := by rw [R1]
   rw [h1, h2, hq, he]
   clear hu hv hs ht hyT hyS oC oS hn hD U V R1 R2 hxT hxS D1 D2 hq2 hf2 E0 hEE h1 h2 hy
   grind
  rw [D2] at hD
  refine same_third he hp hq hxS hxT (xs := q) hq hy ?_ ?_
  ·refine slopes_x K hD E0 ?_
   rw [V]
   exact assoc_x1 e f p q s t _ _ _ _ hq2 hf2 rfl rfl hEE hW
  ·refine slopes_y K hD E0 ?_
   rw [V]
   rw [show e + q + 2*q = e + 3*q from by grind, show e + q + q + p = e + 2*q+p from by grind]
   exact assoc_y1 e f p q s t _ _ _ _ hq2 hf2 rfl rfl hEE hW
 ·rw [D2] at hD
  rw [D1] at hE
  have R := shift_R R1 R2
  refine same_third he hp hq hxS hxT (xs := s^2-e-p) ?_ hy ?_ ?_
  ·rw [hxS, he, hp]; clear hu hv hs ht hyT hyS oC oS hn hD U V R1 R2 hxT hxS D1 D2 hy hE R; grind
  ·refine slopes_x K hD hE ?_
   rw [V, U]
   exact assoc_x e f p q s t _ _ _ _ rfl rfl rfl rfl R
  ·refine slopes_y K hD hE ?_
   rw [V, U]
   exact assoc_y e f p q s t _ _ _ _ rfl rfl rfl rfl R
theorem neg_of {x1 y1 x2 y2 : α} (h : x1 = x2 ∧ y1 + y2 = 0) : Pt.af x2 y2 = neg (.af x1 y1) := by
 show Pt.af x2 y2 = .af x1 (-y1)
 rw [h.1]; congr 1; have := h.2; clear h; grind
theorem neg_add_self' (K : Fld α) {A B : Pt α} (hA : On A) (hB : On B) : add K A (add K (neg A) B) = B := by
 have := neg_add_self K (on_neg hA) hB
 rw [neg_neg] at this; exact this
theorem assoc_inv1 (K : Fld α) {A C : Pt α} (hA : On A) (hC : On C) : add K (add K A (neg A)) C = add K A (add K (neg A) C) := by
 rw [add_neg, add_none_left, neg_add_self' K hA hC]
theorem assoc_inv2 (K : Fld α) {A B : Pt α} (hA : On A) (hB : On B) : add K (add K A B) (neg B) = add K A (add K B (neg B)) := by
 rw [add_neg, add_none_right, add_comm K (on_add K hA hB) (on_neg hB), add_comm K hA hB, neg_add_self K hB hA]
theorem assoc_inv3 (K : Fld α) {A B C : Pt α} (hA : On A) (hB : On B) (h : C = neg (add K A B)) : add K (add K A B) C = add K A (add K B C) := by
 rw [h, add_neg]
 have e : add K B (neg (add K A B)) = neg A := by
  rw [add_comm K hA hB, ← neg_add K hB hA, neg_add_self' K hB (on_neg hA)]
 rw [e, add_neg]
theorem assoc_inv4 (K : Fld α) {A B C : Pt α} (hB : On B) (hC : On C) (h : A = neg (add K B C)) : add K (add K A B) C = add K A (add K B C) := by
 have h1 : add K C (add K B A) = .none := by
  have hA : On A := by rw [h]; exact on_neg (on_add K hB hC)
  rw [← assoc_inv3 K hC hB (by rw [h, add_comm K hB hC]), h, add_comm K hC hB, add_neg]
 have hA : On A := by rw [h]; exact on_neg (on_add K hB hC)
 rw [add_comm K (on_add K hA hB) hC, add_comm K hA hB, h1, h, add_comm K (on_neg (on_add K hB hC)) (on_add K hB hC), add_neg]
theorem eq_sub {a b : α} (h : a - b = 0) : b = a := by grind
theorem two_zero {y : α} (h : -y = y) : 2 * y = 0 := by grind
theorem y_other {x2 y2 x3 y3 t xT yT : α} (c : t * (x3 - x2) = y3 - y2) (h : yT = t * (x2 - xT) - y2) : yT = t * (x3 - xT) - y3 := by grind
theorem y_before {x2 y2 x1 y1 s xS yS : α} (c : s * (x2 - x1) = y2 - y1) (h : yS = s * (x1 - xS) - y1) : yS = s * (x2 - xS) - y2 := by grind
theorem sub_sw {x a b c : α} (h : x = a - b - c) : x = a - c - b := by grind
theorem assoc (K : Fld α) {A B C : Pt α} (hA : On A) (hB : On B) (hC : On C) : add K (add K A B) C = add K A (add K B C) := by
 match A, B, C, hA, hB, hC with
 | .none, B, C, _, _, _ => rfl
 | .af x1 y1, .none, C, _, _, _ => rfl
 | .af x1 y1, .af x2 y2, .none, _, _, _ => rw [add_none_right, add_none_right]
 | .af x1 y1, .af x2 y2, .af x3 y3, hA, hB, hC =>
  by_cases h12 : x1 = x2 ∧ y1 + y2 = 0
  ·rw [neg_of h12]; exact assoc_inv1 K hA hC
  by_cases h23 : x2 = x3 ∧ y2 + y3 = 0
  ·rw [neg_of h23]; exact assoc_inv2 K hA hB
  have hs := sl_lam K hA hB h12
  have ht := sl_lam K hB hC h23
  obtain ⟨s, es⟩ : ∃ s, s = lam K x1 y1 x2 y2 := ⟨_, rfl⟩
  obtain ⟨t, et⟩ : ∃ t, t = lam K x2 y2 x3 y3 := ⟨_, rfl⟩
  rw [← es] at hs
  rw [← et] at ht
  obtain ⟨xS, hxS⟩ : ∃ x, x = s * s - x1 - x2 := ⟨_, rfl⟩
  obtain ⟨yS, hyS⟩ : ∃ y, y = s * (x1 - xS) - y1 := ⟨_, rfl⟩
  obtain ⟨xT, hxT⟩ : ∃ x, x = t * t - x2 - x3 := ⟨_, rfl⟩
  obtain ⟨yT, hyT⟩ : ∃ y, y = t * (x2 - xT) - y2 := ⟨_, rfl⟩
  have eS : add K (.af x1 y1) (.af x2 y2) = .af xS yS := by rw [add_at K hA hB h12 hs, hyS, hxS]; rfl
  have eT : add K (.af x2 y2) (.af x3 y3) = .af xT yT := by rw [add_at K hB hC h23 ht, hyT, hxT]; rfl
  have oS : On (.af xS yS) := by rw [← eS]; exact on_add K hA hB
  have oT : On (.af xT yT) := by rw [← eT]; exact on_add K hB hC
  by_cases hn : xS = x3 ∧ yS + y3 = 0
  ·exact assoc_inv3 K hA hB (by rw [eS]; exact neg_of hn)
  by_cases hm : xT = x1 ∧ yT + y1 = 0
  ·exact assoc_inv4 K hB hC (by rw [eT]; exact neg_of hm)
  have hm' : ¬ (x1 = xT ∧ y1 + yT = 0) := fun h => hm ⟨h.1.symm, by have := h.2; clear h; grind⟩
  have hn' : ¬ (x3 = xS ∧ y3 + yS = 0) := fun h => hn ⟨h.1.symm, by have := h.2; clear h; grind⟩
  rw [eS, eT]
  have hu := sl_lam K oS hC hn
  have hv := sl_lam K hA oT hm'
  rw [add_at K oS hC hn hu, add_at K hA oT hm' hv]
  by_cases hD : x1 - xT = 0
  ·by_cases hE : x3 - xS = 0
   ·exfalso
    have e1 : xT = x1 := eq_sub hD
    have e3 : xS = x3 := eq_sub hE
    rw [e1] at oT eT hm'
    rw [e3] at oS eS hn'
    have f1 : y1 = yT := same_x K hA oT (fun h => hm' ⟨rfl, h⟩)
    have f3 : y3 = yS := same_x K hC oS (fun h => hn' ⟨rfl, h⟩)
    rw [← f1] at eT
    rw [← f3] at eS
    have b1 := neg_add_self K hA hB
    rw [eS] at b1
    have b2 := neg_add_self K hC hB
    rw [add_comm K hC hB, eT] at b2
    have b3 : neg (.af x2 y2) = Pt.af x2 y2 := by
     rw [← b1, ← neg_add K (on_neg hA) hC, neg_neg, add_comm K hA (on_neg hC), b2, b1]
    have b4 : Pt.af x2 (-y2) = Pt.af x2 y2 := b3
    injection b4 with b5 b6
    exact two_y K hB (two_zero b6)
   ·have hyT' : yT = t * (x3 - xT) - y3 := y_other ht.c hyT
    have hyS' : yS = s * (x2 - xS) - y2 := y_before hs.c hyS
    have hxT' : xT = t * t - x3 - x2 := sub_sw hxT
    have hxS' : xS = s * s - x2 - x1 := sub_sw hxS
    have r := assoc_gen K (sl_sym ht) (sl_sym hs) hxT' hyT' hxS' hyS' (sl_sym hv) (sl_sym hu) hE hA oT hm
    rw [third_sym hv, third_sym hu] at r
    exact r.symm
  ·exact assoc_gen K hs ht hxS hyS hxT hyT hu hv hD hC oS hn
end
end Ec
namespace Ec
section
variable {α : Type} [CR α]
noncomputable def mul (K : Fld α) : Nat → Pt α → Pt α
 | 0, _ => .none
 | k + 1, A => add K (mul K k A) A
theorem on_mul (K : Fld α) {A : Pt α} (h : On A) : ∀ k, On (mul K k A)
 | 0 => trivial
 | k + 1 => on_add K (on_mul K h k) h
theorem mul_add (K : Fld α) {A : Pt α} (h : On A) (j : Nat) : ∀ k, mul K (j + k) A = add K (mul K j A) (mul K k A)
 | 0 => (add_none_right K _).symm
 | k + 1 => by
  show add K (mul K (j + k) A) A = add K (mul K j A) (add K (mul K k A) A)
  rw [mul_add K h j k, assoc K (on_mul K h j) (on_mul K h k) h]
theorem mul_none (K : Fld α) : ∀ k, mul K k .none = .none
 | 0 => rfl
 | k + 1 => by show add K (mul K k .none) .none = _; rw [mul_none K k]; rfl
theorem mul_one (K : Fld α) (A : Pt α) : mul K 1 A = A := rfl
theorem mul_two (K : Fld α) {A : Pt α} (h : On A) (k : Nat) : mul K (2 * k) A = add K (mul K k A) (mul K k A) := by
 rw [show 2 * k = k + k from by omega, mul_add K h]
theorem add4 (K : Fld α) {A B C D : Pt α} (hA : On A) (hB : On B) (hC : On C) (hD : On D) : add K (add K A B) (add K C D) = add K (add K A C) (add K B D) := by
 rw [assoc K hA hB (on_add K hC hD), ← assoc K hB hC hD, add_comm K hB hC, assoc K hC hB hD, ← assoc K hA hC (on_add K hB hD)]
def Jac (X Y Z : α) : Pt α → Prop
 | .none => Z = 0
 | .af x y => Z ≠ 0 ∧ X = x * (Z * Z) ∧ Y = y * (Z * Z * Z)
def twX (X Y : α) : α := (X*X+X*X+X*X)*(X*X+X*X+X*X) - ((((X+Y*Y)*(X+Y*Y)-X*X-Y*Y*(Y*Y))+((X+Y*Y)*(X+Y*Y)-X*X-Y*Y*(Y*Y)))+(((X+Y*Y)*(X+Y*Y)-X*X-Y*Y*(Y*Y))+((X+Y*Y)*(X+Y*Y)-X*X-Y*Y*(Y*Y))))
def twY (X Y X3 : α) : α := (X*X+X*X+X*X)*((((X+Y*Y)*(X+Y*Y)-X*X-Y*Y*(Y*Y))+((X+Y*Y)*(X+Y*Y)-X*X-Y*Y*(Y*Y)))-X3) - ((((Y*Y*(Y*Y))+(Y*Y*(Y*Y)))+((Y*Y*(Y*Y))+(Y*Y*(Y*Y))))+(((Y*Y*(Y*Y))+(Y*Y*(Y*Y)))+((Y*Y*(Y*Y))+(Y*Y*(Y*Y)))))
def twZ (Y Z : α) : α := Y*Z+Y*Z
theorem jac_twice (K : Fld α) {X Y Z : α} {A : Pt α} (hA : On A) (h : Jac X Y Z A) : Jac (twX X Y) (twY X Y (twX X Y)) (twZ Y Z) (add K A A) := by
 cases A with
 | none =>
  have hz : Z = 0 := h
  show Y*Z+Y*Z = 0
  rw [hz]; clear h hz; grind
 | af x y =>
  obtain ⟨hz, hX, hY⟩ := h
  have hn : ¬ (x = x ∧ y + y = 0) := fun h => two_y K hA (by have := h.2; clear h; grind)
  have s := sl_lam K hA hA hn
  obtain ⟨l, el⟩ : ∃ l, l = lam K x y x y := ⟨_, rfl⟩
  rw [← el] at s
  rw [add_at K hA hA hn s]
  have t := s.t
  have e0 : twZ Y Z = 2 * y * (Z * Z * (Z * Z)) := by rw [hY]; unfold twZ; clear hX hY hn s t el hz hA; grind
  have e1 : X*X+X*X+X*X = l * twZ Y Z := by
   rw [e0, hX]
   have t2 : l * (2 * y) = 3 * (x * x) := by clear hX hY hn s el hz hA e0; grind
   have : l * (2 * y * (Z * Z * (Z * Z))) = l * (2 * y) * (Z * Z * (Z * Z)) := by clear hX hY hn s el hz hA e0 t t2; grind
   rw [this, t2]; clear hX hY hn s el hz hA e0 t t2 this; grind
  have e2 : (((X+Y*Y)*(X+Y*Y)-X*X-Y*Y*(Y*Y))+((X+Y*Y)*(X+Y*Y)-X*X-Y*Y*(Y*Y))) = x * (twZ Y Z * twZ Y Z) := by
   rw [e0, hX, hY]; clear hX hY hn s el hz hA e0 t e1; grind
  have e3 : ((((Y*Y*(Y*Y))+(Y*Y*(Y*Y)))+((Y*Y*(Y*Y))+(Y*Y*(Y*Y))))+(((Y*Y*(Y*Y))+(Y*Y*(Y*Y)))+((Y*Y*(Y*Y))+(Y*Y*(Y*Y))))) = y * (twZ Y Z * twZ Y Z * twZ Y Z) := by
   rw [e0, hY]; clear hX hY hn s el hz hA e0 t e1 e2; grind
  have e4 : twX X Y = (l * l - x - x) * (twZ Y Z * twZ Y Z) := by
   unfold twX; rw [e1, e2]; clear hX hY hn s el hz hA e0 t e1 e2 e3; grind
  refine ⟨?_, e4, ?_⟩
  ·rw [e0]; exact ne_mul K (two_y K hA) (ne_mul K (ne_mul K hz hz) (ne_mul K hz hz))
  ·unfold twY; rw [e1, e2, e3, e4]; clear hX hY hn s el hz hA e0 t e1 e2 e3 e4; grind
def plX (X H R : α) : α := R*R - H*(H*H) - (X*(H*H) + X*(H*H))
def plY (X Y H R X3 : α) : α := R*(X*(H*H) - X3) - Y*(H*(H*H))
theorem jac_plus (K : Fld α) {X Y Z x2 y2 H R : α} {A : Pt α} (hA : On A) (hB : On (.af x2 y2)) (h : Jac X Y Z A) (hz : Z ≠ 0) (hH : H = x2 * (Z*Z) - X) (hR : R = y2 * (Z*Z*Z) - Y) (h0 : H ≠ 0) : Jac (plX X H R) (plY X Y H R (plX X H R)) (Z*H) (add K A (.af x2 y2)) := by
 cases A with
 | none => exact absurd h hz
 | af x y =>
  obtain ⟨_, hX, hY⟩ := h
  have e1 : H = (x2 - x) * (Z * Z) := by rw [hH, hX]; clear hH hR h0 hX hY hz; grind
  have hn : ¬ (x = x2 ∧ y + y2 = 0) := fun h => h0 (by rw [e1, h.1]; clear e1 h hH hR h0 hX hY hz; grind)
  have s := sl_lam K hA hB hn
  obtain ⟨l, el⟩ : ∃ l, l = lam K x y x2 y2 := ⟨_, rfl⟩
  rw [← el] at s
  rw [add_at K hA hB hn s]
  have c := s.c
  have e2 : R = l * (Z * H) := by
   rw [hR, hY, e1]
   have : l * (Z * ((x2 - x) * (Z * Z))) = l * (x2 - x) * (Z * Z * Z) := by clear hX hY hn s el hz hA c e1 h0 hH hR; grind
   rw [this, c]; clear hX hY hn s el hz hA c e1 h0 hH hR this; grind
  have e3 : X * (H*H) = x * (Z*H*(Z*H)) := by rw [hX]; clear hX hY hn s el hz hA c e1 h0 hH hR e2; grind
  have e4 : H*(H*H) = (x2 - x) * (Z*H*(Z*H)) := by
   have : H * (H*H) = (x2 - x) * (Z * Z) * (H * H) := by rw [← e1]
   rw [this]; clear hX hY hn s el hz hA c e1 h0 hH hR e2 e3 this; grind
  have e5 : Y * (H*(H*H)) = y * (Z*H*(Z*H)*(Z*H)) := by rw [hY]; clear hX hY hn s el hz hA c e1 h0 hH hR e2 e3 e4; grind
  have e6 : plX X H R = (l * l - x - x2) * (Z*H*(Z*H)) := by
   unfold plX; rw [e3, e4, e2]; clear hX hY hn s el hz hA c e1 h0 hH hR e2 e3 e4 e5; grind
  refine ⟨ne_mul K hz h0, e6, ?_⟩
  unfold plY; rw [e6, e5, e3, e2]
  clear hX hY hn s el hz hA c e1 h0 hH hR e2 e3 e4 e5 e6; grind
theorem jac_same (K : Fld α) {X Y Z x2 y2 : α} {A : Pt α} (hA : On A) (hB : On (.af x2 y2)) (h : Jac X Y Z A) (hz : Z ≠ 0) (hH : x2 * (Z*Z) - X = 0) : (y2 * (Z*Z*Z) - Y = 0 → A = .af x2 y2) ∧ (y2 * (Z*Z*Z) - Y ≠ 0 → add K A (.af x2 y2) = .none) := by
 cases A with
 | none => exact absurd h hz
 | af x y =>
  obtain ⟨_, hX, hY⟩ := h
  have hx : x = x2 := by
   have : (Z * Z) * (x2 - x) = 0 := by rw [hX] at hH; clear hX hY hz; grind
   rcases zero_or K this with e | e
   ·exact absurd e (ne_mul K hz hz)
   ·exact eq_sub e
  subst hx
  constructor
  ·intro hR
   have : (Z * Z * Z) * (y2 - y) = 0 := by rw [hY] at hR; clear hX hY hz hH; grind
   rcases zero_or K this with e | e
   ·exact absurd e (ne_mul K (ne_mul K hz hz) hz)
   ·rw [eq_sub e]
  ·intro hR
   refine add_inv K ⟨rfl, ?_⟩
   by_cases e : y + y2 = 0
   ·exact e
   ·have := same_x K hA hB e
    subst this
    exact absurd (by rw [hY]; clear hX hY hz hH hR e; grind) hR
theorem jac_at (x y : α) (h1 : (1 : α) ≠ 0) : Jac x y 1 (.af x y) := ⟨h1, by grind, by grind⟩
theorem jac_point {X Y Z i : α} {A : Pt α} (h : Jac X Y Z A) (hi : Z * i = 1) (hz : Z ≠ 0) : A = .af (X * (i * i)) (Y * (i * i * i)) := by
 cases A with
 | none => exact absurd h hz
 | af x y =>
  obtain ⟨_, hX, hY⟩ := h
  have e1 : X * (i * i) = x := by rw [hX, show x * (Z*Z) * (i*i) = x * ((Z * i) * (Z * i)) from by clear hX hY hi hz; grind, hi]; clear hX hY hi hz; grind
  have e2 : Y * (i * i * i) = y := by rw [hY, show y * (Z*Z*Z) * (i*i*i) = y * ((Z * i) * (Z * i) * (Z * i)) from by clear hX hY hi hz e1; grind, hi]; clear hX hY hi hz e1; grind
  rw [e1, e2]
def Proj (X Y Z : α) : Pt α → Prop
 | .none => X = 0 ∧ Y ≠ 0 ∧ Z = 0
 | .af x y => Z ≠ 0 ∧ X = x * Z ∧ Y = y * Z
def sX (b X1 Y1 Z1 X2 Y2 Z2 : α) : α := (X1*Y2+X2*Y1)*(Y1*Y2-b*(Z1*Z2)) - (Y1*Z2+Y2*Z1)*(b*(X1*Z2+X2*Z1))
def sY (b X1 Y1 Z1 X2 Y2 Z2 : α) : α := (Y1*Y2+b*(Z1*Z2))*(Y1*Y2-b*(Z1*Z2)) + (b*(X1*Z2+X2*Z1))*(X1*X2+X1*X2+X1*X2)
def sZ (b X1 Y1 Z1 X2 Y2 Z2 : α) : α := (Y1*Z2+Y2*Z1)*(Y1*Y2+b*(Z1*Z2)) + (X1*X2+X1*X2+X1*X2)*(X1*Y2+X2*Y1)
theorem sX_scale (b x1 y1 Z1 x2 y2 Z2 : α) : sX b (x1*Z1) (y1*Z1) Z1 (x2*Z2) (y2*Z2) Z2 = sX b x1 y1 1 x2 y2 1 * (Z1*Z2*(Z1*Z2)) := by unfold sX; grind
theorem sY_scale (b x1 y1 Z1 x2 y2 Z2 : α) : sY b (x1*Z1) (y1*Z1) Z1 (x2*Z2) (y2*Z2) Z2 = sY b x1 y1 1 x2 y2 1 * (Z1*Z2*(Z1*Z2)) := by unfold sY; grind
theorem sZ_scale (b x1 y1 Z1 x2 y2 Z2 : α) : sZ b (x1*Z1) (y1*Z1) Z1 (x2*Z2) (y2*Z2) Z2 = sZ b x1 y1 1 x2 y2 1 * (Z1*Z2*(Z1*Z2)) := by unfold sZ; grind
theorem s_slope {b x1 y1 x2 y2 l d : α} (hx : x2 = x1 + d) (hy : y2 = y1 + l * d) (T : 2*l*y1+l^2*d-3*x1^2-3*x1*d-d^2 = 0) (hb : b = 3 * (y1^2 - x1^3)) :
 sX b x1 y1 1 x2 y2 1 = (l*l - x1 - x2) * sZ b x1 y1 1 x2 y2 1 ∧ sY b x1 y1 1 x2 y2 1 = (l * (x1 - (l*l - x1 - x2)) - y1) * sZ b x1 y1 1 x2 y2 1 := by
 have h1 : sX b x1 y1 1 x2 y2 1 - (l*l - x1 - x2) * sZ b x1 y1 1 x2 y2 1 = (-d*l^2*y1 - 3*d*l*x1^2 - 3*d*x1*y1 - 4*l*y1^2 - 6*x1^2*y1) * (2*l*y1+l^2*d-3*x1^2-3*x1*d-d^2) := by
  clear T; subst hb hx hy; unfold sX sZ; grind
 have h2 : sY b x1 y1 1 x2 y2 1 - (l * (x1 - (l*l - x1 - x2)) - y1) * sZ b x1 y1 1 x2 y2 1 = (d*l^3*y1 + 3*d*l^2*x1^2 + 3*d*l*x1*y1 + 4*l^2*y1^2 + 6*l*x1^2*y1 + 9*x1^4 - 12*x1*y1^2) * (2*l*y1+l^2*d-3*x1^2-3*x1*d-d^2) := by
  clear T h1; subst hb hx hy; unfold sY sZ; grind
 rw [T] at h1 h2
 clear hx hy T hb
 exact ⟨by clear h2; grind, by clear h1; grind⟩
theorem s_z {b x1 y1 x2 y2 l d m : α} (hx : x2 = x1 + d) (hy : y2 = y1 + l * d) (T : 2*l*y1+l^2*d-3*x1^2-3*x1*d-d^2 = 0) (hb : b = 3 * (y1^2 - x1^3)) (hm : m * d = -(y1 + y2)) :
 sZ b x1 y1 1 x2 y2 1 = (m * (x1 - (m*m - x1 - x2)) - y1) * (d * d * d) := by
 have h0 : (m * (x1 - (m*m - x1 - x2)) - y1) * (d * d * d) = (m * d) * (x1 * d^2 - ((m*d)^2 - (x1+x2)*d^2)) - y1*d^3 := by
  clear hx hy T hb hm; grind
 rw [h0, hm]
 have h1 : sZ b x1 y1 1 x2 y2 1 - ((-(y1+y2)) * (x1 * d^2 - ((-(y1+y2))^2 - (x1+x2)*d^2)) - y1*d^3) = (-d^2*l - 3*d*y1) * (2*l*y1+l^2*d-3*x1^2-3*x1*d-d^2) := by
  clear T h0 hm; subst hb hx hy; unfold sZ; grind
 rw [T] at h1
 clear hx hy T hb h0 hm
 grind
theorem s_twice {b x y : α} (hb : b = 3 * (y^2 - x^3)) : sZ b x y 1 x y 1 = 2 * y * (2 * y) * (2 * y) := by unfold sZ; subst hb; grind
theorem s_across {b x y l : α} (hb : b = 3 * (y^2 - x^3)) (t : l * (2 * y) = 3 * (x * x)) : sX b x y 1 x (-y) 1 = 0 ∧ sZ b x y 1 x (-y) 1 = 0 ∧ sY b x y 1 x (-y) 1 = 2 * y * (2 * y) * (2 * y) * (l * (x - (l * l - x - x)) - y) := by
 refine ⟨by unfold sX; clear hb t; grind, by unfold sZ; clear hb t; grind, ?_⟩
 have h0 : 2 * y * (2 * y) * (2 * y) * (l * (x - (l * l - x - x)) - y) = 3 * x * (l * (2 * y)) * (2 * y) * (2 * y) - (l * (2 * y)) * (l * (2 * y)) * (l * (2 * y)) - y * (2 * y * (2 * y) * (2 * y)) := by clear hb t; grind
 rw [h0, t]; clear h0 t; unfold sY; subst hb; grind
theorem proj_scale (K : Fld α) {X Y Z c : α} {A : Pt α} (h : Proj X Y Z A) (hc : c ≠ 0) : Proj (X * c) (Y * c) (Z * c) A := by
 cases A with
 | none =>
  obtain ⟨h1, h2, h3⟩ := h
  exact ⟨by rw [h1]; clear h1 h2 h3 hc; grind, ne_mul K h2 hc, by rw [h3]; clear h1 h2 h3 hc; grind⟩
 | af x y =>
  obtain ⟨h1, h2, h3⟩ := h
  exact ⟨ne_mul K h1 hc, by rw [h2]; clear h1 h2 h3 hc; grind, by rw [h3]; clear h1 h2 h3 hc; grind⟩
theorem proj_y (K : Fld α) {X Y Z : α} {A : Pt α} (hA : On A) (h : Proj X Y Z A) : Y ≠ 0 := by
 cases A with
 | none => exact h.2.1
 | af x y => rw [h.2.2]; exact ne_mul K (y_ne K hA) h.1
theorem proj_at (K : Fld α) {x1 y1 x2 y2 : α} (h1 : On (.af x1 y1)) (h2 : On (.af x2 y2)) : Proj (sX 21 x1 y1 1 x2 y2 1) (sY 21 x1 y1 1 x2 y2 1) (sZ 21 x1 y1 1 x2 y2 1) (add K (.af x1 y1) (.af x2 y2)) := by
 have c1 : y1 * y1 = x1 * x1 * x1 + 7 := h1
 have hb : (21 : α) = 3 * (y1^2 - x1^3) := by
  have e : y1^2 - x1^3 = 7 := by rw [show y1^2 = y1 * y1 from by clear c1; grind, c1]; clear c1; grind
  rw [e]; clear c1 e; grind
 by_cases hn : x1 = x2 ∧ y1 + y2 = 0
 ·rw [add_inv K hn]
  have e2 : y2 = -y1 := by have := hn.2; clear hb c1 hn; grind
  obtain ⟨rfl, _⟩ := hn
  subst e2
  have hm : ¬ (x1 = x1 ∧ y1 + y1 = 0) := fun h => two_y K h1 (by have := h.2; clear h hb c1; grind)
  have s := sl_lam K h1 h1 hm
  have o := sl_on h1 s
  obtain ⟨l, el⟩ : ∃ l, l = lam K x1 y1 x1 y1 := ⟨_, rfl⟩
  rw [← el] at s o
  have t : l * (2 * y1) = 3 * (x1 * x1) := by have := s.t; clear hb c1 hm s o el; grind
  obtain ⟨a, b, c⟩ := s_across hb t
  have w := two_y K h1
  exact ⟨a, by rw [c]; exact ne_mul K (ne_mul K (ne_mul K w w) w) (y_ne K o), b⟩
 ·have s := sl_lam K h1 h2 hn
  obtain ⟨l, el⟩ : ∃ l, l = lam K x1 y1 x2 y2 := ⟨_, rfl⟩
  rw [← el] at s
  rw [add_at K h1 h2 hn s]
  have hx : x2 = x1 + (x2 - x1) := by clear hb c1 s el; grind
  have hy : y2 = y1 + l * (x2 - x1) := by have := s.c; clear hb c1 s el hx; grind
  have T : 2*l*y1+l^2*(x2-x1)-3*x1^2-3*x1*(x2-x1)-(x2-x1)^2 = 0 := by
   have := s.t
   rw [show y1 + y2 = 2 * y1 + l * (x2 - x1) from by have := hy; clear hb c1 s el hx this; grind] at this
   clear hb c1 s el hx hy; grind
  obtain ⟨a, b⟩ := s_slope hx hy T hb
  refine ⟨?_, a, b⟩
  by_cases e : x1 = x2
  ·subst e
   have e2 : y1 = y2 := same_x K h1 h2 (fun h => hn ⟨rfl, h⟩)
   subst e2
   have w := two_y K h1
   rw [s_twice hb]; exact ne_mul K (ne_mul K w w) w
  ·have hm : ¬ (x1 = x2 ∧ y1 + -y2 = 0) := fun h => e h.1
   have o2 : On (.af x2 (-y2)) := on_neg h2
   have s' := sl_lam K h1 o2 hm
   have o := sl_on o2 s'
   obtain ⟨m, em⟩ : ∃ m, m = lam K x1 y1 x2 (-y2) := ⟨_, rfl⟩
   rw [← em] at s' o
   have hmm : m * (x2 - x1) = -(y1 + y2) := by rw [s'.c]; clear hb c1 s el hx hy T a b s' o em; grind
   rw [s_z hx hy T hb hmm]
   have hd : x2 - x1 ≠ 0 := fun h => e (eq_sub h)
   exact ne_mul K (y_ne K o) (ne_mul K (ne_mul K hd hd) hd)
theorem proj_sum (K : Fld α) {X1 Y1 Z1 X2 Y2 Z2 : α} {A B : Pt α} (hA : On A) (hB : On B) (hP : Proj X1 Y1 Z1 A) (hQ : Proj X2 Y2 Z2 B) : Proj (sX 21 X1 Y1 Z1 X2 Y2 Z2) (sY 21 X1 Y1 Z1 X2 Y2 Z2) (sZ 21 X1 Y1 Z1 X2 Y2 Z2) (add K A B) := by
 match A, B, hA, hB, hP, hQ with
 | .none, B, hA, hB, hP, hQ =>
  obtain ⟨p1, p2, p3⟩ := hP
  have hy := proj_y K hB hQ
  subst p1 p3
  have e1 : sX 21 0 Y1 0 X2 Y2 Z2 = X2 * (Y1 * Y1 * Y2) := by unfold sX; clear hA hB hQ p2 hy; grind
  have e2 : sY 21 0 Y1 0 X2 Y2 Z2 = Y2 * (Y1 * Y1 * Y2) := by unfold sY; clear hA hB hQ p2 hy; grind
  have e3 : sZ 21 0 Y1 0 X2 Y2 Z2 = Z2 * (Y1 * Y1 * Y2) := by unfold sZ; clear hA hB hQ p2 hy; grind
  rw [e1, e2, e3]
  exact proj_scale K hQ (ne_mul K (ne_mul K p2 p2) hy)
 | .af x1 y1, .none, hA, hB, hP, hQ =>
  obtain ⟨p1, p2, p3⟩ := hQ
  have hy := proj_y K hA hP
  subst p1 p3
  have e1 : sX 21 X1 Y1 Z1 0 Y2 0 = X1 * (Y2 * Y2 * Y1) := by unfold sX; clear hA hB hP p2 hy; grind
  have e2 : sY 21 X1 Y1 Z1 0 Y2 0 = Y1 * (Y2 * Y2 * Y1) := by unfold sY; clear hA hB hP p2 hy; grind
  have e3 : sZ 21 X1 Y1 Z1 0 Y2 0 = Z1 * (Y2 * Y2 * Y1) := by unfold sZ; clear hA hB hP p2 hy; grind
  rw [e1, e2, e3]
  exact proj_scale K hP (ne_mul K (ne_mul K p2 p2) hy)
 | .af x1 y1, .af x2 y2, hA, hB, hP, hQ =>
  obtain ⟨p1, p2, p3⟩ := hP
  obtain ⟨q1, q2, q3⟩ := hQ
  rw [p2, p3, q2, q3, sX_scale, sY_scale, sZ_scale]
  exact proj_scale K (proj_at K hA hB) (ne_mul K (ne_mul K p1 q1) (ne_mul K p1 q1))
theorem proj_point {X Y Z i : α} {A : Pt α} (h : Proj X Y Z A) (hi : Z * i = 1) (hz : Z ≠ 0) : A = .af (X * i) (Y * i) := by
 cases A with
 | none => exact absurd h.2.2 hz
 | af x y =>
  obtain ⟨_, hX, hY⟩ := h
  rw [show X * i = x from by rw [hX, show x * Z * i = x * (Z * i) from by clear hX hY hi hz; grind, hi]; clear hX hY hi hz; grind, show Y * i = y from by rw [hY, show y * Z * i = y * (Z * i) from by clear hX hY hi hz; grind, hi]; clear hX hY hi hz; grind]
end
end Ec
theorem pr_107590001 : Pr 107590001 := pr_small 107590001 13 (by decide) (by decide) (by decide +kernel) (by decide)
theorem pr_7240687 : Pr 7240687 := pr_small 7240687 11 (by decide) (by decide) (by decide +kernel) (by decide)
theorem pr_96557 : Pr 96557 := pr_small 96557 8 (by decide) (by decide) (by decide +kernel) (by decide)
theorem pr_255515944373312847190720520512484175977 : Pr 255515944373312847190720520512484175977 := by
 refine pock_m 255515944373312847190720520512484175977 75220367286300824659 3396898387916374264 2 128 (by decide) (by decide) (by decide) (by decide) (by decide) (by decide +kernel) ?_
 ·intro q hq hd
  rw [show 75220367286300824659 = 107590001 * 7240687 * 96557 from by decide] at hd
  rcases pr_mul hq hd with hd | hd
  rotate_left
  ·obtain rfl := pr_of_pr pr_96557 hq hd
   decide +kernel
  rcases pr_mul hq hd with hd | hd
  rotate_left
  ·obtain rfl := pr_of_pr pr_7240687 hq hd
   decide +kernel
  obtain rfl := pr_of_pr pr_107590001 hq hd
  decide +kernel
theorem pr_205115282021455665897114700593932402728804164701536103180137503955397371 : Pr 205115282021455665897114700593932402728804164701536103180137503955397371 := by
 refine pock_m 205115282021455665897114700593932402728804164701536103180137503955397371 255515944373312847190720520512484175977 802749442992798076634733441528810 2 237 (by decide) (by decide) (by decide) (by decide) (by decide) (by decide +kernel) ?_
 ·intro q hq hd
  obtain rfl := pr_of_pr pr_255515944373312847190720520512484175977 hq hd
  decide +kernel
theorem pr_115792089237316195423570985008687907853269984665640564039457584007908834671663 : Pr 115792089237316195423570985008687907853269984665640564039457584007908834671663 := by
 refine pock_m 115792089237316195423570985008687907853269984665640564039457584007908834671663 205115282021455665897114700593932402728804164701536103180137503955397371 564522 2 256 (by decide) (by decide) (by decide) (by decide) (by decide) (by decide +kernel) ?_
 ·intro q hq hd
  obtain rfl := pr_of_pr pr_205115282021455665897114700593932402728804164701536103180137503955397371 hq hd
  decide +kernel
theorem pr_545358713 : Pr 545358713 := pr_small 545358713 14 (by decide) (by decide) (by decide +kernel) (by decide)
theorem pr_305873 : Pr 305873 := pr_small 305873 9 (by decide) (by decide) (by decide +kernel) (by decide)
theorem pr_293 : Pr 293 := pr_small 293 3 (by decide) (by decide) (by decide +kernel) (by decide)
theorem pr_29047611873442575647497758179 : Pr 29047611873442575647497758179 := by
 refine pock_m 29047611873442575647497758179 48875478147084557 594318725354 2 95 (by decide) (by decide) (by decide) (by decide) (by decide) (by decide +kernel) ?_
 ·intro q hq hd
  rw [show 48875478147084557 = 545358713 * 305873 * 293 from by decide] at hd
  rcases pr_mul hq hd with hd | hd
  rotate_left
  ·obtain rfl := pr_of_pr pr_293 hq hd
   decide +kernel
  rcases pr_mul hq hd with hd | hd
  rotate_left
  ·obtain rfl := pr_of_pr pr_305873 hq hd
   decide +kernel
  obtain rfl := pr_of_pr pr_545358713 hq hd
  decide +kernel
theorem pr_341948486974166000522343609283189 : Pr 341948486974166000522343609283189 := by
 refine pock_m 341948486974166000522343609283189 29047611873442575647497758179 11772 2 109 (by decide) (by decide) (by decide) (by decide) (by decide) (by decide +kernel) ?_
 ·intro q hq hd
  obtain rfl := pr_of_pr pr_29047611873442575647497758179 hq hd
  decide +kernel
theorem pr_4681609 : Pr 4681609 := pr_small 4681609 11 (by decide) (by decide) (by decide +kernel) (by decide)
theorem pr_85831 : Pr 85831 := pr_small 85831 8 (by decide) (by decide) (by decide +kernel) (by decide)
theorem pr_107361793816595537 : Pr 107361793816595537 := by
 refine pock_m 107361793816595537 401827182079 267184 2 57 (by decide) (by decide) (by decide) (by decide) (by decide) (by decide +kernel) ?_
 ·intro q hq hd
  rw [show 401827182079 = 4681609 * 85831 from by decide] at hd
  rcases pr_mul hq hd with hd | hd
  rotate_left
  ·obtain rfl := pr_of_pr pr_85831 hq hd
   decide +kernel
  obtain rfl := pr_of_pr pr_4681609 hq hd
  decide +kernel
theorem pr_115792089237316195423570985008687907852837564279074904382605163141518161494337 : Pr 115792089237316195423570985008687907852837564279074904382605163141518161494337 := by
 refine pock_m 115792089237316195423570985008687907852837564279074904382605163141518161494337 36712202954417214842724336778420075919000906527493 3154049060501396119538597952 2 256 (by decide) (by decide) (by decide) (by decide) (by decide) (by decide +kernel) ?_
 ·intro q hq hd
  rw [show 36712202954417214842724336778420075919000906527493 = 341948486974166000522343609283189 * 107361793816595537 from by decide] at hd
  rcases pr_mul hq hd with hd | hd
  rotate_left
  ·obtain rfl := pr_of_pr pr_107361793816595537 hq hd
   decide +kernel
  obtain rfl := pr_of_pr pr_341948486974166000522343609283189 hq hd
  decide +kernel
theorem pr_PRM : ∀ p : Bool, Pr (match p with | true => 115792089237316195423570985008687907853269984665640564039457584007908834671663 | false => 115792089237316195423570985008687907852837564279074904382605163141518161494337)
 | true => pr_115792089237316195423570985008687907853269984665640564039457584007908834671663
 | false => pr_115792089237316195423570985008687907852837564279074904382605163141518161494337
namespace Ec
theorem cube_no {p m : Nat} (hp : Pr p) (h7 : 7 < p) (h3 : p - 1 = 3 * m) (hm : (p - 7) ^ m % p ≠ 1) (x : Nat) : (x * x * x + 7) % p ≠ 0 := by
 intro h
 have hx : ¬ p ∣ x := by
  rintro ⟨c, rfl⟩
  rw [show p * c * (p * c) * (p * c) + 7 = 7 + p * (c * (p * c) * (p * c)) from by simp only [Nat.mul_assoc]; omega, Nat.add_mul_mod_self_left, Nat.mod_eq_of_lt h7] at h
  omega
 have h1 := fermat1 hp hx
 rw [h3, Nat.pow_mul, show x ^ 3 = x * x * x from by rw [Nat.pow_succ, Nat.pow_succ, Nat.pow_one], Nat.pow_mod] at h1
 have h2 : x * x * x % p = (p - 7) % p := by
  have h4 : (x * x * x + 7 + (p - 7)) % p = (p - 7) % p := by rw [Nat.add_mod, h, Nat.zero_add, Nat.mod_mod]
  rw [← h4, show x * x * x + 7 + (p - 7) = x * x * x + p from by omega, Nat.add_mod_right]
 rw [h2, ← Nat.pow_mod] at h1
 exact hm h1
section
variable (n : Nat) [NeZero n]
def fofn (a : Nat) : Fin n := Fin.ofNat n a
theorem fofn_val (a : Nat) : (fofn n a).val = a % n := rfl
theorem fofn_small {a : Nat} (h : a < n) : (fofn n a).val = a := Nat.mod_eq_of_lt h
theorem fofn_mod (a : Nat) : fofn n (a % n) = fofn n a := Fin.ext (Nat.mod_mod a n)
theorem fofn_add (a b : Nat) : fofn n ((a + b) % n) = fofn n a + fofn n b := by
 apply Fin.ext; rw [fofn_mod, Fin.val_add, fofn_val, fofn_val, fofn_val, ← Nat.add_mod]
theorem fofn_mul (a b : Nat) : fofn n (a * b % n) = fofn n a * fofn n b := by
 apply Fin.ext; rw [fofn_mod, Fin.val_mul, fofn_val, fofn_val, fofn_val, ← Nat.mul_mod]
theorem fofn_sub (a b : Nat) : fofn n ((a % n + n - b % n) % n) = fofn n a - fofn n b := by
 have hb : b % n < n := Nat.mod_lt _ (Nat.pos_of_ne_zero (NeZero.ne n))
 apply Fin.ext; rw [fofn_mod, Fin.sub_def]
 show _ = (n - b % n + a % n) % n
 rw [fofn_val]; congr 1; omega
theorem fofn_inj {a b : Nat} (ha : a < n) (hb : b < n) (h : fofn n a = fofn n b) : a = b := by
 have := congrArg Fin.val h
 rwa [fofn_small n ha, fofn_small n hb] at this
theorem fofn_self (a : Fin n) : fofn n a.val = a := Fin.ext (Nat.mod_eq_of_lt a.isLt)
theorem fofn_zero {a : Nat} : fofn n a = 0 ↔ a % n = 0 := by
 constructor
 ·intro h
  have := congrArg Fin.val h
  rw [fofn_val] at this
  rw [this]; rfl
 ·intro h
  apply Fin.ext; rw [fofn_val, h]; rfl
def fldOf (hp : Pr n) (h2 : 7 < n) (h7 : ∀ x, (x * x * x + 7) % n ≠ 0) : Fld (Fin n) where
 inv a := fofn n (a.val ^ (n - 2))
 mul_inv a ha := by
  have h0 : a.val % n ≠ 0 := fun h => ha (by rw [← fofn_self n a]; exact (fofn_zero n).2 h)
  have := pr_inv hp h0
  apply Fin.ext
  rw [Fin.val_mul, fofn_val, Nat.mul_mod_mod, this]
  show 1 = 1 % n
  exact (Nat.mod_eq_of_lt (by omega)).symm
 two h := by
  have h1 : (2 % n) = 0 := congrArg Fin.val h
  rw [Nat.mod_eq_of_lt (by omega)] at h1; omega
 seven x h := by
  have h1 : ((x.val * x.val % n) * x.val % n + 7 % n) % n = 0 := congrArg Fin.val h
  apply h7 x.val
  rw [← h1, Nat.mod_mul_mod, ← Nat.add_mod]
end
end Ec
namespace Ec
section
variable (n : Nat) [NeZero n]
def fm (a b : Nat) : Nat := a * b % n
def fa (a b : Nat) : Nat := (a + b) % n
def fs (a b : Nat) : Nat := (a % n + n - b % n) % n
theorem n_pos : 0 < n := Nat.pos_of_ne_zero (NeZero.ne n)
theorem fm_lt (a b : Nat) : fm n a b < n := Nat.mod_lt _ (n_pos n)
theorem fa_lt (a b : Nat) : fa n a b < n := Nat.mod_lt _ (n_pos n)
theorem fs_lt (a b : Nat) : fs n a b < n := Nat.mod_lt _ (n_pos n)
theorem tp_fm (a b : Nat) : fofn n (fm n a b) = fofn n a * fofn n b := fofn_mul _ a b
theorem tp_fa (a b : Nat) : fofn n (fa n a b) = fofn n a + fofn n b := fofn_add _ a b
theorem tp_fs (a b : Nat) : fofn n (fs n a b) = fofn n a - fofn n b := fofn_sub _ a b
theorem tp_zero {a : Nat} (ha : a < n) : fofn n a = 0 ↔ a = 0 := by
 rw [fofn_zero, Nat.mod_eq_of_lt ha]
theorem one_ne (h1 : 1 < n) : (1 : Fin n) ≠ 0 := fun h => by
 have h2 : 1 % n = 0 := congrArg Fin.val h
 rw [Nat.mod_eq_of_lt h1] at h2; omega
theorem tp_none : fofn n 0 = 0 := Fin.ext (Nat.mod_eq_of_lt (n_pos n) |>.trans rfl)
theorem tp_one : fofn n 1 = 1 := Fin.ext rfl
theorem tp_seven : fofn n 7 = 7 := Fin.ext rfl
structure Spt where
 x : Nat
 y : Nat
 z : Nat
deriving DecidableEq
def SpOk (s : Spt) : Prop := s.x < n ∧ s.y < n ∧ s.z < n
def JacN (s : Spt) (A : Pt (Fin n)) : Prop := Jac (fofn n s.x) (fofn n s.y) (fofn n s.z) A
def twN (s : Spt) : Spt :=
 let a := fm n s.x s.x
 let b := fm n s.y s.y
 let c := fm n b b
 let t := fa n s.x b
 let d := fs n (fs n (fm n t t) a) c
 let d2 := fa n d d
 let e := fa n (fa n a a) a
 let x := fs n (fm n e e) (fa n d2 d2)
 let c2 := fa n c c
 let c4 := fa n c2 c2
 ⟨x, fs n (fm n e (fs n d2 x)) (fa n c4 c4), fa n (fm n s.y s.z) (fm n s.y s.z)⟩
theorem twN_ok (s : Spt) : SpOk n (twN n s) := ⟨fs_lt n _ _, fs_lt n _ _, fa_lt n _ _⟩
theorem twN_jac (K : Fld (Fin n)) {s : Spt} {A : Pt (Fin n)} (hA : On A) (h : JacN n s A) : JacN n (twN n s) (add K A A) := by
 have := jac_twice K hA h
 unfold JacN twN
 simp only [tp_fm, tp_fa, tp_fs]
 exact this
def plN (s : Spt) (x2 y2 : Nat) : Spt :=
 if s.z = 0 then ⟨x2, y2, 1⟩ else
 let zz := fm n s.z s.z
 let h := fs n (fm n x2 zz) s.x
 let r := fs n (fm n y2 (fm n zz s.z)) s.y
 if h = 0 then (if r = 0 then twN n s else ⟨0, 0, 0⟩) else
 let hh := fm n h h
 let hhh := fm n h hh
 let v := fm n s.x hh
 let x := fs n (fs n (fm n r r) hhh) (fa n v v)
 ⟨x, fs n (fm n r (fs n v x)) (fm n s.y hhh), fm n s.z h⟩
theorem plN_ok (h1 : 1 < n) (s : Spt) {x2 y2 : Nat} (hx : x2 < n) (hy : y2 < n) : SpOk n (plN n s x2 y2) := by
 unfold plN
 split
 ·exact ⟨hx, hy, h1⟩
 ·dsimp only
  split
  ·split
   ·exact twN_ok n s
   ·exact ⟨n_pos n, n_pos n, n_pos n⟩
  ·exact ⟨fs_lt n _ _, fs_lt n _ _, fm_lt n _ _⟩
theorem plN_jac (K : Fld (Fin n)) (h11 : 1 < n) {s : Spt} {x2 y2 : Nat} {A : Pt (Fin n)} (hs : SpOk n s) (hA : On A) (hB : On (.af (fofn n x2) (fofn n y2))) (h : JacN n s A) : JacN n (plN n s x2 y2) (add K A (.af (fofn n x2) (fofn n y2))) := by
 unfold plN
 split
 ·rename_i h0
  have hn : A = .none := by
   cases A with
   | none => rfl
   | af x y => exact absurd (by rw [h0]; exact tp_none n) h.1
  rw [hn, add_none_left]
  have := jac_at (fofn n x2) (fofn n y2) (one_ne n h11)
  unfold JacN
  rw [show fofn n (Spt.mk x2 y2 1).z = 1 from tp_one n]
  exact this
 ·rename_i h0
  have hz : fofn n s.z ≠ 0 := fun e => h0 ((tp_zero n hs.2.2).1 e)
  have eH : fofn n (fs n (fm n x2 (fm n s.z s.z)) s.x) = fofn n x2 * (fofn n s.z * fofn n s.z) - fofn n s.x := by simp only [tp_fs, tp_fm]
  have eR : fofn n (fs n (fm n y2 (fm n (fm n s.z s.z) s.z)) s.y) = fofn n y2 * (fofn n s.z * fofn n s.z * fofn n s.z) - fofn n s.y := by simp only [tp_fs, tp_fm]
  dsimp only
  split
  ·rename_i h1
   have h1' : fofn n x2 * (fofn n s.z * fofn n s.z) - fofn n s.x = 0 := by rw [← eH, h1]; exact tp_none n
   have sm := jac_same K hA hB h hz h1'
   split
   ·rename_i h2
    have := sm.1 (by rw [← eR, h2]; exact tp_none n)
    rw [← this]; exact twN_jac n K hA h
   ·rename_i h2
    rw [sm.2 (fun e => h2 ((tp_zero n (fs_lt n _ _)).1 (by rw [eR]; exact e)))]
    exact tp_none n
  ·rename_i h1
   have := jac_plus K hA hB h hz eH eR (fun e => h1 ((tp_zero n (fs_lt n _ _)).1 e))
   unfold JacN
   simp only [tp_fm, tp_fa, tp_fs] at this ⊢
   exact this
end
end Ec
namespace Ec
theorem prm_pos : 0 < PRM true := by have := prm_big true; omega
instance neZeroPrm : NeZero (PRM true) := ⟨Nat.pos_iff_ne_zero.1 prm_pos⟩
def CUB : Nat := 38597363079105398474523661669562635951089994888546854679819194669302944890554
theorem cub_reckoned : mpow (PRM true) 256 (PRM true - 7) CUB ≠ 1 := by decide +kernel
theorem cub_fits : CUB < 2 ^ 256 := by decide +kernel
theorem prm_cube : (PRM true - 7) ^ CUB % PRM true ≠ 1 := fun h => cub_reckoned ((mpow_eq _ _ _ _ cub_fits).trans h)
theorem prm_seven : 7 < PRM true := by decide +kernel
theorem prm_one : 1 < PRM true := by decide +kernel
theorem prm_three : PRM true - 1 = 3 * CUB := by decide +kernel
theorem prm_pr : Pr (PRM true) := pr_PRM true
theorem prm_cubes (x : Nat) : (x * x * x + 7) % PRM true ≠ 0 := cube_no (p := PRM true) (m := CUB) prm_pr prm_seven prm_three prm_cube x
abbrev FP := Fin (PRM true)
def KP : Fld (Fin (PRM true)) := fldOf (PRM true) prm_pr prm_seven prm_cubes
def GX : Nat := 55066263022277343669578718895168534326250603453777594175500187360389116729240
def GY : Nat := 32670510020758816978083085130507043184471273380659243275938904335757337482424
def GB : Pt (Fin (PRM true)) := .af (fofn (PRM true) GX) (fofn (PRM true) GY)
theorem gx_lt : GX < PRM true := by decide +kernel
theorem gy_lt : GY < PRM true := by decide +kernel
theorem base_nums : fm (PRM true) GY GY = fa (PRM true) (fm (PRM true) (fm (PRM true) GX GX) GX) 7 := by decide +kernel
theorem on_of_nums (n : Nat) [NeZero n] {x y : Nat} (h : fm n y y = fa n (fm n (fm n x x) x) 7) : On (.af (fofn n x) (fofn n y)) := by
 show fofn n y * fofn n y = fofn n x * fofn n x * fofn n x + 7
 rw [← tp_seven, ← tp_fm, ← tp_fm, ← tp_fm, ← tp_fa, h]
theorem on_base : On GB := on_of_nums _ base_nums
end Ec
def pcs (x y : Nat) (b : Bool) : Array Value := limbs4 x ++ limbs4 y ++ #[.bool b]
def scs (g x y z : Nat) : Array Value := #[pt g] ++ limbs4 x ++ limbs4 y ++ limbs4 z
structure Pn where
 x : Nat
 y : Nat
 o : Bool
deriving DecidableEq
@[reducible] def pnv (a : Pn) : Value := .agg (pcs a.x a.y a.o)
namespace Ec
def sdN (n x : Nat) : Nat := fa n (fm n (fm n x x) x) 7
def ivN (p : Bool) (a : Nat) : Nat := if a % PRM p = 0 then 0 else a ^ (PRM p - 2) % PRM p
def ptN (s : Spt) : Pn := if s.z % PRM true = 0 then ⟨0, 0, true⟩ else
 ⟨fm (PRM true) s.x (fm (PRM true) (ivN true s.z) (ivN true s.z)), fm (PRM true) s.y (fm (PRM true) (fm (PRM true) (ivN true s.z) (ivN true s.z)) (ivN true s.z)), false⟩
end Ec
def ierr (p : Bool) (a : Nat) : Int := if a % PRM p = 0 then 31 else 0
section field
variable {p : Bool} {g a b z : Nat}
theorem prm_w {x : Nat} (h : x < PRM p) : x < W256 := Nat.lt_trans h (prm_lt p)
theorem mod_w (x : Nat) : x % PRM p < W256 := prm_w (Nat.mod_lt _ (by have := prm_big p; omega))
theorem zfm (h : z = Ec.fm (PRM p) a b) : z < W256 := h ▸ mod_w _
theorem zfa (h : z = Ec.fa (PRM p) a b) : z < W256 := h ▸ mod_w _
theorem zfs (h : z = Ec.fs (PRM p) a b) : z < W256 := h ▸ mod_w _
theorem zsd (h : z = Ec.sdN (PRM p) a) : z < W256 := h ▸ mod_w _
theorem ziv (h : z = Ec.ivN p a) : z < W256 := by
 rw [h]; unfold Ec.ivN; split
 ·decide
 ·exact mod_w _
theorem mul_z (h : z = Ec.fm (PRM p) a b) (ha : a < W256) (hb : b < W256) (W : World) (hr : W.heap[g]? = some (rrow p)) : Calls Tryz.prog 88 #[pt g, wv a, wv b] W fun e w' => e = .returned (wv z) ∧ Below W.heap.size W w' := h ▸ mul_rc g a b p ha hb W hr
theorem add_z (h : z = Ec.fa (PRM p) a b) (ha : a < W256) (hb : b < W256) (W : World) (hr : W.heap[g]? = some (rrow p)) : Calls Tryz.prog 118 #[pt g, wv a, wv b] W fun e w' => e = .returned (wv z) ∧ Below W.heap.size W w' := h ▸ add_rc g a b p ha hb W hr
theorem sub_z (h : z = Ec.fs (PRM p) a b) (ha : a < W256) (hb : b < W256) (W : World) (hr : W.heap[g]? = some (rrow p)) : Calls Tryz.prog 81 #[pt g, wv a, wv b] W fun e w' => e = .returned (wv z) ∧ Below W.heap.size W w' := h ▸ sub_rc g a b p ha hb W hr
theorem inv_z (h : z = Ec.ivN p a) (ha : a < W256) (W : World) (hr : W.heap[g]? = some (rrow p)) : Calls Tryz.prog 86 #[pt g, wv a] W fun e w' => e = .returned (.tuple #[wv z, .int .i64 (ierr p a)]) ∧ Below W.heap.size W w' := h ▸ inv_rc g a p ha W hr
end field
theorem P_x (hL : rowsNot 152 L = true) (hX : (X.all fun q => !q.ex) = true) (W : World) (S : Sx w L X W) : Calls Tryz.prog 76 #[] W fun e w' => ∃ g, e = .returned (pt g) ∧ Sx w L (xrow g (rrow true) :: X) w' :=
 (P_c W).mono fun _ _ ⟨g, he, hg, hb⟩ => ⟨g, he, (S.keep hb).addR hg.out hL hX⟩
theorem Sx.oneX {o : Obj} (h : w.heap[g]? = some o) : Sx w [] [xrow g o] w := (Sx.nil w).addX _ h (fun _ h => by cases h) (fun b hb => by have hb : b = g := hb; rw [hb]; exact lt_of_block h) (fun _ h => by cases h)
theorem weq_t {x : Nat} (h : weq x 0 = true) (hx : x < W256) : x = 0 := (weq_iff hx (by decide)).1 h
theorem weq_f {x : Nat} (h : weq x 0 = false) (hx : x < W256) : x ≠ 0 := fun e => by rw [(weq_iff hx (by decide)).2 e] at h; cases h
theorem gx_w : Ec.GX < W256 := by decide +kernel
theorem gy_w : Ec.GY < W256 := by decide +kernel
theorem cbase_c (w : World) : Calls Tryz.prog 126 #[] w fun e w' => e = .returned (.agg (pcs Ec.GX Ec.GY false)) ∧ Below w.heap.size w w' := by
 exact enterQ 4 (fun q => .seq (q 0) (.seq (q 1) .ret)) (Sx.nil w) Tryz.func126 (Cd.sr (At.new 0 [] 0 (pcs 0 0 false) 89 fun g0 h0 => At.nx (Cd.sr (At.st 3 [] 0 (pcs 55066263022277343669578718895168534326250603453777594175500187360389116729240 32670510020758816978083085130507043184471273380659243275938904335757337482424 false) h0 (At.nx (Cd.rv r0 [] (.agg (pcs 55066263022277343669578718895168534326250603453777594175500187360389116729240 32670510020758816978083085130507043184471273380659243275938904335757337482424 false)) fun W S => ⟨rfl, S.below⟩))))))
theorem cnone_c (w : World) : Calls Tryz.prog 75 #[] w fun e w' => e = .returned (.agg (pcs 0 0 true)) ∧ Below w.heap.size w w' := by
 exact enterQ 2 (fun q => .seq (q 0) (.seq (q 1) .ret)) (Sx.nil w) Tryz.func75 (Cd.sr (At.new 0 [] 0 (pcs 0 0 false) 89 fun g0 h0 => At.nx (Cd.sr (At.st 1 [] 0 (pcs 0 0 true) h0 (At.nx (Cd.rv r0 [] (.agg (pcs 0 0 true)) fun W S => ⟨rfl, S.below⟩))))))
theorem side_z {g x z : Nat} (h : z = Ec.sdN (PRM true) x) (hx : x < W256) (w : World) (hr : w.heap[g]? = some (rrow true)) : Calls Tryz.prog 79 #[pt g, wv x] w fun e w' => e = .returned (wv z) ∧ Below w.heap.size w w' := by
 refine enterQ 15 (fun q => .seq (q 0) (.seq (q 1) .ret)) (Sx.oneX hr) Tryz.func79 (Cd.sr (At.new 0 [] 3 (limbs4 x) 87 fun g3 h3 => At.new 0 [] 4 (limbs4 0) 87 fun g4 h4 => At.nx (Cd.seq ?_)))
 obtain ⟨n1, en1⟩ : ∃ zz, zz = Ec.fm (PRM true) x x := ⟨_, rfl⟩
 obtain ⟨n2, en2⟩ : ∃ zz, zz = Ec.fm (PRM true) n1 x := ⟨_, rfl⟩
 refine Cd.dk 9 [0, 0, 0, 1, 1, 0, 1] [(5, wv n1), (7, wv n2), (8, wv 7)] [(5, pt g), (12, wv n2), (13, wv 7)] (.cons 5 (fun _ W S _ => mul_z en1 hx hx W (S.x 0 rfl)) <| .cons 7 (fun _ W S _ => mul_z en2 (zfm en1) hx W (S.x 0 rfl)) <| .cons 8 (fun _ W S _ => of_n 7 7 rfl (by decide) W) <| .nil) ?_
 obtain ⟨n3, en3⟩ : ∃ zz, zz = Ec.fa (PRM true) n2 7 := ⟨_, rfl⟩
 refine At.call 0 [] 14 (fun W S => add_z en3 (zfm en2) (by decide) W (S.x 0 rfl)) (At.st 0 [] 0 (limbs4 n3) h4 (At.nx ?_))
 exact Cd.rv r0 [] (wv n3) fun W S => by subst_vars; exact ⟨rfl, S.below⟩
theorem snone_c (g x y z : Nat) (hz : z < W256) (w : World) : Calls Tryz.prog 138 #[.agg (scs g x y z)] w fun e w' => e = .returned (.bool (decide (z = 0))) ∧ Below w.heap.size w w' := by
 exact enterQ 7 (fun q => .seq (q 0) (.seq (q 1) .ret)) (Sx.nil w) Tryz.func138 (Cd.sr (At.new 0 [] 1 (scs g x y z) 160 fun g1 h1 => At.run 1 [] [] (At.nx (Cd.sr (At.run 5 [] [(2, .bool (weq z 0))] (At.nx (Cd.rv r0 [] (.bool (weq z 0)) fun W S => ⟨by rw [weq_decide hz (by decide)], S.below⟩)))))))
theorem ztw {s t : Ec.Spt} (h : s = Ec.twN (PRM true) t) : s.x < W256 ∧ s.y < W256 ∧ s.z < W256 := by
 have k := Ec.twN_ok (PRM true) t
 rw [← h] at k
 exact ⟨prm_w k.1, prm_w k.2.1, prm_w k.2.2⟩
theorem twice_z {g x y z : Nat} {s : Ec.Spt} (h : s = Ec.twN (PRM true) ⟨x, y, z⟩) (hx : x < W256) (hy : y < W256) (hz : z < W256) (w : World) (hr : w.heap[g]? = some (rrow true)) : Calls Tryz.prog 123 #[.agg (scs g x y z)] w fun e w' => e = .returned (.agg (scs g s.x s.y s.z)) ∧ Below w.heap.size w w' := by
 refine enterQ 102 (fun q => .seq (q 0) (.seq (q 1) (.seq (q 2) (.seq (q 3) (.seq (q 4) (.seq (q 5) (.seq (q 6) (.seq (q 7) (.seq (q 8) (.seq (q 9) (.seq (q 10) (.seq (q 11) (.seq (q 12) (.seq (q 13) .ret)))))))))))))) (Sx.oneX hr) Tryz.func123 (Cd.sr (At.new 0 [] 1 (scs g x y z) 160 fun g1 h1 => At.new 0 [] 2 (#[.pointer none] ++ limbs4 0 ++ limbs4 0 ++ limbs4 0) 160 fun g2 h2 => At.nx (Cd.sr (At.run 3 [0, 1] [(3, pt g)] (At.nx (Cd.seq ?_))))))
 obtain ⟨n1, en1⟩ : ∃ zz, zz = Ec.fm (PRM true) x x := ⟨_, rfl⟩
 obtain ⟨n2, en2⟩ : ∃ zz, zz = Ec.fm (PRM true) y y := ⟨_, rfl⟩
 refine Cd.da 14 [0, 0, 1, 0, 1, 0, 0, 0, 1, 0, 1] [(5, wv n1), (11, wv n2)] [(12, ⟨none, limbs4 0, 87⟩), (13, ⟨none, limbs4 0, 87⟩)] (fun u2 => [(20, wv n1), (26, wv n2), (4, pt ((u2 12).n)), (5, pt ((u2 13).n))]) (.cons 5 (fun u2 W S h => mul_z en1 hx hx W (S.x 0 rfl)) <| .cons 11 (fun u2 W S h => mul_z en2 hy hy W (S.x 0 rfl)) <| .nil) fun u2 hu2 => At.st 0 [] 0 (limbs4 n1) (hu2 12 _ rfl) (At.st 0 [] 1 (limbs4 n2) (hu2 13 _ rfl) (At.nx (Cd.sr ?_)))
 obtain ⟨n3, en3⟩ : ∃ zz, zz = Ec.fm (PRM true) n2 n2 := ⟨_, rfl⟩
 refine At.call 3 [0, 1, 1] 30 (fun W S => mul_z en3 (zfm en2) (zfm en2) W (S.x 0 rfl)) (At.new 0 [] 6 (limbs4 0) 87 fun g6 h6 => At.st 0 [] 0 (limbs4 n3) h6 (At.nx (Cd.sr ?_)))
 obtain ⟨n4, en4⟩ : ∃ zz, zz = Ec.fa (PRM true) x n2 := ⟨_, rfl⟩
 refine At.call 4 [0, 0, 4, 2] 35 (fun W S => add_z en4 hx (zfm en2) W (S.x 0 rfl)) (At.new 0 [] 7 (limbs4 0) 87 fun g7 h7 => At.st 0 [] 0 (limbs4 n4) h7 (At.nx (Cd.seq ?_)))
 obtain ⟨n5, en5⟩ : ∃ zz, zz = Ec.fm (PRM true) n4 n4 := ⟨_, rfl⟩
 obtain ⟨n6, en6⟩ : ∃ zz, zz = Ec.fs (PRM true) n5 n1 := ⟨_, rfl⟩
 obtain ⟨n7, en7⟩ : ∃ zz, zz = Ec.fs (PRM true) n6 n3 := ⟨_, rfl⟩
 refine Cd.da 11 [0, 0, 0, 0, 0, 0, 2, 0, 1] [(5, wv n5), (7, wv n6), (9, wv n7)] [(10, ⟨none, limbs4 0, 87⟩)] (fun u5 => [(45, wv n7), (8, pt ((u5 10).n))]) (.cons 5 (fun u5 W S h => mul_z en5 (zfa en4) (zfa en4) W (S.x 0 rfl)) <| .cons 7 (fun u5 W S h => sub_z en6 (zfm en5) (zfm en1) W (S.x 0 rfl)) <| .cons 9 (fun u5 W S h => sub_z en7 (zfs en6) (zfm en3) W (S.x 0 rfl)) <| .nil) fun u5 hu5 => At.st 0 [] 0 (limbs4 n7) (hu5 10 _ rfl) (At.nx (Cd.sr ?_))
 obtain ⟨n8, en8⟩ : ∃ zz, zz = Ec.fa (PRM true) n7 n7 := ⟨_, rfl⟩
 refine At.call 3 [] 49 (fun W S => add_z en8 (zfs en7) (zfs en7) W (S.x 0 rfl)) (At.st 0 [] 0 (limbs4 n8) (hu5 10 _ rfl) (At.nx (Cd.seq ?_)))
 obtain ⟨n9, en9⟩ : ∃ zz, zz = Ec.fa (PRM true) n1 n1 := ⟨_, rfl⟩
 obtain ⟨n10, en10⟩ : ∃ zz, zz = Ec.fa (PRM true) n9 n1 := ⟨_, rfl⟩
 refine Cd.da 8 [0, 0, 3, 3, 0, 3] [(4, wv n9), (6, wv n10)] [(7, ⟨none, limbs4 0, 87⟩)] (fun u7 => [(56, wv n10), (9, pt ((u7 7).n))]) (.cons 4 (fun u7 W S h => add_z en9 (zfm en1) (zfm en1) W (S.x 0 rfl)) <| .cons 6 (fun u7 W S h => add_z en10 (zfa en9) (zfm en1) W (S.x 0 rfl)) <| .nil) fun u7 hu7 => At.st 0 [] 0 (limbs4 n10) (hu7 7 _ rfl) (At.nx (Cd.seq ?_))
 obtain ⟨n11, en11⟩ : ∃ zz, zz = Ec.fm (PRM true) n10 n10 := ⟨_, rfl⟩
 obtain ⟨n12, en12⟩ : ∃ zz, zz = Ec.fa (PRM true) n8 n8 := ⟨_, rfl⟩
 obtain ⟨n13, en13⟩ : ∃ zz, zz = Ec.fs (PRM true) n11 n12 := ⟨_, rfl⟩
 refine Cd.da 11 [0, 0, 0, 0, 0, 0, 1, 1] [(4, wv n11), (8, wv n12), (9, wv n13)] [(10, ⟨none, limbs4 0, 87⟩)] (fun u8 => [(66, wv n13), (10, pt ((u8 10).n))]) (.cons 4 (fun u8 W S h => mul_z en11 (zfa en10) (zfa en10) W (S.x 0 rfl)) <| .cons 8 (fun u8 W S h => add_z en12 (zfa en8) (zfa en8) W (S.x 0 rfl)) <| .cons 9 (fun u8 W S h => sub_z en13 (zfm en11) (zfa en12) W (S.x 0 rfl)) <| .nil) fun u8 hu8 => At.st 0 [] 0 (limbs4 n13) (hu8 10 _ rfl) (At.nx (Cd.sr ?_))
 obtain ⟨n14, en14⟩ : ∃ zz, zz = Ec.fa (PRM true) n3 n3 := ⟨_, rfl⟩
 refine At.call 3 [0, 4, 4] 70 (fun W S => add_z en14 (zfm en3) (zfm en3) W (S.x 0 rfl)) (At.st 0 [] 4 (limbs4 n14) h6 (At.nx (Cd.sr ?_)))
 obtain ⟨n15, en15⟩ : ∃ zz, zz = Ec.fa (PRM true) n14 n14 := ⟨_, rfl⟩
 refine At.call 3 [0, 4, 4] 74 (fun W S => add_z en15 (zfa en14) (zfa en14) W (S.x 0 rfl)) (At.st 0 [] 4 (limbs4 n15) h6 (At.nx (Cd.seq ?_)))
 obtain ⟨n16, en16⟩ : ∃ zz, zz = Ec.fs (PRM true) n8 n13 := ⟨_, rfl⟩
 obtain ⟨n17, en17⟩ : ∃ zz, zz = Ec.fm (PRM true) n10 n16 := ⟨_, rfl⟩
 obtain ⟨n18, en18⟩ : ∃ zz, zz = Ec.fa (PRM true) n15 n15 := ⟨_, rfl⟩
 obtain ⟨n19, en19⟩ : ∃ zz, zz = Ec.fs (PRM true) n17 n18 := ⟨_, rfl⟩
 refine Cd.da 14 [0, 0, 1, 0, 2, 0, 0, 0, 0, 4, 4] [(6, wv n16), (7, wv n17), (11, wv n18), (12, wv n19)] [(13, ⟨none, limbs4 0, 87⟩)] (fun u11 => [(87, wv n19), (11, pt ((u11 13).n))]) (.cons 6 (fun u11 W S h => sub_z en16 (zfa en8) (zfs en13) W (S.x 0 rfl)) <| .cons 7 (fun u11 W S h => mul_z en17 (zfa en10) (zfs en16) W (S.x 0 rfl)) <| .cons 11 (fun u11 W S h => add_z en18 (zfa en15) (zfa en15) W (S.x 0 rfl)) <| .cons 12 (fun u11 W S h => sub_z en19 (zfm en17) (zfa en18) W (S.x 0 rfl)) <| .nil) fun u11 hu11 => At.st 0 [] 0 (limbs4 n19) (hu11 13 _ rfl) (At.nx (Cd.sr ?_))
 obtain ⟨n20, en20⟩ : ∃ zz, zz = Ec.fm (PRM true) y z := ⟨_, rfl⟩
 refine At.call 5 [0, 0, 9, 0, 9] 93 (fun W S => mul_z en20 hy hz W (S.x 0 rfl)) (At.new 0 [] 12 (limbs4 0) 87 fun g12 h12 => At.st 0 [] 0 (limbs4 n20) h12 (At.nx (Cd.seq ?_)))
 obtain ⟨n21, en21⟩ : ∃ zz, zz = Ec.fa (PRM true) n20 n20 := ⟨_, rfl⟩
 exact Cd.dk 7 [0, 2, 1] [(6, wv n21)] [(94, pt g), (95, wv n13), (96, wv n19), (100, wv n21)] (.cons 6 (fun _ W S _ => add_z en21 (zfm en20) (zfm en20) W (S.x 0 rfl)) <| .nil) (At.st 1 [] 9 (scs g n13 n19 n21) h2 (At.nx (Cd.rv r0 [9] (.agg (scs g n13 n19 n21)) fun W S => ⟨by subst_vars; rfl, S.below⟩)))
theorem zpl {s t : Ec.Spt} {x2 y2 : Nat} (hx : x2 < W256) (hy : y2 < W256) (h : s = Ec.plN (PRM true) t x2 y2) : s.x < W256 ∧ s.y < W256 ∧ s.z < W256 := by
 unfold Ec.plN at h
 split at h
 ·subst h; exact ⟨hx, hy, (by decide : 1 < W256)⟩
 ·dsimp only at h
  split at h
  ·split at h
   ·exact ztw h
   ·subst h; exact ⟨(by decide : 0 < W256), (by decide : 0 < W256), (by decide : 0 < W256)⟩
  ·subst h; exact ⟨mod_w _, mod_w _, mod_w _⟩
namespace Ec
theorem pl_0 {n x y z x2 y2 : Nat} [NeZero n] (h : z = 0) : plN n ⟨x, y, z⟩ x2 y2 = ⟨x2, y2, 1⟩ := by unfold plN; rw [if_pos h]
theorem pl_t {n x y z x2 y2 : Nat} [NeZero n] (h : z ≠ 0) (h1 : fs n (fm n x2 (fm n z z)) x = 0) (h2 : fs n (fm n y2 (fm n (fm n z z) z)) y = 0) : plN n ⟨x, y, z⟩ x2 y2 = twN n ⟨x, y, z⟩ := by
 unfold plN; rw [if_neg h]; dsimp only; rw [if_pos h1, if_pos h2]
theorem pl_n {n x y z x2 y2 : Nat} [NeZero n] (h : z ≠ 0) (h1 : fs n (fm n x2 (fm n z z)) x = 0) (h2 : fs n (fm n y2 (fm n (fm n z z) z)) y ≠ 0) : plN n ⟨x, y, z⟩ x2 y2 = ⟨0, 0, 0⟩ := by
 unfold plN; rw [if_neg h]; dsimp only; rw [if_pos h1, if_neg h2]
theorem pl_g {n x y z x2 y2 hh r q v X : Nat} [NeZero n] (h : z ≠ 0) (h1 : hh = fs n (fm n x2 (fm n z z)) x) (h2 : hh ≠ 0) (h3 : r = fs n (fm n y2 (fm n (fm n z z) z)) y) (h4 : q = fm n hh hh) (h5 : v = fm n x q) (h6 : X = fs n (fs n (fm n r r) (fm n hh q)) (fa n v v)) :
 plN n ⟨x, y, z⟩ x2 y2 = ⟨X, fs n (fm n r (fs n v X)) (fm n y (fm n hh q)), fm n z hh⟩ := by
 subst h1 h3 h4 h5 h6
 unfold plN; rw [if_neg h]; dsimp only; rw [if_neg h2]
end Ec
theorem plus_z {g x y z x2 y2 : Nat} {o : Bool} {s : Ec.Spt} (h : s = Ec.plN (PRM true) ⟨x, y, z⟩ x2 y2) (hx : x < W256) (hy : y < W256) (hz : z < W256) (hx2 : x2 < W256) (hy2 : y2 < W256) (w : World) (hr : w.heap[g]? = some (rrow true)) : Calls Tryz.prog 125 #[.agg (scs g x y z), .agg (pcs x2 y2 o)] w fun e w' => e = .returned (.agg (scs g s.x s.y s.z)) ∧ Below w.heap.size w w' := by
 refine enterQ 112 (fun q => .seq (q 0) (.seq (q 1) (.seq (.seq (q 2) (.cond (.tmp 17) (.seq (q 3) .ret) .skip)) (.seq (q 4) (.seq (q 5) (.seq (q 6) (.seq (.seq (q 7) (.cond (.tmp 55) (.seq (.seq (q 8) (.cond (.tmp 58) (.seq (q 9) .ret) .skip)) (.seq (q 10) .ret)) .skip)) (.seq (q 11) (.seq (q 12) (.seq (q 13) (.seq (q 14) (.seq (q 15) .ret)))))))))))) (Sx.oneX hr) Tryz.func125 (Cd.sr (At.new 0 [] 2 (scs g x y z) 160 fun g2 h2 => At.new 0 [] 3 (pcs x2 y2 o) 89 fun g3 h3 => At.new 0 [] 4 (#[.pointer none] ++ limbs4 0 ++ limbs4 0 ++ limbs4 0) 160 fun g4 h4 => At.nx (Cd.sr (At.run 3 [0, 2] [(5, pt g)] (At.nx ?_)))))
 refine Cd.seq (Cd.sr (At.call 1 [2] 17 (fun W S => snone_c g x y z hz W) (At.nx (Cd.sp 17 (decide (z = 0)) (fun hb => ?_) fun hb => ?_))))
 ·exact Cd.ct (Cd.seq (Cd.dk 6 [0, 0, 1, 0, 1] [(5, wv 1)] [(18, pt g), (20, wv x2), (22, wv y2), (23, wv 1)] (.cons 5 (fun _ W S _ => of_n 1 1 rfl (by decide) W) <| .nil) (At.st 1 [] 0 (scs g x2 y2 1) h4 (At.nx (Cd.rv (rt r0) [] (.agg (scs g x2 y2 1)) fun W S => ⟨by rw [h, Ec.pl_0 (of_decide_eq_true hb)], S.below⟩)))))
 refine Cd.cf (Cd.sk (Cd.sh (Cd.sr ?_)))
 obtain ⟨n1, en1⟩ : ∃ zz, zz = Ec.fm (PRM true) z z := ⟨_, rfl⟩
 refine At.call 5 [0, 0, 2, 0, 2] 30 (fun W S => mul_z en1 hz hz W (S.x 0 rfl)) (At.new 0 [] 6 (limbs4 0) 87 fun g6 h6 => At.st 0 [] 0 (limbs4 n1) h6 (At.nx (Cd.seq ?_)))
 obtain ⟨n2, en2⟩ : ∃ zz, zz = Ec.fm (PRM true) x2 n1 := ⟨_, rfl⟩
 obtain ⟨n3, en3⟩ : ∃ zz, zz = Ec.fs (PRM true) n2 x := ⟨_, rfl⟩
 refine Cd.da 10 [0, 0, 0, 2, 0, 0, 0, 3] [(5, wv n2), (8, wv n3)] [(9, ⟨none, limbs4 0, 87⟩)] (fun u5 => [(39, wv n3), (7, pt ((u5 9).n))]) (.cons 5 (fun u5 W S h => mul_z en2 hx2 (zfm en1) W (S.x 0 rfl)) <| .cons 8 (fun u5 W S h => sub_z en3 (zfm en2) hx W (S.x 0 rfl)) <| .nil) fun u5 hu5 => At.st 0 [] 0 (limbs4 n3) (hu5 9 _ rfl) (At.nx (Cd.seq ?_))
 obtain ⟨n4, en4⟩ : ∃ zz, zz = Ec.fm (PRM true) n1 z := ⟨_, rfl⟩
 obtain ⟨n5, en5⟩ : ∃ zz, zz = Ec.fm (PRM true) y2 n4 := ⟨_, rfl⟩
 obtain ⟨n6, en6⟩ : ∃ zz, zz = Ec.fs (PRM true) n5 y := ⟨_, rfl⟩
 refine Cd.da 14 [0, 0, 0, 3, 0, 1, 0, 4, 0, 0, 0, 4] [(8, wv n4), (9, wv n5), (12, wv n6)] [(13, ⟨none, limbs4 0, 87⟩)] (fun u6 => [(52, wv n6), (8, pt ((u6 13).n))]) (.cons 8 (fun u6 W S h => mul_z en4 (zfm en1) hz W (S.x 0 rfl)) <| .cons 9 (fun u6 W S h => mul_z en5 hy2 (zfm en4) W (S.x 0 rfl)) <| .cons 12 (fun u6 W S h => sub_z en6 (zfm en5) hy W (S.x 0 rfl)) <| .nil) fun u6 hu6 => At.st 0 [] 0 (limbs4 n6) (hu6 13 _ rfl) (At.nx (Cd.seq (Cd.sr (At.run 3 [1] [(55, .bool (weq n3 0))] (At.nx (Cd.sp 55 (weq n3 0) (fun hb1 => ?_) fun hb1 => ?_))))))
 ·refine Cd.ct (Cd.seq (Cd.sr (At.run 3 [] [(58, .bool (weq n6 0))] (At.nx (Cd.sp 58 (weq n6 0) (fun hb2 => ?_) fun hb2 => ?_)))))
  ·refine Cd.ct (Cd.sr ?_)
   obtain ⟨s7, es7⟩ : ∃ zz, zz = Ec.twN (PRM true) ⟨x, y, z⟩ := ⟨_, rfl⟩
   exact At.call 1 [5] 60 (fun W S => twice_z es7 hx hy hz W (S.x 0 rfl)) (At.st 0 [] 3 (scs g s7.x s7.y s7.z) h4 (At.nx (Cd.rv (rt (rt r0)) [3] (.agg (scs g s7.x s7.y s7.z)) fun W S => ⟨by subst_vars; rw [Ec.pl_t (of_decide_eq_false hb) (weq_t hb1 (mod_w _)) (weq_t hb2 (mod_w _))], S.below⟩)))
  exact Cd.cf (Cd.sk (Cd.sh (Cd.sr (At.st 2 [] 3 (scs g 0 0 0) h4 (At.nx (Cd.rv (rt r0) [3] (.agg (scs g 0 0 0)) fun W S => ⟨by subst_vars; rw [Ec.pl_n (of_decide_eq_false hb) (weq_t hb1 (mod_w _)) (weq_f hb2 (mod_w _))], S.below⟩))))))
 refine Cd.cf (Cd.sk (Cd.sh (Cd.sr ?_)))
 obtain ⟨n8, en8⟩ : ∃ zz, zz = Ec.fm (PRM true) n3 n3 := ⟨_, rfl⟩
 refine At.call 3 [0, 1, 1] 66 (fun W S => mul_z en8 (zfs en3) (zfs en3) W (S.x 0 rfl)) (At.new 0 [] 9 (limbs4 0) 87 fun g9 h9 => At.st 0 [] 0 (limbs4 n8) h9 (At.nx (Cd.seq ?_)))
 obtain ⟨n9, en9⟩ : ∃ zz, zz = Ec.fm (PRM true) n3 n8 := ⟨_, rfl⟩
 obtain ⟨n10, en10⟩ : ∃ zz, zz = Ec.fm (PRM true) x n8 := ⟨_, rfl⟩
 refine Cd.da 11 [0, 2, 0, 0, 0, 0, 6] [(3, wv n9), (8, wv n10)] [(9, ⟨none, limbs4 0, 87⟩), (10, ⟨none, limbs4 0, 87⟩)] (fun u12 => [(70, wv n9), (75, wv n10), (10, pt ((u12 9).n)), (11, pt ((u12 10).n))]) (.cons 3 (fun u12 W S h => mul_z en9 (zfs en3) (zfm en8) W (S.x 0 rfl)) <| .cons 8 (fun u12 W S h => mul_z en10 hx (zfm en8) W (S.x 0 rfl)) <| .nil) fun u12 hu12 => At.st 0 [] 0 (limbs4 n9) (hu12 9 _ rfl) (At.st 0 [] 1 (limbs4 n10) (hu12 10 _ rfl) (At.nx (Cd.seq ?_)))
 obtain ⟨n11, en11⟩ : ∃ zz, zz = Ec.fm (PRM true) n6 n6 := ⟨_, rfl⟩
 obtain ⟨n12, en12⟩ : ∃ zz, zz = Ec.fs (PRM true) n11 n9 := ⟨_, rfl⟩
 obtain ⟨n13, en13⟩ : ∃ zz, zz = Ec.fa (PRM true) n10 n10 := ⟨_, rfl⟩
 obtain ⟨n14, en14⟩ : ∃ zz, zz = Ec.fs (PRM true) n12 n13 := ⟨_, rfl⟩
 refine Cd.da 14 [0, 0, 0, 3, 3, 0, 0, 0, 0, 1, 1] [(5, wv n11), (7, wv n12), (11, wv n13), (12, wv n14)] [(13, ⟨none, limbs4 0, 87⟩)] (fun u13 => [(88, wv n14), (12, pt ((u13 13).n))]) (.cons 5 (fun u13 W S h => mul_z en11 (zfs en6) (zfs en6) W (S.x 0 rfl)) <| .cons 7 (fun u13 W S h => sub_z en12 (zfm en11) (zfm en9) W (S.x 0 rfl)) <| .cons 11 (fun u13 W S h => add_z en13 (zfm en10) (zfm en10) W (S.x 0 rfl)) <| .cons 12 (fun u13 W S h => sub_z en14 (zfs en12) (zfa en13) W (S.x 0 rfl)) <| .nil) fun u13 hu13 => At.st 0 [] 0 (limbs4 n14) (hu13 13 _ rfl) (At.nx (Cd.seq ?_))
 obtain ⟨n15, en15⟩ : ∃ zz, zz = Ec.fs (PRM true) n10 n14 := ⟨_, rfl⟩
 obtain ⟨n16, en16⟩ : ∃ zz, zz = Ec.fm (PRM true) n6 n15 := ⟨_, rfl⟩
 obtain ⟨n17, en17⟩ : ∃ zz, zz = Ec.fm (PRM true) y n9 := ⟨_, rfl⟩
 obtain ⟨n18, en18⟩ : ∃ zz, zz = Ec.fs (PRM true) n16 n17 := ⟨_, rfl⟩
 refine Cd.da 15 [0, 0, 4, 0, 2, 0, 0, 0, 0, 0, 9, 1] [(6, wv n15), (7, wv n16), (12, wv n17), (13, wv n18)] [(14, ⟨none, limbs4 0, 87⟩)] (fun u14 => [(102, wv n18), (13, pt ((u14 14).n))]) (.cons 6 (fun u14 W S h => sub_z en15 (zfm en10) (zfs en14) W (S.x 0 rfl)) <| .cons 7 (fun u14 W S h => mul_z en16 (zfs en6) (zfs en15) W (S.x 0 rfl)) <| .cons 12 (fun u14 W S h => mul_z en17 hy (zfm en9) W (S.x 0 rfl)) <| .cons 13 (fun u14 W S h => sub_z en18 (zfm en16) (zfm en17) W (S.x 0 rfl)) <| .nil) fun u14 hu14 => At.st 0 [] 0 (limbs4 n18) (hu14 14 _ rfl) (At.nx (Cd.seq ?_))
 obtain ⟨n19, en19⟩ : ∃ zz, zz = Ec.fm (PRM true) z n3 := ⟨_, rfl⟩
 exact Cd.dk 8 [0, 1, 0, 0, 0, 10, 6] [(7, wv n19)] [(103, pt g), (104, wv n14), (105, wv n18), (110, wv n19)] (.cons 7 (fun _ W S _ => mul_z en19 hz (zfs en3) W (S.x 0 rfl)) <| .nil) (At.st 1 [] 8 (scs g n14 n18 n19) h4 (At.nx (Cd.rv r0 [8] (.agg (scs g n14 n18 n19)) fun W S => ⟨by subst_vars; rw [Ec.pl_g (of_decide_eq_false hb) rfl (weq_f hb1 (mod_w _)) rfl rfl rfl rfl], S.below⟩)))
theorem ierr_t {p : Bool} {a : Nat} (h : (ierr p a != 0) = true) : a % PRM p = 0 := by
 unfold ierr at h; split at h
 ·assumption
 ·cases h
theorem ierr_f {p : Bool} {a : Nat} (h : (ierr p a != 0) = false) : ¬ a % PRM p = 0 := by
 unfold ierr at h; split at h
 ·cases h
 ·assumption
theorem point_z {g x y z : Nat} {a : Pn} (h : a = Ec.ptN ⟨x, y, z⟩) (hx : x < W256) (hy : y < W256) (hz : z < W256) (w : World) (hr : w.heap[g]? = some (rrow true)) : Calls Tryz.prog 127 #[.agg (scs g x y z)] w fun e w' => e = .returned (.agg (pcs a.x a.y a.o)) ∧ Below w.heap.size w w' := by
 refine enterQ 37 (fun q => .seq (q 0) (.seq (q 1) (.seq (q 2) (.seq (.seq (q 3) (.cond (.tmp 17) (.seq (q 4) .ret) .skip)) (.seq (q 5) (.seq (q 6) .ret)))))) (Sx.oneX hr) Tryz.func127 (Cd.sr (At.new 0 [] 1 (scs g x y z) 160 fun g1 h1 => At.new 0 [] 2 (pcs 0 0 false) 89 fun g2 h2 => At.nx (Cd.sr (At.run 3 [0, 1] [(3, pt g)] (At.nx (Cd.sr ?_))))))
 obtain ⟨n1, en1⟩ : ∃ zz, zz = Ec.ivN true z := ⟨_, rfl⟩
 refine At.call 3 [0, 0, 1] 13 (fun W S => inv_z en1 hz W (S.x 0 rfl)) (At.run 3 [] [(14, wv n1), (15, .int .i64 (ierr true z))] (At.new 0 [] 4 (limbs4 0) 87 fun g4 h4 => At.st 0 [] 0 (limbs4 n1) h4 (At.run 1 [] [(5, .int .i64 (ierr true z))] (At.nx (Cd.seq (Cd.sr (At.run 2 [] [(17, .bool ((ierr true z) != 0))] ?_)))))))
 refine At.nx (Cd.sp 17 ((ierr true z) != 0) (fun hb => ?_) fun hb => ?_)
 ·exact Cd.ct (Cd.sr (At.call 0 [] 18 (fun W S => cnone_c W) (At.st 0 [] 1 (pcs 0 0 true) h2 (At.nx (Cd.rv (rt r0) [1] (.agg (pcs 0 0 true)) fun W S => ⟨by subst_vars; unfold Ec.ptN; rw [if_pos (ierr_t hb)], S.below⟩)))))
 refine Cd.cf (Cd.sk (Cd.sh (Cd.sr ?_)))
 obtain ⟨n2, en2⟩ : ∃ zz, zz = Ec.fm (PRM true) n1 n1 := ⟨_, rfl⟩
 refine At.call 3 [] 22 (fun W S => mul_z en2 (ziv en1) (ziv en1) W (S.x 0 rfl)) (At.new 0 [] 6 (limbs4 0) 87 fun g6 h6 => At.st 0 [] 0 (limbs4 n2) h6 (At.nx (Cd.seq ?_)))
 obtain ⟨n3, en3⟩ : ∃ zz, zz = Ec.fm (PRM true) x n2 := ⟨_, rfl⟩
 obtain ⟨n4, en4⟩ : ∃ zz, zz = Ec.fm (PRM true) n2 n1 := ⟨_, rfl⟩
 refine Cd.dk 12 [0, 0, 3, 0, 0, 0, 0, 3, 0, 0, 1] [(4, wv n3), (11, wv n4)] [(27, wv n3), (28, pt g), (30, wv y), (34, wv n4)] (.cons 4 (fun _ W S _ => mul_z en3 hx (zfm en2) W (S.x 0 rfl)) <| .cons 11 (fun _ W S _ => mul_z en4 (zfm en2) (ziv en1) W (S.x 0 rfl)) <| .nil) ?_
 obtain ⟨n5, en5⟩ : ∃ zz, zz = Ec.fm (PRM true) y n4 := ⟨_, rfl⟩
 exact At.call 0 [] 35 (fun W S => mul_z en5 hy (zfm en4) W (S.x 0 rfl)) (At.st 1 [] 2 (pcs n3 n5 false) h2 (At.nx (Cd.rv r0 [2] (.agg (pcs n3 n5 false)) fun W S => ⟨by subst_vars; unfold Ec.ptN; rw [if_neg (ierr_f hb)], S.below⟩)))
def Ec.ngN (y : Nat) : Nat := fs (PRM true) 0 y
def Ec.onN (x y : Nat) (o : Bool) : Bool := if o = true then decide (x = 0 ∧ y = 0) else decide (x < PRM true ∧ y < PRM true ∧ fm (PRM true) y y = sdN (PRM true) x)
theorem in_t {p : Bool} {g a : Nat} (h : a < PRM p) (W : World) (hr : W.heap[g]? = some (rrow p)) : Calls Tryz.prog 80 #[pt g, wv a] W fun e w' => e = .returned (.bool true) ∧ Below W.heap.size W w' := (in_c g a p (prm_w h) W hr).mono fun _ _ h' => by rw [decide_eq_true h] at h'; exact h'
theorem in_f {p : Bool} {g a : Nat} (h : ¬ a < PRM p) (ha : a < W256) (W : World) (hr : W.heap[g]? = some (rrow p)) : Calls Tryz.prog 80 #[pt g, wv a] W fun e w' => e = .returned (.bool false) ∧ Below W.heap.size W w' := (in_c g a p ha W hr).mono fun _ _ h' => by rw [decide_eq_false h] at h'; exact h'
theorem on_o {x y : Nat} {o : Bool} (h : o = true) (hx : x < W256) (hy : y < W256) : (weq x 0 && (weq y 0 && ((o == true) && true))) = Ec.onN x y o := by
 unfold Ec.onN; rw [if_pos h, weq_decide hx (by decide), weq_decide hy (by decide), h]; simp
theorem on_n {x y : Nat} {o r : Bool} (h : o = false) (hr : r = decide (x < PRM true ∧ y < PRM true ∧ Ec.fm (PRM true) y y = Ec.sdN (PRM true) x)) : r = Ec.onN x y o := by
 unfold Ec.onN; rw [if_neg (by rw [h]; decide), hr]
theorem con_c {x y : Nat} {o : Bool} (hx : x < W256) (hy : y < W256) (w : World) : Calls Tryz.prog 84 #[.agg (pcs x y o)] w fun e w' => e = .returned (.bool (Ec.onN x y o)) ∧ Below w.heap.size w w' := by
 refine enterQ 33 (fun q => .seq (q 0) (.seq (q 1) (.seq (.seq (q 2) (.cond (.tmp 6) (.seq (q 3) .ret) .skip)) (.seq (q 4) .ret)))) (Sx.nil w) Tryz.func84 (Cd.sr (At.new 0 [] 1 (pcs x y o) 89 fun g1 h1 => At.run 1 [] [] (At.nx (Cd.sr (At.callX 0 [] 4 (fun W S => P_x (by kernel_rfl) rfl W S) fun gp1 => At.run 1 [] [(3, pt gp1)] (At.nx ?_))))))
 refine Cd.seq (Cd.sr (At.run 2 [] [(6, .bool o)] (At.nx (Cd.sp 6 o (fun hb => ?_) fun hb => ?_))))
 ·exact Cd.ct (Cd.seq (Cd.dk 2 [] [(1, .agg (pcs 0 0 true))] [(7, .agg (pcs x y o)), (8, .agg (pcs 0 0 true))] (.cons 1 (fun _ W S _ => cnone_c W) <| .nil) (At.run 2 [] [(2, .bool (weq x 0 && (weq y 0 && ((o == true) && true))))] (At.nx (Cd.rv (rt r0) [] (.bool (weq x 0 && (weq y 0 && ((o == true) && true)))) fun W S => ⟨by rw [on_o hb hx hy], S.below⟩)))))
 refine Cd.cf (Cd.sk (Cd.sh ?_))
 by_cases hx1 : x < PRM true
 ·by_cases hy1 : y < PRM true
  ·refine Cd.seq ?_
   obtain ⟨n2, en2⟩ : ∃ zz, zz = Ec.fm (PRM true) y y := ⟨_, rfl⟩
   refine Cd.dk 20 [] [(3, .bool true), (8, .bool true), (16, wv n2)] [(20, .bool true), (26, wv n2), (27, pt gp1), (29, wv x)] (.cons 3 (fun _ W S _ => in_t hx1 W (S.x 0 rfl)) <| .cons 8 (fun _ W S _ => in_t hy1 W (S.x 0 rfl)) <| .cons 16 (fun _ W S _ => mul_z en2 hy hy W (S.x 0 rfl)) <| .nil) ?_
   obtain ⟨n3, en3⟩ : ∃ zz, zz = Ec.sdN (PRM true) x := ⟨_, rfl⟩
   exact At.call 0 [] 30 (fun W S => side_z en3 hx W (S.x 0 rfl)) (At.run 3 [] [(2, .bool (weq n2 n3))] (At.nx (Cd.rv r0 [] (.bool (weq n2 n3)) fun W S => ⟨congrArg (fun b => Ending.returned (.bool b)) (by rw [weq_decide (zfm en2) (zsd en3), en2, en3]; exact on_n hb (by simp [hx1, hy1])), S.below⟩)))
  exact Cd.seq (Cd.dk 20 [] [(3, .bool true), (8, .bool false)] [(20, .bool false), (26, undef), (27, undef), (29, undef)] (.cons 3 (fun _ W S _ => in_t hx1 W (S.x 0 rfl)) <| .cons 8 (fun _ W S _ => in_f hy1 hy W (S.x 0 rfl)) <| .nil) (At.run 4 [] [(2, .bool false)] (At.nx (Cd.rv r0 [] (.bool false) fun W S => ⟨by rw [← on_n hb (decide_eq_false fun h => hy1 h.2.1).symm], S.below⟩))))
 exact Cd.seq (Cd.dk 20 [] [(3, .bool false)] [(20, .bool false), (26, undef), (27, undef), (29, undef)] (.cons 3 (fun _ W S _ => in_f hx1 hx W (S.x 0 rfl)) <| .nil) (At.run 4 [] [(2, .bool false)] (At.nx (Cd.rv r0 [] (.bool false) fun W S => ⟨by rw [← on_n hb (decide_eq_false fun h => hx1 h.1).symm], S.below⟩))))
end Go.Proofs.YtbaifchbpnmkpaaGreat
