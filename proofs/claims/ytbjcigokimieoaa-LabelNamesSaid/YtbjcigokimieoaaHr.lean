/-
  bynameref01.Sum: its loops, each a piece of its own. (Printed by gen_rsum.py.)
-/
import Derived.Test.YtbjcigokimieoaaHf
import Derived.Test.YtbjcigokimieoaaFm
import Derived.Laws.AppendOwn
import Derived.Deep.AppendLies
import Derived.Deep.RegionLaw
import Derived.Deep.RegionHeld3
namespace Go.Proofs.Ytbjcigokimieoaa
open Go.RowKit

theorem keeps_cell {F : Nat → Prop} {W W' : World} (k : Keeps F W W') {b o : Nat} (hb : b < W.heap.size) (hF : ¬ F b) : W'.cell? ⟨b, o, none⟩ = W.cell? ⟨b, o, none⟩ := World.cell?_of_block (a := ⟨b, o, none⟩) (k.block b hb hF)
theorem outB_at8 (fs : List Nat) (i j : Nat) (hi : i < 8) (hj : j < 4) : nth (outB fs) (4 * i + j) = nth fs i / 2 ^ (24 - 8 * j) % 256 := by
  unfold outB
  rw [nth_range _ _ _ (by omega), show (4 * i + j) / 4 = i by omega, show (4 * i + j) % 4 = j by omega]
theorem xor64 (a b : Nat) (ha : a < 4294967296) (hb : b < 4294967296) : bits .xor .u64 (a : Int) (b : Int) = ((a ^^^ b : Nat) : Int) := by
  have hx : a ^^^ b < 2 ^ 32 := Nat.xor_lt_two_pow (n := 32) (by omega) (by omega)
  have h1 : (BitVec.ofInt 64 (a : Int)).toNat = a := by
    rw [BitVec.ofInt_natCast, BitVec.toNat_ofNat]; exact Nat.mod_eq_of_lt (by omega)
  have h2 : (BitVec.ofInt 64 (b : Int)).toNat = b := by
    rw [BitVec.ofInt_natCast, BitVec.toNat_ofNat]; exact Nat.mod_eq_of_lt (by omega)
  show IntKind.u64.wrap ((BitVec.ofInt 64 (a : Int) ^^^ BitVec.ofInt 64 (b : Int)).toNat : Int) = _
  rw [BitVec.toNat_xor, h1, h2, IntKind.wrap_u64]
  omega
theorem and64 (a b : Nat) (ha : a < 4294967296) (hb : b < 4294967296) : bits .and .u64 (a : Int) (b : Int) = ((a &&& b : Nat) : Int) := by
  have hx : a &&& b < 2 ^ 32 := Nat.and_lt_two_pow (n := 32) _ (by omega)
  have h1 : (BitVec.ofInt 64 (a : Int)).toNat = a := by
    rw [BitVec.ofInt_natCast, BitVec.toNat_ofNat]; exact Nat.mod_eq_of_lt (by omega)
  have h2 : (BitVec.ofInt 64 (b : Int)).toNat = b := by
    rw [BitVec.ofInt_natCast, BitVec.toNat_ofNat]; exact Nat.mod_eq_of_lt (by omega)
  show IntKind.u64.wrap ((BitVec.ofInt 64 (a : Int) &&& BitVec.ofInt 64 (b : Int)).toNat : Int) = _
  rw [BitVec.toNat_and, h1, h2, IntKind.wrap_u64]
  omega
theorem u64_row1 : (Try.prog.info? 69).map (fun i => (i.zero, i.size, i.bytes)) = some (some (.int .u64 0), 1, 8) := by kernel_rfl
/-- A slice of words that the call owns, from block B on. -/
structure OwnW (W : World) (B g n c : Nat) (ws : List Nat) : Prop where
  own : W.ownsRow B 69 1 (bsv g 0 n c) n (ws.map fun d => Value.int .u64 ((d : Nat) : Int))
  len : ws.length = n
theorem OwnW.base {W : World} {B g n c : Nat} {ws : List Nat} (h : OwnW W B g n c ws) : B ≤ g ∧ g < W.heap.size := h.own.lt g rfl
theorem OwnW.cell {W : World} {B g n c : Nat} {ws : List Nat} (h : OwnW W B g n c ws) (i : Nat) (hi : i < n) : W.cell? ⟨g, i, none⟩ = some (.int .u64 ((nth ws i : Nat) : Int)) := by
  have hl := h.len
  have e := h.own.cells (g := g) rfl i (.int .u64 ((nth ws i : Nat) : Int)) (by
    rw [List.getElem?_map, nth_get ws i (by omega)]; rfl)
  have hadd : (⟨g, 0, none⟩ : Addr).add i = ⟨g, 0 + i, none⟩ := by unfold Addr.add; split <;> simp_all
  rw [hadd, Nat.zero_add] at e; exact e
theorem OwnW.keep {W W' : World} {B g n c : Nat} {ws : List Nat} (h : OwnW W B g n c ws) (hb : Below W.heap.size W W') : OwnW W' B g n c ws :=
  ⟨h.own.kept (row := none) ⟨hb.os, hb.tape, hb.output, hb.size, fun k hk _ => hb.block k hk⟩ (.inr (by simp [Value.ownBlock])), h.len⟩
theorem OwnW.start (W : World) (B : Nat) (hB : B ≤ W.heap.size) : OwnW (W.alloc (.cells #[] 69)) B W.heap.size 0 0 [] :=
  ⟨World.ownsRow_made W #[] 0 hB (by decide) rfl, rfl⟩
/-- append(s, d). -/
theorem wpList_pushw {ops : Array Oper} {rest : List Oper} {o : Oper} {a : Act} {Q : Exit → Act → World → Prop} {W : World} (hgd : o.guard = none) (s x : Operand)
    (ho : o.op = .call { callee := .builtin .append, args := #[s, x], argTypes := #[73, 73] })
    (B g n c d b : Nat) (ws : List Nat) (hs : a.eval s = bsv g 0 n c) (hx : a.eval x = .slice (some ⟨b, 0, none⟩) 1 1) (hown : OwnW W B g n c ws) (hn : n ≤ 1000000) (hb : W.cell? ⟨b, 0, none⟩ = some (.int .u64 ((d : Nat) : Int)))
    (h : ∀ g' c' W', OwnW W' B g' (n + 1) c' (ws ++ [d]) → Below B W W' → wpList Try.prog ops Q rest (a.put o.dst (bsv g' 0 (n + 1) c')) W') : wpList Try.prog ops Q (o :: rest) a W := by
  obtain ⟨i0, hi, hz0, hz1, hz2⟩ := info_parts u64_row1
  refine wpList_append_own W hgd s x 73 ho B 69 i0 (.int .u64 0) 1 8 Try.underlying73 hi hz0 hz1 hz2 rfl (by decide) (bsv g 0 n c) n _ hs hown.own ⟨b, 0, none⟩ 1 1 [.int .u64 ((d : Nat) : Int)] hx rfl ?_ ?_ ?_ ?_ ?_ ?_
  · intro j u hj
    cases j with
    | zero => simp at hj; subst hj; exact hb
    | succ j => simp at hj
  · simp [Value.oneCell']
  · simp only [maxLen]; omega
  · omega
  · have := hown.base; omega
  · intro v' W' ho' hg hnil
    rcases ho'.2 with ⟨rfl, h0⟩ | ⟨g', cap, cur, rfl, hr⟩
    · omega
    · refine h g' cap W' ⟨by rw [List.map_append]; exact ho', by simp [hown.len]⟩ ?_
      exact (Below.refl B W).grown hg (by have := hown.base; omega) (fun k hk => by simp [Value.ownBlock] at hk; have := hown.base; omega)
/-- The same in a region that draws its order. -/
theorem step_pushw {ops : Array Oper} {o : Oper} {a : Act} {W : World} {K : Act → World → Prop} {Q : Exit → Act → World → Prop} {E : Prop} (hgd : o.guard = none) (s x : Operand)
    (ho : o.op = .call { callee := .builtin .append, args := #[s, x], argTypes := #[73, 73] })
    (B g n c d b : Nat) (ws : List Nat) (hs : a.eval s = bsv g 0 n c) (hx : a.eval x = .slice (some ⟨b, 0, none⟩) 1 1) (hown : OwnW W B g n c ws) (hn : n ≤ 1000000) (hb : W.cell? ⟨b, 0, none⟩ = some (.int .u64 ((d : Nat) : Int)))
    (h : ∀ g' c' W', OwnW W' B g' (n + 1) c' (ws ++ [d]) → Below B W W' → K (a.put o.dst (bsv g' 0 (n + 1) c')) W') : if Region.wanted o (yielded ops a.tmps) = true then Oper.wp Try.prog o a W K Q else E := by
  obtain ⟨i0, hi, hz0, hz1, hz2⟩ := info_parts u64_row1
  refine step_append_lies W hgd s x 73 ho B 69 i0 (.int .u64 0) 1 8 Try.underlying73 hi hz0 hz1 hz2 rfl (by decide) (bsv g 0 n c) n _ hs hown.own ⟨b, 0, none⟩ 1 1 [.int .u64 ((d : Nat) : Int)] hx rfl ?_ ?_ (by decide) ?_ ?_ ?_ _ rfl ?_
  · intro j u hj
    cases j with
    | zero => simp at hj; subst hj; exact hb
    | succ j => simp at hj
  · intro u hu; simp at hu; subst hu; rfl
  · simp only [maxLen]; omega
  · omega
  · have := hown.base; omega
  · intro g' cap W' ho' hg _ _
    refine h g' cap W' ⟨by rw [List.map_append]; exact ho', by simp [hown.len]⟩ ?_
    exact (Below.refl B W).grown hg (by have := hown.base; omega) (fun k hk => by simp [Value.ownBlock] at hk; have := hown.base; omega)

set_option maxRecDepth 100000 in
set_option maxHeartbeats 4000000 in
/-- Loop 2: a piece's words. -/
theorem rsum_l2 (v2 v3 v5 : Value) (gp op np cp at' g0 c0 B : Nat) (pd : List Nat) (hpd : ∀ y, y ∈ pd → y < 256) (hat : at' + 64 ≤ np) (hnp : np ≤ 2000000000) (hBp : gp < B) (a : Act) (w : World) (hfr : Fr 254 a [(2, v2), (3, v3), (4, bsv gp op np cp), (5, v5), (6, (.int .i64 (at' : Int))), (7, bsv g0 0 0 c0), (8, .int .i64 0)])
    (hc : ∀ i, i < np → w.cell? ⟨gp, op + i, none⟩ = some (.int .u8 ((nth pd i : Nat) : Int))) (ho : OwnW w B g0 0 c0 []) :
    (piece Try.f34 2).wp Try.prog (fun e a' w' => e = .normal ∧ ∃ g c, Hid (Fr 254 a' [(2, v2), (3, v3), (4, bsv gp op np cp), (5, v5), (6, (.int .i64 (at' : Int))), (7, bsv g 0 64 c)]) ∧ Hid (OwnW w' B g 64 c (sch (fun i => nth pd (at' + i)) 48)) ∧ Hid (Below B w w')) a w := by
  have HC := Lib.hid hc
  have hf : ∀ i, nth pd (at' + i) < 256 := fun i => by
    by_cases hi : at' + i < pd.length
    · exact hpd _ (nth_mem pd _ hi)
    · rw [nth_end pd _ (by omega)]; decide
  have HF := Lib.hid hf
  have hlow := sch_low (fun i => nth pd (at' + i)); have hhigh := sch_high (fun i => nth pd (at' + i)); have hw32 := sch_w (fun i => nth pd (at' + i)) hf 48; have hlen := sch_len (fun i => nth pd (at' + i)) 48
  obtain ⟨S, hS⟩ : ∃ S, S = sch (fun i => nth pd (at' + i)) 48 := ⟨_, rfl⟩
  rw [← hS] at hlow hhigh hw32 hlen ⊢
  have HLow := Lib.hid hlow; have HHigh := Lib.hid hhigh; have HW := Lib.hid hw32; have HLen := Lib.hid hlen
  have I0 : Hid (OwnW w B g0 0 c0 (S.take 0) ∧ Below B w w) := ⟨by rw [List.take_zero]; exact ho, Below.refl _ _⟩
  obtain ⟨T, hT⟩ : ∃ T, T = a.tmps := ⟨_, rfl⟩
  have hk := hfr.known
  have hlit := hfr.act
  rw [← hT] at hk hlit
  have k2 : slot T 2 = v2 := hk (2, v2) (by simp)
  have k3 : slot T 3 = v3 := hk (3, v3) (by simp)
  have k4 : slot T 4 = bsv gp op np cp := hk (4, bsv gp op np cp) (by simp)
  have k5 : slot T 5 = v5 := hk (5, v5) (by simp)
  have k6 : slot T 6 = (.int .i64 (at' : Int)) := hk (6, (.int .i64 (at' : Int))) (by simp)
  have k7 : slot T 7 = bsv g0 0 0 c0 := hk (7, bsv g0 0 0 c0) (by simp)
  have k8 : slot T 8 = .int .i64 0 := hk (8, .int .i64 0) (by simp)
  have hlit2 : a = ⟨#[slot T 0, slot T 1, slot T 2, slot T 3, slot T 4, slot T 5, slot T 6, slot T 7, slot T 8, slot T 9, slot T 10, slot T 11, slot T 12, slot T 13, slot T 14, slot T 15, slot T 16, slot T 17, slot T 18, slot T 19, slot T 20, slot T 21, slot T 22, slot T 23, slot T 24, slot T 25, slot T 26, slot T 27, slot T 28, slot T 29, slot T 30, slot T 31, slot T 32, slot T 33, slot T 34, slot T 35, slot T 36, slot T 37, slot T 38, slot T 39, slot T 40, slot T 41, slot T 42, slot T 43, slot T 44, slot T 45, slot T 46, slot T 47, slot T 48, slot T 49, slot T 50, slot T 51, slot T 52, slot T 53, slot T 54, slot T 55, slot T 56, slot T 57, slot T 58, slot T 59, slot T 60, slot T 61, slot T 62, slot T 63, slot T 64, slot T 65, slot T 66, slot T 67, slot T 68, slot T 69, slot T 70, slot T 71, slot T 72, slot T 73, slot T 74, slot T 75, slot T 76, slot T 77, slot T 78, slot T 79, slot T 80, slot T 81, slot T 82, slot T 83, slot T 84, slot T 85, slot T 86, slot T 87, slot T 88, slot T 89, slot T 90, slot T 91, slot T 92, slot T 93, slot T 94, slot T 95, slot T 96, slot T 97, slot T 98, slot T 99, slot T 100, slot T 101, slot T 102, slot T 103, slot T 104, slot T 105, slot T 106, slot T 107, slot T 108, slot T 109, slot T 110, slot T 111, slot T 112, slot T 113, slot T 114, slot T 115, slot T 116, slot T 117, slot T 118, slot T 119, slot T 120, slot T 121, slot T 122, slot T 123, slot T 124, slot T 125, slot T 126, slot T 127, slot T 128, slot T 129, slot T 130, slot T 131, slot T 132, slot T 133, slot T 134, slot T 135, slot T 136, slot T 137, slot T 138, slot T 139, slot T 140, slot T 141, slot T 142, slot T 143, slot T 144, slot T 145, slot T 146, slot T 147, slot T 148, slot T 149, slot T 150, slot T 151, slot T 152, slot T 153, slot T 154, slot T 155, slot T 156, slot T 157, slot T 158, slot T 159, slot T 160, slot T 161, slot T 162, slot T 163, slot T 164, slot T 165, slot T 166, slot T 167, slot T 168, slot T 169, slot T 170, slot T 171, slot T 172, slot T 173, slot T 174, slot T 175, slot T 176, slot T 177, slot T 178, slot T 179, slot T 180, slot T 181, slot T 182, slot T 183, slot T 184, slot T 185, slot T 186, slot T 187, slot T 188, slot T 189, slot T 190, slot T 191, slot T 192, slot T 193, slot T 194, slot T 195, slot T 196, slot T 197, slot T 198, slot T 199, slot T 200, slot T 201, slot T 202, slot T 203, slot T 204, slot T 205, slot T 206, slot T 207, slot T 208, slot T 209, slot T 210, slot T 211, slot T 212, slot T 213, slot T 214, slot T 215, slot T 216, slot T 217, slot T 218, slot T 219, slot T 220, slot T 221, slot T 222, slot T 223, slot T 224, slot T 225, slot T 226, slot T 227, slot T 228, slot T 229, slot T 230, slot T 231, slot T 232, slot T 233, slot T 234, slot T 235, slot T 236, slot T 237, slot T 238, slot T 239, slot T 240, slot T 241, slot T 242, slot T 243, slot T 244, slot T 245, slot T 246, slot T 247, slot T 248, slot T 249, slot T 250, slot T 251, slot T 252, slot T 253], []⟩ := hlit
  rw [k2, k3, k4, k5, k6, k7, k8] at hlit2
  subst hlit2
  clear hfr hk hlit hc hf hlow hhigh hw32 hlen hS ho hT hpd k2 k3 k4 k5 k6 k7 k8
  conv => arg 2; whnf
  go_wp2
  go_loopw [7, 8] (fun s7 s8 wr => ∃ i g c : Nat, s8 = .int .i64 (i : Int) ∧ i ≤ 64 ∧ s7 = bsv g 0 i c ∧ Hid (OwnW wr B g i c (S.take i) ∧ Below B w wr)) (fun _ s8 _ => (64 - intOf s8).toNat)
  case atStart => exact ⟨0, g0, c0, rfl, by omega, rfl, I0⟩
  case round =>
    obtain ⟨i, g, c, rfl, hi, rfl, HI⟩ := hrel
    by_cases h64 : i = 64
    · have hge : ¬ (i : Int) < 64 := by omega
      subst h64
      have HO : Hid (OwnW wr B g 64 c S) := by
        have := HI.out.1; rwa [List.take_of_length_le (by rw [HLen.out]; decide)] at this
      have HB : Hid (Below B w wr) := HI.out.2
      go_wp2_with fail
      exact ⟨g, c, fr_of rfl rfl, HO⟩
    · have hlt : (i : Int) < 64 := by omega
      by_cases h16 : i < 16
      · have hlt16 : (i : Int) < 16 := by omega
        have CW : Hid (∀ j, j < np → wr.cell? ⟨gp, op + j, none⟩ = some (.int .u8 ((nth pd j : Nat) : Int))) := fun j hj => (HI.out.2.cell (p := ⟨gp, op + j, none⟩) hBp).trans (HC.out j hj)
        have c0' := CW.out (at' + (4 * i)) (by omega); have c1' := CW.out (at' + (4 * i + 1)) (by omega); have c2' := CW.out (at' + (4 * i + 2)) (by omega); have c3' := CW.out (at' + (4 * i + 3)) (by omega)
        have f0 := HF.out (4 * i); have f1 := HF.out (4 * i + 1); have f2 := HF.out (4 * i + 2); have f3 := HF.out (4 * i + 3)
        have HX0 : nth S i = ((nth pd (at' + (4 * i)) * 256 + nth pd (at' + (4 * i + 1))) * 256 + nth pd (at' + (4 * i + 2))) * 256 + nth pd (at' + (4 * i + 3)) := HLow.out i h16
        obtain ⟨y0, e0⟩ : ∃ y, nth pd (at' + (4 * i)) = y := ⟨_, rfl⟩
        obtain ⟨y1, e1⟩ : ∃ y, nth pd (at' + (4 * i + 1)) = y := ⟨_, rfl⟩
        obtain ⟨y2, e2⟩ : ∃ y, nth pd (at' + (4 * i + 2)) = y := ⟨_, rfl⟩
        obtain ⟨y3, e3⟩ : ∃ y, nth pd (at' + (4 * i + 3)) = y := ⟨_, rfl⟩
        rw [e0, e1, e2, e3] at HX0
        rw [e0] at c0' f0; rw [e1] at c1' f1; rw [e2] at c2' f2; rw [e3] at c3' f3
        obtain ⟨k0, hk0⟩ : ∃ j, 4 * i = j := ⟨_, rfl⟩
        have m0 : IntKind.i64.wrap (4 * (i : Int)) = (k0 : Int) := by rw [IntKind.wrap_i64]; omega
        rw [hk0] at c0' c1' c2' c3'
        obtain ⟨p0, hp0⟩ : ∃ j, at' + k0 = j := ⟨_, rfl⟩
        obtain ⟨p1, hp1⟩ : ∃ j, at' + (k0 + 1) = j := ⟨_, rfl⟩
        obtain ⟨p2, hp2⟩ : ∃ j, at' + (k0 + 2) = j := ⟨_, rfl⟩
        obtain ⟨p3, hp3⟩ : ∃ j, at' + (k0 + 3) = j := ⟨_, rfl⟩
        rw [hp0] at c0'; rw [hp1] at c1'; rw [hp2] at c2'; rw [hp3] at c3'
        have m1 : IntKind.i64.wrap ((at' : Int) + k0) = (p0 : Int) := by rw [IntKind.wrap_i64]; omega
        have m2 : IntKind.i64.wrap ((p0 : Int) + 1) = (p1 : Int) := by rw [IntKind.wrap_i64]; omega
        have m3 : IntKind.i64.wrap ((p0 : Int) + 2) = (p2 : Int) := by rw [IntKind.wrap_i64]; omega
        have m4 : IntKind.i64.wrap ((p0 : Int) + 3) = (p3 : Int) := by rw [IntKind.wrap_i64]; omega
        have m5 : (p3 : Int) < np := by omega
        have m6 : (p0 : Int) < np := by omega
        have m7 : (p1 : Int) < np := by omega
        have m8 : (p2 : Int) < np := by omega
        obtain ⟨h1, eh1⟩ : ∃ j, 256 * y0 = j := ⟨_, rfl⟩
        obtain ⟨n2, en2⟩ : ∃ j, h1 + y1 = j := ⟨_, rfl⟩
        obtain ⟨h2, eh2⟩ : ∃ j, 256 * n2 = j := ⟨_, rfl⟩
        obtain ⟨n3, en3⟩ : ∃ j, h2 + y2 = j := ⟨_, rfl⟩
        obtain ⟨h3, eh3⟩ : ∃ j, 256 * n3 = j := ⟨_, rfl⟩
        obtain ⟨x, ex⟩ : ∃ j, h3 + y3 = j := ⟨_, rfl⟩
        have w1 : IntKind.u64.wrap (256 * (y0 : Int)) = (h1 : Int) := by rw [IntKind.wrap_u64]; omega
        have w2 : IntKind.u64.wrap ((h1 : Int) + y1) = (n2 : Int) := by rw [IntKind.wrap_u64]; omega
        have w3 : IntKind.u64.wrap (256 * (n2 : Int)) = (h2 : Int) := by rw [IntKind.wrap_u64]; omega
        have w4 : IntKind.u64.wrap ((h2 : Int) + y2) = (n3 : Int) := by rw [IntKind.wrap_u64]; omega
        have w5 : IntKind.u64.wrap (256 * (n3 : Int)) = (h3 : Int) := by rw [IntKind.wrap_u64]; omega
        have w6 : IntKind.u64.wrap ((h3 : Int) + y3) = (x : Int) := by rw [IntKind.wrap_u64]; omega
        have HX : Hid (S.take (i + 1) = S.take i ++ [x]) := by
          show _ = _
          rw [List.take_add_one, nth_get S i (by rw [HLen.out]; omega), HX0]
          congr 2; simp; omega
        have HO1 := Lib.hid (HI.out.1.keep ((Below.refl _ _).alloc (Nat.le_refl _) (.cells #[.int .u64 (x : Int)] 69)))
        have HO2 := Lib.hid (HI.out.2.alloc (Nat.le_trans HI.out.1.base.1 (Nat.le_of_lt HI.out.1.base.2)) (.cells #[.int .u64 (x : Int)] 69))
        have HXC : Hid ((wr.alloc (.cells #[.int .u64 (x : Int)] 69)).cell? ⟨wr.heap.size, 0, none⟩ = some (.int .u64 (x : Int))) := (cell_of_row _ _ _ _ _ _ (heap_alloc_last _ _)).trans rfl
        clear HX0 e0 e1 e2 e3 hk0 hp0 hp1 hp2 hp3 eh1 en2 eh2 en3 eh3 ex CW HI
        go_wp2_with fail
        refine wp_loop_rounds 5 ?_
        rw [rounds_succ]; go_wp2_with fail
        rw [rounds_succ]; go_wp2_with fail
        rw [rounds_succ]; go_wp2_with fail
        rw [rounds_succ]; go_wp2_with fail
        rw [rounds_succ]; go_wp2_with (at_builtin; go_loud (refine wpList_pushw (by rfl) (.tmp 60) (.tmp 62) (by rfl) B g i c x wr.heap.size (S.take i) (by rfl) (by rfl) HO1.out (by omega) HXC.out ?_; intro g' c' W' ho' hb'; have HN : Hid (OwnW W' B g' (i + 1) c' (S.take (i + 1)) ∧ Below B w W') := ⟨by rw [HX.out]; exact ho', HO2.out.trans hb'⟩; clear ho' hb'))
        go_roundw
        case rel => exact ⟨i + 1, g', c', by go_num, by omega, rfl, HN⟩
        case measure => simp [intOf]; omega
      · obtain ⟨n, hn⟩ : ∃ n, n + 16 = i := ⟨i - 16, by omega⟩
        have hge16 : ¬ (i : Int) < 16 := by omega
        have HO := Lib.hid HI.out.1
        have HB : Hid (Below B w wr) := HI.out.2
        obtain ⟨i15, h15⟩ : ∃ j, n + 1 = j := ⟨_, rfl⟩
        obtain ⟨i2, h2⟩ : ∃ j, n + 14 = j := ⟨_, rfl⟩
        obtain ⟨i7, h7⟩ : ∃ j, n + 9 = j := ⟨_, rfl⟩
        have tk : ∀ j, j < i → nth (S.take i) j = nth S j := fun j hj => by
          unfold nth; rw [List.getD_eq_getElem?_getD, List.getD_eq_getElem?_getD, List.getElem?_take, if_pos hj]
        have c15 := HO.out.cell i15 (by omega); have c2 := HO.out.cell i2 (by omega); have c16 := HO.out.cell n (by omega); have c7 := HO.out.cell i7 (by omega)
        rw [tk i15 (by omega)] at c15; rw [tk i2 (by omega)] at c2; rw [tk n (by omega)] at c16; rw [tk i7 (by omega)] at c7
        have HS := HHigh.out n (by omega)
        rw [h15, h2, h7, hn] at HS
        have SW := HW.out
        have b15 := SW i15; have b2 := SW i2; have b16 := SW n; have b7 := SW i7
        obtain ⟨x15, e15⟩ : ∃ x, nth S i15 = x := ⟨_, rfl⟩
        obtain ⟨x2, e2⟩ : ∃ x, nth S i2 = x := ⟨_, rfl⟩
        obtain ⟨x16, e16⟩ : ∃ x, nth S n = x := ⟨_, rfl⟩
        obtain ⟨x7, e7⟩ : ∃ x, nth S i7 = x := ⟨_, rfl⟩
        rw [e15, e2, e16, e7] at HS; rw [e15] at c15 b15; rw [e2] at c2 b2; rw [e16] at c16 b16; rw [e7] at c7 b7
        clear e15 e2 e16 e7 SW tk
        have T1 : Hid (∀ W, Calls Try.prog 40 #[.int .u64 (x15 : Int), .int .u64 7] W fun e w' => e = .returned (.int .u64 ((rotr x15 7 : Nat) : Int)) ∧ w' = W) := fun W => (rright_c x15 7 b15 (by decide) W).mono fun _ _ h => ⟨h.1, h.2.symm⟩
        have T2 : Hid (∀ W, Calls Try.prog 40 #[.int .u64 (x15 : Int), .int .u64 18] W fun e w' => e = .returned (.int .u64 ((rotr x15 18 : Nat) : Int)) ∧ w' = W) := fun W => (rright_c x15 18 b15 (by decide) W).mono fun _ _ h => ⟨h.1, h.2.symm⟩
        have T3 : Hid (∀ W, Calls Try.prog 41 #[.int .u64 (x15 : Int), .int .u64 3] W fun e w' => e = .returned (.int .u64 ((x15 / 8 : Nat) : Int)) ∧ w' = W) := fun W => (down_c x15 3 (by decide) W).mono fun _ _ h => ⟨h.1, h.2.symm⟩
        have T4 : Hid (∀ W, Calls Try.prog 40 #[.int .u64 (x2 : Int), .int .u64 17] W fun e w' => e = .returned (.int .u64 ((rotr x2 17 : Nat) : Int)) ∧ w' = W) := fun W => (rright_c x2 17 b2 (by decide) W).mono fun _ _ h => ⟨h.1, h.2.symm⟩
        have T5 : Hid (∀ W, Calls Try.prog 40 #[.int .u64 (x2 : Int), .int .u64 19] W fun e w' => e = .returned (.int .u64 ((rotr x2 19 : Nat) : Int)) ∧ w' = W) := fun W => (rright_c x2 19 b2 (by decide) W).mono fun _ _ h => ⟨h.1, h.2.symm⟩
        have T6 : Hid (∀ W, Calls Try.prog 41 #[.int .u64 (x2 : Int), .int .u64 10] W fun e w' => e = .returned (.int .u64 ((x2 / 1024 : Nat) : Int)) ∧ w' = W) := fun W => (down_c x2 10 (by decide) W).mono fun _ _ h => ⟨h.1, h.2.symm⟩
        have j15 : IntKind.i64.wrap ((i : Int) - 15) = (i15 : Int) := by rw [IntKind.wrap_i64]; omega
        have j2 : IntKind.i64.wrap ((i : Int) - 2) = (i2 : Int) := by rw [IntKind.wrap_i64]; omega
        have j16 : IntKind.i64.wrap ((i : Int) - 16) = (n : Int) := by rw [IntKind.wrap_i64]; omega
        have j7 : IntKind.i64.wrap ((i : Int) - 7) = (i7 : Int) := by rw [IntKind.wrap_i64]; omega
        have u15 : (i15 : Int) < i := by omega
        have u2 : (i2 : Int) < i := by omega
        have u16 : (n : Int) < i := by omega
        have u7 : (i7 : Int) < i := by omega
        have d15 : x15 / 8 < 4294967296 := by omega
        have d2 : x2 / 1024 < 4294967296 := by omega
        have v2 := xor64 (rotr x15 7) (rotr x15 18) (rotr_lt _ _) (rotr_lt _ _)
        have v3 : bits .xor .u64 ((rotr x15 7 ^^^ rotr x15 18 : Nat) : Int) ((x15 / 8 : Nat) : Int) = ((sg0 x15 : Nat) : Int) := xor64 _ _ (xor_lt (rotr_lt _ _) (rotr_lt _ _)) d15
        have v4 := xor64 (rotr x2 17) (rotr x2 19) (rotr_lt _ _) (rotr_lt _ _)
        have v5 : bits .xor .u64 ((rotr x2 17 ^^^ rotr x2 19 : Nat) : Int) ((x2 / 1024 : Nat) : Int) = ((sg1 x2 : Nat) : Int) := xor64 _ _ (xor_lt (rotr_lt _ _) (rotr_lt _ _)) d2
        have q1b : sg0 x15 < 4294967296 := xor_lt (xor_lt (rotr_lt _ _) (rotr_lt _ _)) d15
        have q2b : sg1 x2 < 4294967296 := xor_lt (xor_lt (rotr_lt _ _) (rotr_lt _ _)) d2
        obtain ⟨r7, hr7⟩ : ∃ r, rotr x15 7 = r := ⟨_, rfl⟩
        obtain ⟨r18, hr18⟩ : ∃ r, rotr x15 18 = r := ⟨_, rfl⟩
        obtain ⟨r17, hr17⟩ : ∃ r, rotr x2 17 = r := ⟨_, rfl⟩
        obtain ⟨r19, hr19⟩ : ∃ r, rotr x2 19 = r := ⟨_, rfl⟩
        obtain ⟨r3, hr3⟩ : ∃ r, x15 / 8 = r := ⟨_, rfl⟩
        obtain ⟨r10, hr10⟩ : ∃ r, x2 / 1024 = r := ⟨_, rfl⟩
        rw [hr7] at v2 v3 T1; rw [hr18] at v2 v3 T2; rw [hr17] at v4 v5 T4; rw [hr19] at v4 v5 T5; rw [hr3] at v3 T3; rw [hr10] at v5 T6
        obtain ⟨p1, hp1⟩ : ∃ r, r7 ^^^ r18 = r := ⟨_, rfl⟩
        obtain ⟨p2, hp2⟩ : ∃ r, r17 ^^^ r19 = r := ⟨_, rfl⟩
        rw [hp1] at v2 v3; rw [hp2] at v4 v5
        obtain ⟨q1, hq1⟩ : ∃ r, sg0 x15 = r := ⟨_, rfl⟩
        obtain ⟨q2, hq2⟩ : ∃ r, sg1 x2 = r := ⟨_, rfl⟩
        rw [hq1] at v3 q1b HS; rw [hq2] at v5 q2b HS
        obtain ⟨s1, hs1⟩ : ∃ r, x16 + q1 = r := ⟨_, rfl⟩
        obtain ⟨s2, hs2⟩ : ∃ r, s1 + x7 = r := ⟨_, rfl⟩
        obtain ⟨s3, hs3⟩ : ∃ r, s2 + q2 = r := ⟨_, rfl⟩
        have w1 : IntKind.u64.wrap ((x16 : Int) + q1) = (s1 : Int) := by rw [IntKind.wrap_u64]; omega
        have w2 : IntKind.u64.wrap ((s1 : Int) + x7) = (s2 : Int) := by rw [IntKind.wrap_u64]; omega
        have w3 : IntKind.u64.wrap ((s2 : Int) + q2) = (s3 : Int) := by rw [IntKind.wrap_u64]; omega
        obtain ⟨x, ex⟩ : ∃ x, s3 % 4294967296 = x := ⟨_, rfl⟩
        have w4 : (s3 : Int).tmod 4294967296 = (x : Int) := by rw [Int.tmod_eq_emod_of_nonneg (Int.natCast_nonneg _)]; omega
        have w5 : (s3 : Int) % 4294967296 = (x : Int) := by omega
        have HX : Hid (S.take (i + 1) = S.take i ++ [x]) := by
          show _ = _
          rw [List.take_add_one, nth_get S i (by rw [HLen.out]; omega), HS]
          congr 2; simp; omega
        clear HS hq1 hq2 hs1 hs2 hs3 ex hp1 hp2 hr7 hr18 hr17 hr19 hr3 hr10 b15 b2 b16 b7 d15 d2 HI h15 h2 h7 hn
        go_wp2_with fail
        go_quiet ((first | (go_at_call 40; with_reducible exact Calls.quiet_of_same (T1.out _)) | (go_at_call 40; with_reducible exact Calls.quiet_of_same (T2.out _)) | (go_at_call 41; with_reducible exact Calls.quiet_of_same (T3.out _))))
        obtain ⟨wa, hwa⟩ : ∃ v, v = wr.drewN nq := ⟨_, rfl⟩
        rw [← hwa]
        replace c2 : wa.cell? ⟨g, i2, none⟩ = some (.int .u64 (x2 : Int)) := by rw [hwa]; exact c2
        replace c7 : wa.cell? ⟨g, i7, none⟩ = some (.int .u64 (x7 : Int)) := by rw [hwa]; exact c7
        replace c16 : wa.cell? ⟨g, n, none⟩ = some (.int .u64 (x16 : Int)) := by rw [hwa]; exact c16
        replace HO : Hid (OwnW wa B g i c (S.take i)) := by rw [hwa]; exact HO.out.keep (below_drewQ (Below.refl _ _) nq)
        replace HB : Hid (Below B w wa) := by rw [hwa]; exact below_drewQ HB.out nq
        clear hwa c15 nq
        go_wp2_with fail
        go_quiet ((first | (go_at_call 40; with_reducible exact Calls.quiet_of_same (T4.out _)) | (go_at_call 40; with_reducible exact Calls.quiet_of_same (T5.out _)) | (go_at_call 41; with_reducible exact Calls.quiet_of_same (T6.out _))))
        obtain ⟨wb, hwb⟩ : ∃ v, v = wa.drewN nq := ⟨_, rfl⟩
        rw [← hwb]
        replace c7 : wb.cell? ⟨g, i7, none⟩ = some (.int .u64 (x7 : Int)) := by rw [hwb]; exact c7
        replace c16 : wb.cell? ⟨g, n, none⟩ = some (.int .u64 (x16 : Int)) := by rw [hwb]; exact c16
        replace HO : Hid (OwnW wb B g i c (S.take i)) := by rw [hwb]; exact HO.out.keep (below_drewQ (Below.refl _ _) nq)
        replace HB : Hid (Below B w wb) := by rw [hwb]; exact below_drewQ HB.out nq
        clear hwb c2 nq
        have HO1 := Lib.hid (HO.out.keep ((Below.drew (Below.refl _ _)).alloc (Nat.le_refl _) (.cells #[.int .u64 (x : Int)] 69)))
        have HO2 := Lib.hid (HB.out.drew.alloc (Nat.le_trans HO.out.base.1 (Nat.le_of_lt HO.out.base.2)) (.cells #[.int .u64 (x : Int)] 69))
        have HXC : Hid ((wb.drew.alloc (.cells #[.int .u64 (x : Int)] 69)).cell? ⟨wb.heap.size, 0, none⟩ = some (.int .u64 (x : Int))) := (cell_of_row _ _ _ _ _ _ (heap_alloc_last _ _)).trans rfl
        go_wp2_with fail
        refine wp_region_noPanic ?_
        go_region_law (go_loud (refine step_pushw (by rfl) (.tmp 104) (.tmp 121) (by rfl) B g i c x wb.heap.size (S.take i) (by rfl) (by rfl) HO1.out (by omega) HXC.out ?_; intro g' c' W' ho' hb'; have HN : Hid (OwnW W' B g' (i + 1) c' (S.take (i + 1)) ∧ Below B w W') := ⟨by rw [HX.out]; exact ho', HO2.out.trans hb'⟩; clear ho' hb'))
        all_goals (refine NoPanic.normal ?_)
        all_goals go_wp2_with fail
        all_goals (
          go_roundw
          case rel => exact ⟨i + 1, g', c', by go_num, by omega, rfl, HN⟩
          case measure => simp [intOf]; omega)
end Go.Proofs.Ytbjcigokimieoaa
