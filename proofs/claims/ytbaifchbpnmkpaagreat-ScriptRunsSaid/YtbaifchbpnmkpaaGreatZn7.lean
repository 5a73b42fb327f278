/-
  Lemmas of the claim, part 7. (Printed by shake.py, mini.py.)
-/
import Derived.Test.YtbaifchbpnmkpaaGreatZn6
set_option maxRecDepth 100000
set_option maxHeartbeats 16000000
set_option linter.unusedVariables false
set_option linter.unusedSimpArgs false
namespace Go.Proofs.YtbaifchbpnmkpaaGreat
variable {w W W' : World} {L : List (Nat × Obj)} {X : List Xt} {Q : Exit → Act → World → Prop} {v : Value} {sg : List Nat → List Nat → Bool} {ds : List Nat} {T : Array Value} {P : Program} {F : List (Nat × Value)} {K : Act → World → Prop} {vs : Array Value} {fid : FuncId} {A : Option Addr} {f : Func} {g : Nat}
open Go.RowKit
def OpQ (w : World) (l : Value) (res : Except Nat (List (List Nat))) (e : Ending) (w' : World) : Prop := Below w.heap.size w w' ∧ ∃ z : Lt, match res with
 | .error q => e = .returned (.tuple #[z.sl, .int .i64 ((q : Nat) : Int)])
 | .ok st => e = .returned (.tuple #[z.sl, .int .i64 0]) ∧ ShV w' z.sl (sce st.reverse) ∧ (z.sl = l ∨ ∀ b, z.sl.ownBlock = some b → w.heap.size ≤ b)
section
variable {w W : World} {L : List (Nat × Obj)} {X : List Xt} {l : Value} {res : Except Nat (List (List Nat))} {q : Nat} {st : List (List Nat)}
theorem OpQ.err (h : res = .error q) (z : Lt) (hb : Below w.heap.size w W) : OpQ w l res (.returned (.tuple #[z.sl, vi q])) W := by subst h; exact ⟨hb, z, rfl⟩
theorem OpQ.same {z : Lt} {cs : List Value} (h : res = .ok st) (S : Sx w L X W) (j : Nat) (hj : X[j]? = some (xsl z.sl cs)) (hc : cs = sce st.reverse) : OpQ w z.sl res (.returned (.tuple #[z.sl, .int .i64 0])) W := by
 subst h hc; exact ⟨S.below, z, rfl, S.sl j hj, Or.inl rfl⟩
theorem OpQ.own {E : TypeId} {z : Lt} {cs : List Value} (h : res = .ok st) (S : Sx w L X W) (j : Nat) (hj : X[j]? = some (xog E w z.sl cs)) (hc : cs = sce st.reverse) : OpQ w l res (.returned (.tuple #[z.sl, .int .i64 0])) W := by
 subst h hc
 have hg := S.og j hj
 refine ⟨S.below, z, rfl, ⟨hg.cells, ?_⟩, Or.inr (S.ogown j hj)⟩
 obtain ⟨a, c, e⟩ := hg.shape
 rw [e] at hg ⊢
 exact ⟨a, c, rfl, (RestG.caple hg).1⟩
end
section
variable {sg : List Nat → List Nat → Bool} {c m : Nat} {st : List (List Nat)}
theorem op7_none (h : Sc.needs c = none) : Sc.op sg c st = .error 71 := by unfold Sc.op; rw [h]
theorem op7_few (h : Sc.needs c = some m) (h2 : st.length < m) : Sc.op sg c st = .error 72 := by unfold Sc.op; rw [h]; dsimp only; rw [if_pos h2]
theorem op7_act (h : Sc.needs c = some m) (h2 : m ≤ st.length) : Sc.op sg c st = Sc.act sg c st := by unfold Sc.op; rw [h]; dsimp only; rw [if_neg (by omega)]
theorem needs_le (h : Sc.needs c = some m) : m ≤ 2 := by
 unfold Sc.needs at h
 split at h
 ·cases h; decide
 ·split at h
  ·cases h; decide
  ·split at h
   ·cases h; decide
   ·cases h
theorem act_rest (h : Sc.needs c = some m) (hn : c ≠ 97 ∧ c ≠ 106 ∧ c ≠ 105 ∧ c ≠ 118 ∧ c ≠ 120 ∧ c ≠ 124 ∧ c ≠ 130 ∧ c ≠ 135 ∧ c ≠ 168 ∧ c ≠ 169 ∧ c ≠ 172 ∧ c ≠ 136 ∧ c ≠ 173) : Sc.act sg c st = .ok (st.drop m) := by
 unfold Sc.needs at h
 have h2 : (c = 117 ∧ m = 1) ∨ (c = 109 ∧ m = 2) := by
  split at h
  ·omega
  ·split at h
   ·cases h; omega
   ·split at h
    ·cases h; omega
    ·cases h
 rcases h2 with ⟨rfl, rfl⟩ | ⟨rfl, rfl⟩
 ·show Except.ok st.tail = _; rw [List.drop_one]
 ·show Except.ok st.tail.tail = _; rw [← List.drop_one, ← List.drop_one, List.drop_drop]
theorem one_of (h : 1 ≤ st.length) : ∃ x r, st = x :: r := by
 cases st with
 | nil => simp at h
 | cons x r => exact ⟨x, r, rfl⟩
theorem two_of (h : 2 ≤ st.length) : ∃ x y r, st = x :: y :: r := by
 match st, h with
 | x :: y :: r, _ => exact ⟨x, y, r, rfl⟩
theorem sce_take (h : m ≤ st.length) : (sce st.reverse).take (st.length - m) = sce (st.drop m).reverse := by
 unfold sce
 rw [← List.map_take, List.take_reverse, show st.length - (st.length - m) = m by omega]
theorem sce_top (h : 1 ≤ st.length) : (sce st.reverse)[st.length - 1]? = some (.string (nst (st.headD []))) := by
 obtain ⟨x, r, rfl⟩ := one_of h
 simp [sce]
theorem sce_top2 (h : 2 ≤ st.length) : (sce st.reverse)[st.length - 2]? = some (.string (nst (st.tail.headD []))) := by
 obtain ⟨x, y, r, rfl⟩ := two_of h
 simp [sce]
end
theorem needs_v {c : Nat} {z : Int} (h : ndI c = z) (w : World) : Calls Tryz.prog 31 #[vcz c] w fun e w' => e = .returned (.int .i64 z) ∧ Below w.heap.size w w' := by subst h; exact needs_c c w
theorem Sx.cutsl {T : TypeId} {n c k : Nat} {cs cs' : List Value} (S : Sx w L X W) (j : Nat) (hj : X[j]? = some (xsl (.slice A n c) cs)) (hk : k ≤ cs.length) (he : cs.take k = cs') (hT : Tryz.prog.underlying T = some (.slice (Tryz.prog.elem T)) := by kernel_rfl) (hs : ∀ W, (sizeOf (Tryz.prog.elem T)).run Tryz.prog W = .ok 1 W := by exact fun _ => sym0_run (by kernel_rfl)) :
 ∃ a' W', (Instr.sliceAt T (.slice A n c) none (some (.int .i64 (k : Int))) none).run Tryz.prog W = .ok (.slice a' k c) W' ∧ Sx w L (xsl (.slice a' k c) cs' :: X) W' := by
 subst he
 obtain ⟨a', h1, h2, h3⟩ := (S.sl j hj).cut hT (hs W) hk
 exact ⟨a', W, h1, S.addsl (Below.refl _ _) h2 fun h0 b hb => Or.inr ⟨_, List.mem_of_getElem? hj, rfl, h3 h0 b hb⟩⟩
theorem addst7 (t : TypeId) (x y : Operand) {a b c : ByteArray} (e : a ++ b = c) (h : a.size + b.size ≤ 9223372036854775807) (W : World) : (do eqGuard .add t x y (.string a) (.string b); binOp .add t (.string a) (.string b) : Sem Value).run Tryz.prog W = .ok (.string c) W := by
 subst e
 have h2 : ¬ ((a.size + b.size : Nat) : Int) > IntKind.i64.max := by show ¬ ((a.size + b.size : Nat) : Int) > 9223372036854775807; omega
 simp only [eqGuard, binOp, Op.stringOp, if_neg h2]
 rfl
theorem Sx.conv {x : List Nat} (S : Sx w L X W) (hx : ∀ y, y ∈ x → y < 256) : ∃ (y : Nat × Nat) (W' : World), (convert 9 22 (.string (nst x))).run Tryz.prog W = .ok (.slice (some ⟨y.1, 0, none⟩) x.length y.2) W' ∧ Sx w L (xps (fun b => b = y.1) (.slice (some ⟨y.1, 0, none⟩) x.length y.2) x :: X) W' := by
 obtain ⟨s, hs⟩ : ∃ s, s = nst x := ⟨_, rfl⟩
 have hsb : sb s = x := by rw [hs]; exact sb_nst x hx
 have hb : Below W.heap.size W (Lib.bytesWorld W 5 s) := ⟨rfl, rfl, rfl, by rw [Lib.bytesWorld_size]; omega, fun b hb => Lib.bytesWorld_at_old W _ s b hb⟩
 have hl : s.size = x.length := by rw [← sb_len, hsb]
 have hp : PieceS (Lib.bytesWorld W 5 s) (fun b => b = W.heap.size) (.slice (some ⟨W.heap.size, 0, none⟩) x.length (grownCap W s.size 0 5)) x :=
  Or.inr ⟨W.heap.size, 0, _, rfl, rfl, fun i hi => by
   rw [← hl] at hi
   rw [Nat.zero_add, Lib.bytesWorld_cell W _ s i hi]
   have e : nth x i = (s.data.toList.getD i 0).toNat := by
    have hi2 : i < s.data.toList.length := by simpa using hi
    rw [← hsb]; unfold nth sb
    rw [List.getD_eq_getElem?_getD, List.getElem?_map, List.getD_eq_getElem?_getD, List.getElem?_eq_getElem hi2]; rfl
   rw [e]⟩
 have hr := Lib.run_convert_string_bytes (P := Tryz.prog) W 9 22 5 s Tryz.underlying9 Tryz.underlying22 Tryz.underlying5
 have hlt : W.heap.size < (Lib.bytesWorld W 5 s).heap.size := by rw [Lib.bytesWorld_size]; omega
 rw [← hs, ← hl]
 rw [← hl] at hp
 exact ⟨(W.heap.size, grownCap W s.size 0 5), _, hr, S.madeX hb _ ⟨fun b hb => hb ▸ hlt, hp⟩ (fun b hb => hb ▸ Nat.le_refl _) (fun b hb => hb ▸ hlt)⟩
theorem len_none {n : Nat} (h : n = 0) : Sc.lenb n = [] := by unfold Sc.lenb; rw [if_pos h]
theorem len_one {n : Nat} (h : 0 < n ∧ n < 256) : Sc.lenb n = [n % 256] := by unfold Sc.lenb; rw [if_neg (by omega), if_pos h.2, Nat.mod_eq_of_lt h.2]
theorem len_two {n : Nat} (h : 255 < n) : Sc.lenb n = [n % 256, n / 256] := by unfold Sc.lenb; rw [if_neg (by omega), if_neg (by omega)]
theorem op7_c {c : Nat → Int} {cd cap : Nat} {st : List (List Nat)} (hc : Bytes8 c) (hf : Sc.Fit st) (hl : st.length ≤ 1000) (w : World) (hs : ShV w (.slice A st.length cap) (sce st.reverse)) : Calls Tryz.prog 23 #[vcz cd, .slice A st.length cap, .agg (row32 c)] w (OpQ w (.slice A st.length cap) (Sc.op (sgv c) cd st)) := by
 refine enterQ 165 (fun q => .seq (q 0) (.seq (q 1) (.seq (.seq (q 2) (.cond (.tmp 18) (.seq (q 3) .ret) .skip)) (.seq (.seq (q 4) (.cond (.tmp 23) (.seq (q 5) .ret) .skip)) (.seq (q 6) (.seq (q 7) (.seq (.seq (q 8) (.cond (.tmp 34) (q 9) .skip)) (.seq (.seq (q 10) (.cond (.tmp 42) (q 11) .skip)) (.seq (.seq (q 12) (.block 0 (.seq (q 13) (.cond (.tmp 50) (.seq (q 14) .ret) (.seq (q 15) (.cond (.tmp 53) (.seq (q 16) .ret) (.seq (q 17) (.cond (.tmp 56) (.seq (q 18) (.cond (.tmp 60) (.seq (q 19) .ret) .skip)) (.seq (q 20) (.cond (.tmp 62) (q 21) (.seq (q 22) (.cond (.tmp 69) (q 23) (.seq (q 24) (.cond (.tmp 77) (q 25) (.seq (q 26) (.cond (.tmp 84) (.seq (q 27) (.seq (.seq (q 28) (.cond (.tmp 88) (q 29) .skip)) (.seq (.seq (q 30) (.cond (.tmp 97) (q 31) .skip)) (q 32)))) (.seq (q 33) (.cond (.tmp 111) (q 34) (.seq (q 35) (.cond (.tmp 120) (.seq (q 36) (q 37)) (.seq (q 38) (.cond (.tmp 130) (.seq (q 39) (q 40)) (.seq (q 41) (.cond (.tmp 140) (q 42) (.seq (q 43) (.cond (.tmp 150) (.seq (q 44) (.cond (.tmp 154) (.seq (q 45) .ret) .skip)) (.seq (q 46) (.cond (.tmp 156) (.seq (q 47) (.cond (.tmp 162) (.seq (q 48) .ret) .skip)) .skip)))))))))))))))))))))))))))) (.seq (q 49) .ret)))))))))) (Sx.sl0 hs) Tryz.func23 ?_
 refine Cd.sr (At.new 0 [] 5 ((row32 c)) 24 fun g5 h5 => At.run 2 [] [] (At.nx ?_))
 by_cases hn : Sc.needs cd = none
 ·have hI : ndI cd = -1 := by unfold ndI; rw [hn]
  refine Cd.sr (At.call 1 [] 16 (fun W S => needs_v hI W) (At.run 1 [] [(8, .int .i64 (-1))] (At.nx (Cd.seq (Cd.sr (At.run 2 [] [(18, .bool true)] (At.nx (Cd.ct ?_))))))))
  exact Cd.sr (At.run 3 [] [(6, .slice A st.length cap), (7, .int .i64 71)] (At.nx (Cd.rv (rt r0) [] (.tuple #[.slice A st.length cap, .int .i64 71]) fun W S => OpQ.err (q := 71) (op7_none hn) (lt0 A st.length cap) S.below)))
 obtain ⟨m, hm⟩ := Option.ne_none_iff_exists'.1 hn
 have hm2 := needs_le hm
 have hI : ndI cd = ((m : Nat) : Int) := by unfold ndI; rw [hm]
 refine Cd.sr (At.call 1 [] 16 (fun W S => needs_v hI W) (At.run 1 [] [(8, vi m)] (At.nx (Cd.seq (Cd.sr (At.ar 2 [] 18 (.bool (decide (((m : Nat) : Int) < 0))) (.bool false) (congrArg _ (decide_eq_false (by omega))) (At.nx (Cd.cf ?_))))))))
 refine Cd.sk (Cd.sh (Cd.seq (Cd.sr (At.run 4 [] [(23, .bool (decide (((st.length : Nat) : Int) < ((m : Nat) : Int))))] (At.nx (Cd.sp 23 (decide (((st.length : Nat) : Int) < ((m : Nat) : Int))) (fun hb => ?_) fun hb => ?_))))))
 ·exact Cd.ct (Cd.sr (At.run 3 [] [(6, .slice A st.length cap), (7, .int .i64 72)] (At.nx (Cd.rv (rt r0) [] (.tuple #[.slice A st.length cap, .int .i64 72]) fun W S => OpQ.err (q := 72) (op7_few hm (by have q := of_decide_eq_true hb; omega)) (lt0 A st.length cap) S.below))))
 refine Cd.cf (Cd.sk (Cd.sh ?_))
 have hlm : m ≤ st.length := by have q := of_decide_eq_false hb; omega
 refine Cd.sr (At.run 2 [] [(9, .string ⟨#[]⟩), (10, .string ⟨#[]⟩)] (At.nx (Cd.sr (At.sli 0 [] 25 0 (#[]) 9 fun g25 h25 => At.as (fun _ S => S.ogrow (cs := []) h25 rfl) (At.run 4 [] [(26, .slice A st.length cap), (28, vi st.length), (29, vi m)] (At.an 1 [] 30 (((st.length : Nat) : Int) - ((m : Nat) : Int)) (st.length - m) (At.semX (ι := Option Addr) 0 [] 31 (Instr.sliceAt 39 (.slice A st.length cap) none (some (vi (st.length - m))) none) (V := fun a' => (.slice a' (st.length - m) cap)) (L' := fun _ => [ro g5 (row32 c) 24]) (X' := fun a' => xsl (.slice a' (st.length - m) cap) (sce (st.drop m).reverse) :: [xog 9 w (lt0 (some ⟨g25, 0, none⟩) 0 0).sl ([]), xsl (.slice A st.length cap) (sce st.reverse)]) (fun W S => S.cutsl 1 rfl (by rw [sce_len, List.length_reverse]; omega) (sce_take hlm)) fun a' => ?_)))))))
 refine At.app 0 [] 32 (TT := 39) (xv := .slice a' (st.length - m) cap) (z := .string ⟨#[]⟩) (sb' := 16) (ys := (sce (st.drop m).reverse)) 1 rfl (fun W S => by have q := CellsV.src (TT := 39) (E := 9) (by kernel_rfl) (S.sl 0 rfl).1 (sce_one _); exact q) (by rw [sce_len, List.length_reverse, List.length_drop]; simp only [List.length_nil]; omega) (by rw [sce_len, List.length_reverse, List.length_drop]; simp only [List.length_nil]; omega) fun y1 hy1 zy1 => At.run 1 [] [(11, y1.sl)] (At.nx (Cd.seqj (ι := {q : List Nat // 1 ≤ m → q = st.headD []}) (fun qx => [(0, vcz cd), (1, .slice A st.length cap), (2, .agg (row32 c)), (5, pt g5), (8, vi m), (9, .string (nst qx.1)), (10, .string ⟨#[]⟩), (11, y1.sl), (16, vi m), (18, .bool false), (23, .bool false), (25, (lt0 (some ⟨g25, 0, none⟩) 0 0).sl), (26, .slice A st.length cap), (28, vi st.length), (29, vi m), (30, vi (st.length - m)), (31, .slice a' (st.length - m) cap), (32, y1.sl)]) (fun qx => [ro g5 (row32 c) 24]) (fun qx => [xsl (.slice a' (st.length - m) cap) (sce (st.drop m).reverse), xog 9 w y1.sl (sce (st.drop m).reverse), xsl (.slice A st.length cap) (sce st.reverse)]) (fun qx => ?_) ?_))
 ·refine Cd.seqj (ι := {q : List Nat // 2 ≤ m → q = st.tail.headD []}) (fun qy => [(0, vcz cd), (1, .slice A st.length cap), (2, .agg (row32 c)), (5, pt g5), (8, vi m), (9, .string (nst qx.1)), (10, .string (nst qy.1)), (11, y1.sl), (16, vi m), (18, .bool false), (23, .bool false), (25, (lt0 (some ⟨g25, 0, none⟩) 0 0).sl), (26, .slice A st.length cap), (28, vi st.length), (29, vi m), (30, vi (st.length - m)), (31, .slice a' (st.length - m) cap), (32, y1.sl)]) (fun qy => [ro g5 (row32 c) 24]) (fun qy => [xsl (.slice a' (st.length - m) cap) (sce (st.drop m).reverse), xog 9 w y1.sl (sce (st.drop m).reverse), xsl (.slice A st.length cap) (sce st.reverse)]) (fun qy => ?_) ?_
  ·refine Cd.seq (Cd.sr (At.run 1 [] [(49, vcz cd)] (At.nx (Cd.blk (Cd.sr (At.run 2 [] [(50, .bool (((cd : Nat) : Int) == 97))] (At.nx (Cd.sp 50 (((cd : Nat) : Int) == 97) (fun hb1 => ?_) fun hb1 => ?_))))))))
   ·refine Cd.ct (Cd.sr ?_)
    obtain rfl : cd = 97 := ieq_t (k := 97) hb1
    obtain rfl : 0 = m := Option.some.inj hm
    exact At.run 3 [] [(6, .slice A st.length cap), (7, .int .i64 0)] (At.nx (Cd.rv (rb (rt r0)) [] (.tuple #[.slice A st.length cap, .int .i64 0]) fun W S => OpQ.same (z := (lt0 A st.length cap)) (st := st) ((op7_act hm hlm).trans rfl) S 2 rfl rfl))
   refine Cd.cf (Cd.sr (At.run 2 [] [(53, .bool (((cd : Nat) : Int) == 106))] (At.nx (Cd.sp 53 (((cd : Nat) : Int) == 106) (fun hb2 => ?_) fun hb2 => ?_))))
   ·refine Cd.ct (Cd.sr ?_)
    obtain rfl : cd = 106 := ieq_t (k := 106) hb2
    obtain rfl : 0 = m := Option.some.inj hm
    exact At.run 3 [] [(6, .slice A st.length cap), (7, .int .i64 74)] (At.nx (Cd.rv (rb (rt r0)) [] (.tuple #[.slice A st.length cap, .int .i64 74]) fun W S => OpQ.err (q := 74) ((op7_act hm hlm).trans rfl) (lt0 A st.length cap) S.below))
   refine Cd.cf (Cd.sr (At.run 2 [] [(56, .bool (((cd : Nat) : Int) == 105))] (At.nx (Cd.sp 56 (((cd : Nat) : Int) == 105) (fun hb3 => ?_) fun hb3 => ?_))))
   ·refine Cd.ct (Cd.sr ?_)
    obtain rfl : cd = 105 := ieq_t (k := 105) hb3
    obtain rfl : 1 = m := Option.some.inj hm
    obtain ⟨x, r, est⟩ := one_of hlm
    have ex : qx.1 = x := (qx.2 (by decide)).trans (by rw [est]; rfl)
    have hfx := hf qx.1 (by rw [ex, est]; exact List.mem_cons_self ..)
    refine At.call 1 [] 59 (fun W S => rtrue_c (by omega) hfx.2 W) (At.run 1 [] [(60, .bool (!(Sc.tr qx.1)))] (At.nx (Cd.sp 60 (!(Sc.tr qx.1)) (fun hb4 => ?_) fun hb4 => ?_)))
    ·exact Cd.ct (Cd.sr (At.run 3 [] [(6, y1.sl), (7, .int .i64 74)] (At.nx (Cd.rv (rb (rt r0)) [] (.tuple #[y1.sl, .int .i64 74]) fun W S => OpQ.err (q := 74) ((op7_act hm hlm).trans (by rw [est]; show (if Sc.tr x = true then Except.ok r else .error 74) = _; exact if_neg (by rw [← ex]; simpa using hb4))) y1 S.below))))
    exact Cd.cf (Cd.sk (Cd.sh (Cd.sr (At.run 3 [] [(6, y1.sl), (7, .int .i64 0)] (At.nx (Cd.rv r0 [] (.tuple #[y1.sl, .int .i64 0]) fun W S => OpQ.own (st := r) ((op7_act hm hlm).trans (by rw [est]; show (if Sc.tr x = true then Except.ok r else .error 74) = _; exact if_pos (by rw [← ex]; simpa using hb4))) S 1 rfl (by rw [est]; rfl)))))))
   refine Cd.cf (Cd.sr (At.run 2 [] [(62, .bool (((cd : Nat) : Int) == 118))] (At.nx (Cd.sp 62 (((cd : Nat) : Int) == 118) (fun hb4 => ?_) fun hb4 => ?_))))
   ·refine Cd.ct (Cd.rg ?_)
    obtain rfl : cd = 118 := ieq_t (k := 118) hb4
    obtain rfl : 1 = m := Option.some.inj hm
    obtain ⟨x, r, est⟩ := one_of hlm
    have ex : qx.1 = x := (qx.2 (by decide)).trans (by rw [est]; rfl)
    have hfx := hf qx.1 (by rw [ex, est]; exact List.mem_cons_self ..)
    refine At.run 3 [] [(64, y1.sl), (65, .string (nst qx.1)), (66, .string (nst qx.1))] (At.sli 0 [] 67 2 (#[.string (nst qx.1), .string (nst qx.1)]) 9 fun g67 h67 => At.app 0 [] 68 (TT := 39) (xv := .slice (some ⟨g67, 0, none⟩) 2 2) (z := .string ⟨#[]⟩) (sb' := 16) (ys := [.string (nst qx.1), .string (nst qx.1)]) 1 rfl (fun W S => S.srcg 0 rfl rfl) (by rw [sce_len, List.length_reverse, List.length_drop]; show (_ + 2) * 16 ≤ _; omega) (by rw [sce_len, List.length_reverse, List.length_drop]; show _ + 2 ≤ _; omega) fun y2 hy2 zy2 => At.run 1 [] [(11, y2.sl)] (At.fin (Cd.sh (Cd.sr (At.run 3 [] [(6, y2.sl), (7, .int .i64 0)] (At.nx ?_))))))
    exact Cd.rv r0 [] (.tuple #[y2.sl, .int .i64 0]) fun W S => OpQ.own (st := x :: x :: r) ((op7_act hm hlm).trans (by rw [est]; rfl)) S 1 rfl (by rw [ex, est]; simp [sce])
   refine Cd.cf (Cd.sr (At.run 2 [] [(69, .bool (((cd : Nat) : Int) == 120))] (At.nx (Cd.sp 69 (((cd : Nat) : Int) == 120) (fun hb5 => ?_) fun hb5 => ?_))))
   ·refine Cd.ct (Cd.rg ?_)
    obtain rfl : cd = 120 := ieq_t (k := 120) hb5
    obtain rfl : 2 = m := Option.some.inj hm
    obtain ⟨x, y, r, est⟩ := two_of hlm
    have ex : qx.1 = x := (qx.2 (by decide)).trans (by rw [est]; rfl)
    have ey : qy.1 = y := (qy.2 (by decide)).trans (by rw [est]; rfl)
    have hfy := hf qy.1 (by rw [ey, est]; exact List.mem_cons_of_mem _ (List.mem_cons_self ..))
    have hfx := hf qx.1 (by rw [ex, est]; exact List.mem_cons_self ..)
    refine At.run 4 [] [(71, y1.sl), (72, .string (nst qy.1)), (73, .string (nst qx.1)), (74, .string (nst qy.1))] (At.sli 0 [] 75 3 (#[.string (nst qy.1), .string (nst qx.1), .string (nst qy.1)]) 9 fun g75 h75 => At.app 0 [] 76 (TT := 39) (xv := .slice (some ⟨g75, 0, none⟩) 3 3) (z := .string ⟨#[]⟩) (sb' := 16) (ys := [.string (nst qy.1), .string (nst qx.1), .string (nst qy.1)]) 1 rfl (fun W S => S.srcg 0 rfl rfl) (by rw [sce_len, List.length_reverse, List.length_drop]; show (_ + 3) * 16 ≤ _; omega) (by rw [sce_len, List.length_reverse, List.length_drop]; show _ + 3 ≤ _; omega) fun y3 hy3 zy3 => At.run 1 [] [(11, y3.sl)] (At.fin (Cd.sh (Cd.sr (At.run 3 [] [(6, y3.sl), (7, .int .i64 0)] (At.nx ?_))))))
    exact Cd.rv r0 [] (.tuple #[y3.sl, .int .i64 0]) fun W S => OpQ.own (st := y :: x :: y :: r) ((op7_act hm hlm).trans (by rw [est]; rfl)) S 1 rfl (by rw [ex, ey, est]; simp [sce])
   refine Cd.cf (Cd.sr (At.run 2 [] [(77, .bool (((cd : Nat) : Int) == 124))] (At.nx (Cd.sp 77 (((cd : Nat) : Int) == 124) (fun hb6 => ?_) fun hb6 => ?_))))
   ·refine Cd.ct (Cd.rg ?_)
    obtain rfl : cd = 124 := ieq_t (k := 124) hb6
    obtain rfl : 2 = m := Option.some.inj hm
    obtain ⟨x, y, r, est⟩ := two_of hlm
    have ex : qx.1 = x := (qx.2 (by decide)).trans (by rw [est]; rfl)
    have ey : qy.1 = y := (qy.2 (by decide)).trans (by rw [est]; rfl)
    have hfy := hf qy.1 (by rw [ey, est]; exact List.mem_cons_of_mem _ (List.mem_cons_self ..))
    have hfx := hf qx.1 (by rw [ex, est]; exact List.mem_cons_self ..)
    refine At.run 3 [] [(79, y1.sl), (80, .string (nst qx.1)), (81, .string (nst qy.1))] (At.sli 0 [] 82 2 (#[.string (nst qx.1), .string (nst qy.1)]) 9 fun g82 h82 => At.app 0 [] 83 (TT := 39) (xv := .slice (some ⟨g82, 0, none⟩) 2 2) (z := .string ⟨#[]⟩) (sb' := 16) (ys := [.string (nst qx.1), .string (nst qy.1)]) 1 rfl (fun W S => S.srcg 0 rfl rfl) (by rw [sce_len, List.length_reverse, List.length_drop]; show (_ + 2) * 16 ≤ _; omega) (by rw [sce_len, List.length_reverse, List.length_drop]; show _ + 2 ≤ _; omega) fun y4 hy4 zy4 => At.run 1 [] [(11, y4.sl)] (At.fin (Cd.sh (Cd.sr (At.run 3 [] [(6, y4.sl), (7, .int .i64 0)] (At.nx ?_))))))
    exact Cd.rv r0 [] (.tuple #[y4.sl, .int .i64 0]) fun W S => OpQ.own (st := y :: x :: r) ((op7_act hm hlm).trans (by rw [est]; rfl)) S 1 rfl (by rw [ex, ey, est]; simp [sce])
   refine Cd.cf (Cd.sr (At.run 2 [] [(84, .bool (((cd : Nat) : Int) == 130))] (At.nx (Cd.sp 84 (((cd : Nat) : Int) == 130) (fun hb7 => ?_) fun hb7 => ?_))))
   ·refine Cd.ct (Cd.sr ?_)
    obtain rfl : cd = 130 := ieq_t (k := 130) hb7
    obtain rfl : 1 = m := Option.some.inj hm
    obtain ⟨x, r, est⟩ := one_of hlm
    have ex : qx.1 = x := (qx.2 (by decide)).trans (by rw [est]; rfl)
    have hfx := hf qx.1 (by rw [ex, est]; exact List.mem_cons_self ..)
    refine At.run 1 [] [(12, .string ⟨#[]⟩)] (At.nx (Cd.seq (Cd.sr (At.sem 1 [] 87 (Builtin.len_ #[9] 3 #[.string (nst qx.1)]) (vi qx.1.length) (fun W _ => len_st qx.1 W) (At.run 1 [] [(88, .bool (decide (((qx.1.length : Nat) : Int) > 0)))] (At.nx (Cd.sp 88 (decide (((qx.1.length : Nat) : Int) > 0)) (fun hb8 => ?_) fun hb8 => ?_)))))))
    ·refine Cd.ct (Cd.rg (At.sem 1 [] 90 (Builtin.len_ #[9] 3 #[.string (nst qx.1)]) (vi qx.1.length) (fun W _ => len_st qx.1 W) (At.ar 1 [] 91 (.int .i64 (((qx.1.length : Nat) : Int).tmod 256)) (vi (qx.1.length % 256)) (rfl) (At.ar 1 [] 92 (.int .u8 (IntKind.u8.wrap ((qx.1.length % 256 : Nat) : Int))) (vcz (qx.1.length % 256)) (congrArg _ (by rw [IntKind.wrap_u8]; omega)) (At.sli 0 [] 93 1 (#[vcz (qx.1.length % 256)]) 5 fun g93 h93 => At.sem 0 [] 94 (convert 22 9 (.slice (some ⟨g93, 0, none⟩) 1 1)) (.string (nst [qx.1.length % 256])) (fun W S => run_str (row_pcz (S.at 0 rfl) rfl rfl)) (At.run 1 [] [(12, .string (nst [qx.1.length % 256]))] (At.fin ?_)))))))
     refine Cd.sh (Cd.seq (Cd.sr (At.sem 1 [] 96 (Builtin.len_ #[9] 3 #[.string (nst qx.1)]) (vi qx.1.length) (fun W _ => len_st qx.1 W) (At.run 1 [] [(97, .bool (decide (((qx.1.length : Nat) : Int) > 255)))] (At.nx (Cd.sp 97 (decide (((qx.1.length : Nat) : Int) > 255)) (fun hb9 => ?_) fun hb9 => ?_))))))
     ·refine Cd.ct (Cd.rg (At.run 2 [] [(98, .string (nst [qx.1.length % 256])), (99, .string (nst qx.1))] (At.sem 0 [] 100 (Builtin.len_ #[9] 3 #[.string (nst qx.1)]) (vi qx.1.length) (fun W _ => len_st qx.1 W) (At.ar 1 [] 101 (.int .i64 (IntKind.i64.wrap (((qx.1.length : Nat) : Int).tdiv 256))) (vi (qx.1.length / 256)) (congrArg _ (show IntKind.i64.wrap ((qx.1.length / 256 : Nat) : Int) = _ from wri64 (by omega) (by omega))) (At.ar 1 [] 102 (.int .u8 (IntKind.u8.wrap ((qx.1.length / 256 : Nat) : Int))) (vcz (qx.1.length / 256)) (congrArg _ (by rw [IntKind.wrap_u8]; omega)) (At.sli 0 [] 103 1 (#[vcz (qx.1.length / 256)]) 5 fun g103 h103 => At.sem 0 [] 104 (convert 22 9 (.slice (some ⟨g103, 0, none⟩) 1 1)) (.string (nst [qx.1.length / 256])) (fun W S => run_str (row_pcz (S.at 0 rfl) rfl rfl)) (At.sem 0 [] 105 (do eqGuard .add 9 (.tmp 98) (.tmp 104) (.string (nst [qx.1.length % 256])) (.string (nst [qx.1.length / 256])); binOp .add 9 (.string (nst [qx.1.length % 256])) (.string (nst [qx.1.length / 256]))) (.string (nst ([qx.1.length % 256] ++ [qx.1.length / 256]))) (fun W _ => addst7 9 (.tmp 98) (.tmp 104) (nst_app [qx.1.length % 256] [qx.1.length / 256]) (by rw [nst_size, nst_size]; show 1 + 1 ≤ 9223372036854775807; decide) W) ?_)))))))
      refine At.run 1 [] [(12, .string (nst ([qx.1.length % 256] ++ [qx.1.length / 256])))] (At.fin (Cd.sh (Cd.rg (At.run 3 [] [(106, y1.sl), (107, .string (nst qx.1)), (108, .string (nst ([qx.1.length % 256] ++ [qx.1.length / 256])))] (At.sli 0 [] 109 2 (#[.string (nst qx.1), .string (nst ([qx.1.length % 256] ++ [qx.1.length / 256]))]) 9 fun g109 h109 => At.app 0 [] 110 (TT := 39) (xv := .slice (some ⟨g109, 0, none⟩) 2 2) (z := .string ⟨#[]⟩) (sb' := 16) (ys := [.string (nst qx.1), .string (nst ([qx.1.length % 256] ++ [qx.1.length / 256]))]) 1 rfl (fun W S => S.srcg 0 rfl rfl) (by rw [sce_len, List.length_reverse, List.length_drop]; show (_ + 2) * 16 ≤ _; omega) (by rw [sce_len, List.length_reverse, List.length_drop]; show _ + 2 ≤ _; omega) fun y5 hy5 zy5 => At.run 1 [] [(11, y5.sl)] (At.fin ?_))))))
      exact Cd.sh (Cd.sr (At.run 3 [] [(6, y5.sl), (7, .int .i64 0)] (At.nx (Cd.rv r0 [] (.tuple #[y5.sl, .int .i64 0]) fun W S => OpQ.own (st := Sc.lenb x.length :: x :: r) ((op7_act hm hlm).trans (by rw [est]; rfl)) S 1 rfl (by have el : Sc.lenb qx.1.length = [qx.1.length % 256, qx.1.length / 256] := (by have q8 := of_decide_eq_true hb8; have q9 := of_decide_eq_true hb9; first | (exfalso; omega) | exact len_two (by omega)); rw [ex] at el ⊢; rw [est]; simp [sce, el])))))
     refine Cd.cf (Cd.sk (Cd.sh (Cd.rg (At.run 3 [] [(106, y1.sl), (107, .string (nst qx.1)), (108, .string (nst [qx.1.length % 256]))] (At.sli 0 [] 109 2 (#[.string (nst qx.1), .string (nst [qx.1.length % 256])]) 9 fun g109 h109 => At.app 0 [] 110 (TT := 39) (xv := .slice (some ⟨g109, 0, none⟩) 2 2) (z := .string ⟨#[]⟩) (sb' := 16) (ys := [.string (nst qx.1), .string (nst [qx.1.length % 256])]) 1 rfl (fun W S => S.srcg 0 rfl rfl) (by rw [sce_len, List.length_reverse, List.length_drop]; show (_ + 2) * 16 ≤ _; omega) (by rw [sce_len, List.length_reverse, List.length_drop]; show _ + 2 ≤ _; omega) fun y6 hy6 zy6 => At.run 1 [] [(11, y6.sl)] (At.fin ?_))))))
     exact Cd.sh (Cd.sr (At.run 3 [] [(6, y6.sl), (7, .int .i64 0)] (At.nx (Cd.rv r0 [] (.tuple #[y6.sl, .int .i64 0]) fun W S => OpQ.own (st := Sc.lenb x.length :: x :: r) ((op7_act hm hlm).trans (by rw [est]; rfl)) S 1 rfl (by have el : Sc.lenb qx.1.length = [qx.1.length % 256] := (by have q8 := of_decide_eq_true hb8; have q9 := of_decide_eq_false hb9; first | (exfalso; omega) | exact len_one (by omega)); rw [ex] at el ⊢; rw [est]; simp [sce, el])))))
    refine Cd.cf (Cd.sk (Cd.sh (Cd.seq (Cd.sr (At.sem 1 [] 96 (Builtin.len_ #[9] 3 #[.string (nst qx.1)]) (vi qx.1.length) (fun W _ => len_st qx.1 W) (At.run 1 [] [(97, .bool (decide (((qx.1.length : Nat) : Int) > 255)))] (At.nx (Cd.sp 97 (decide (((qx.1.length : Nat) : Int) > 255)) (fun hb9 => ?_) fun hb9 => ?_))))))))
    ·refine Cd.ct (Cd.rg (At.run 2 [] [(98, .string ⟨#[]⟩), (99, .string (nst qx.1))] (At.sem 0 [] 100 (Builtin.len_ #[9] 3 #[.string (nst qx.1)]) (vi qx.1.length) (fun W _ => len_st qx.1 W) (At.ar 1 [] 101 (.int .i64 (IntKind.i64.wrap (((qx.1.length : Nat) : Int).tdiv 256))) (vi (qx.1.length / 256)) (congrArg _ (show IntKind.i64.wrap ((qx.1.length / 256 : Nat) : Int) = _ from wri64 (by omega) (by omega))) (At.ar 1 [] 102 (.int .u8 (IntKind.u8.wrap ((qx.1.length / 256 : Nat) : Int))) (vcz (qx.1.length / 256)) (congrArg _ (by rw [IntKind.wrap_u8]; omega)) (At.sli 0 [] 103 1 (#[vcz (qx.1.length / 256)]) 5 fun g103 h103 => At.sem 0 [] 104 (convert 22 9 (.slice (some ⟨g103, 0, none⟩) 1 1)) (.string (nst [qx.1.length / 256])) (fun W S => run_str (row_pcz (S.at 0 rfl) rfl rfl)) (At.sem 0 [] 105 (do eqGuard .add 9 (.tmp 98) (.tmp 104) (.string ⟨#[]⟩) (.string (nst [qx.1.length / 256])); binOp .add 9 (.string ⟨#[]⟩) (.string (nst [qx.1.length / 256]))) (.string (nst ([] ++ [qx.1.length / 256]))) (fun W _ => addst7 9 (.tmp 98) (.tmp 104) (nst_app [] [qx.1.length / 256]) (by rw [nst_size, nst_size]; show 0 + 1 ≤ 9223372036854775807; decide) W) ?_)))))))
     refine At.run 1 [] [(12, .string (nst ([] ++ [qx.1.length / 256])))] (At.fin (Cd.sh (Cd.rg (At.run 3 [] [(106, y1.sl), (107, .string (nst qx.1)), (108, .string (nst ([] ++ [qx.1.length / 256])))] (At.sli 0 [] 109 2 (#[.string (nst qx.1), .string (nst ([] ++ [qx.1.length / 256]))]) 9 fun g109 h109 => At.app 0 [] 110 (TT := 39) (xv := .slice (some ⟨g109, 0, none⟩) 2 2) (z := .string ⟨#[]⟩) (sb' := 16) (ys := [.string (nst qx.1), .string (nst ([] ++ [qx.1.length / 256]))]) 1 rfl (fun W S => S.srcg 0 rfl rfl) (by rw [sce_len, List.length_reverse, List.length_drop]; show (_ + 2) * 16 ≤ _; omega) (by rw [sce_len, List.length_reverse, List.length_drop]; show _ + 2 ≤ _; omega) fun y7 hy7 zy7 => At.run 1 [] [(11, y7.sl)] (At.fin ?_))))))
     exact Cd.sh (Cd.sr (At.run 3 [] [(6, y7.sl), (7, .int .i64 0)] (At.nx (Cd.rv r0 [] (.tuple #[y7.sl, .int .i64 0]) fun W S => OpQ.own (st := Sc.lenb x.length :: x :: r) ((op7_act hm hlm).trans (by rw [est]; rfl)) S 1 rfl (by have el : Sc.lenb qx.1.length = [qx.1.length / 256] := (by have q8 := of_decide_eq_false hb8; have q9 := of_decide_eq_true hb9; first | (exfalso; omega) | exact len_none (by omega)); rw [ex] at el ⊢; rw [est]; simp [sce, el])))))
    refine Cd.cf (Cd.sk (Cd.sh (Cd.rg (At.run 3 [] [(106, y1.sl), (107, .string (nst qx.1)), (108, .string ⟨#[]⟩)] (At.sli 0 [] 109 2 (#[.string (nst qx.1), .string ⟨#[]⟩]) 9 fun g109 h109 => At.app 0 [] 110 (TT := 39) (xv := .slice (some ⟨g109, 0, none⟩) 2 2) (z := .string ⟨#[]⟩) (sb' := 16) (ys := [.string (nst qx.1), .string ⟨#[]⟩]) 1 rfl (fun W S => S.srcg 0 rfl rfl) (by rw [sce_len, List.length_reverse, List.length_drop]; show (_ + 2) * 16 ≤ _; omega) (by rw [sce_len, List.length_reverse, List.length_drop]; show _ + 2 ≤ _; omega) fun y8 hy8 zy8 => At.run 1 [] [(11, y8.sl)] (At.fin ?_))))))
    exact Cd.sh (Cd.sr (At.run 3 [] [(6, y8.sl), (7, .int .i64 0)] (At.nx (Cd.rv r0 [] (.tuple #[y8.sl, .int .i64 0]) fun W S => OpQ.own (st := Sc.lenb x.length :: x :: r) ((op7_act hm hlm).trans (by rw [est]; rfl)) S 1 rfl (by have el : Sc.lenb qx.1.length = [] := (by have q8 := of_decide_eq_false hb8; have q9 := of_decide_eq_false hb9; first | (exfalso; omega) | exact len_none (by omega)); rw [ex] at el ⊢; rw [est]; simp [sce, el]; rfl)))))
   refine Cd.cf (Cd.sr (At.run 2 [] [(111, .bool (((cd : Nat) : Int) == 135))] (At.nx (Cd.sp 111 (((cd : Nat) : Int) == 135) (fun hb8 => ?_) fun hb8 => ?_))))
   ·refine Cd.ct (Cd.rg ?_)
    obtain rfl : cd = 135 := ieq_t (k := 135) hb8
    obtain rfl : 2 = m := Option.some.inj hm
    obtain ⟨x, y, r, est⟩ := two_of hlm
    have ex : qx.1 = x := (qx.2 (by decide)).trans (by rw [est]; rfl)
    have ey : qy.1 = y := (qy.2 (by decide)).trans (by rw [est]; rfl)
    have hfy := hf qy.1 (by rw [ey, est]; exact List.mem_cons_of_mem _ (List.mem_cons_self ..))
    have hfx := hf qx.1 (by rw [ex, est]; exact List.mem_cons_self ..)
    refine At.run 3 [] [(113, y1.sl), (114, .string (nst qx.1)), (115, .string (nst qy.1))] (At.ar 1 [] 116 (.bool ((nst qx.1).toList == (nst qy.1).toList)) (.bool (decide (qx.1 = qy.1))) (congrArg _ (nst_same hfx.2 hfy.2)) (At.call 0 [] 117 (fun W S => truth7_c (decide (qx.1 = qy.1)) W) (At.sli 0 [] 118 1 (#[.string (nst (Sc.truth (decide (qx.1 = qy.1))))]) 9 fun g118 h118 => At.app 0 [] 119 (TT := 39) (xv := .slice (some ⟨g118, 0, none⟩) 1 1) (z := .string ⟨#[]⟩) (sb' := 16) (ys := [.string (nst (Sc.truth (decide (qx.1 = qy.1))))]) 1 rfl (fun W S => S.srcg 0 rfl rfl) (by rw [sce_len, List.length_reverse, List.length_drop]; show (_ + 1) * 16 ≤ _; omega) (by rw [sce_len, List.length_reverse, List.length_drop]; show _ + 1 ≤ _; omega) fun y9 hy9 zy9 => At.run 1 [] [(11, y9.sl)] (At.fin (Cd.sh (Cd.sr ?_))))))
    exact At.run 3 [] [(6, y9.sl), (7, .int .i64 0)] (At.nx (Cd.rv r0 [] (.tuple #[y9.sl, .int .i64 0]) fun W S => OpQ.own (st := Sc.truth (decide (x = y)) :: r) ((op7_act hm hlm).trans (by rw [est]; rfl)) S 1 rfl (by rw [ex, ey, est]; simp [sce])))
   refine Cd.cf (Cd.sr (At.run 2 [] [(120, .bool (((cd : Nat) : Int) == 168))] (At.nx (Cd.sp 120 (((cd : Nat) : Int) == 168) (fun hb9 => ?_) fun hb9 => ?_))))
   ·refine Cd.ct (Cd.sr ?_)
    obtain rfl : cd = 168 := ieq_t (k := 168) hb9
    obtain rfl : 1 = m := Option.some.inj hm
    obtain ⟨x, r, est⟩ := one_of hlm
    have ex : qx.1 = x := (qx.2 (by decide)).trans (by rw [est]; rfl)
    have hfx := hf qx.1 (by rw [ex, est]; exact List.mem_cons_self ..)
    refine At.semX (ι := Nat × Nat) 1 [] 123 (convert 9 22 (.string (nst qx.1))) (V := fun y => (.slice (some ⟨y.1, 0, none⟩) qx.1.length y.2)) (L' := fun _ => [ro g5 (row32 c) 24]) (X' := fun y => xps (fun b => b = y.1) (.slice (some ⟨y.1, 0, none⟩) qx.1.length y.2) qx.1 :: [xsl (.slice a' (st.length - 1) cap) (sce (st.drop 1).reverse), xog 9 w y1.sl (sce (st.drop 1).reverse), xsl (.slice A st.length cap) (sce st.reverse)]) (fun W S => S.conv hfx.2) fun yv => At.call 0 [] 124 (fun W S => rsumk_c _ qx.1 W (S.ps 0 rfl) hfx.2 (by omega)) (At.new 0 [] 13 ((row32 (fun _ => 0))) 24 fun g13 h13 => At.semU 0 [] (Instr.storeAt 24 (po g13 0) (.agg (wcells .u8 (Sc.hsum qx.1)))) (fun W S => S.stw 0 rfl h13 (hsum_len qx.1) rfl (by kernel_rfl)) (At.nx (Cd.rg (At.run 2 [] [(125, y1.sl), (126, .slice (some ⟨g13, 0, none⟩) 32 32)] (At.sem 0 [] 127 (convert 22 9 (.slice (some ⟨g13, 0, none⟩) 32 32)) (.string (nst (Sc.hsum qx.1))) (fun W S => run_str (row_piece (S.at 0 rfl) (wcells_list _) (hsum_len qx.1).symm)) (At.sli 0 [] 128 1 (#[.string (nst (Sc.hsum qx.1))]) 9 fun g128 h128 => ?_))))))
    exact At.app 0 [] 129 (TT := 39) (xv := .slice (some ⟨g128, 0, none⟩) 1 1) (z := .string ⟨#[]⟩) (sb' := 16) (ys := [.string (nst (Sc.hsum qx.1))]) 2 rfl (fun W S => S.srcg 0 rfl rfl) (by rw [sce_len, List.length_reverse, List.length_drop]; show (_ + 1) * 16 ≤ _; omega) (by rw [sce_len, List.length_reverse, List.length_drop]; show _ + 1 ≤ _; omega) fun y10 hy10 zy10 => At.run 1 [] [(11, y10.sl)] (At.fin (Cd.sh (Cd.sr (At.run 3 [] [(6, y10.sl), (7, .int .i64 0)] (At.nx (Cd.rv r0 [] (.tuple #[y10.sl, .int .i64 0]) fun W S => OpQ.own (st := Sc.hsum x :: r) ((op7_act hm hlm).trans (by rw [est]; rfl)) S 2 rfl (by rw [ex, est]; simp [sce])))))))
   refine Cd.cf (Cd.sr (At.run 2 [] [(130, .bool (((cd : Nat) : Int) == 169))] (At.nx (Cd.sp 130 (((cd : Nat) : Int) == 169) (fun hb10 => ?_) fun hb10 => ?_))))
   ·refine Cd.ct (Cd.sr ?_)
    obtain rfl : cd = 169 := ieq_t (k := 169) hb10
    obtain rfl : 1 = m := Option.some.inj hm
    obtain ⟨x, r, est⟩ := one_of hlm
    have ex : qx.1 = x := (qx.2 (by decide)).trans (by rw [est]; rfl)
    have hfx := hf qx.1 (by rw [ex, est]; exact List.mem_cons_self ..)
    refine At.semX (ι := Nat × Nat) 1 [] 133 (convert 9 22 (.string (nst qx.1))) (V := fun y => (.slice (some ⟨y.1, 0, none⟩) qx.1.length y.2)) (L' := fun _ => [ro g5 (row32 c) 24]) (X' := fun y => xps (fun b => b = y.1) (.slice (some ⟨y.1, 0, none⟩) qx.1.length y.2) qx.1 :: [xsl (.slice a' (st.length - 1) cap) (sce (st.drop 1).reverse), xog 9 w y1.sl (sce (st.drop 1).reverse), xsl (.slice A st.length cap) (sce st.reverse)]) (fun W S => S.conv hfx.2) fun yv => At.call 0 [] 134 (fun W S => rshortk_c _ qx.1 W (S.ps 0 rfl) hfx.2 (by omega)) (At.new 0 [] 14 ((wcells .u8 (List.replicate 20 0))) 68 fun g14 h14 => At.semU 0 [] (Instr.storeAt 68 (po g14 0) (.agg (wcells .u8 (Sc.hshort qx.1)))) (fun W S => S.stw 0 rfl h14 (hshort_len qx.1) rfl (by kernel_rfl)) (At.nx (Cd.rg (At.run 2 [] [(135, y1.sl), (136, .slice (some ⟨g14, 0, none⟩) 20 20)] (At.sem 0 [] 137 (convert 22 9 (.slice (some ⟨g14, 0, none⟩) 20 20)) (.string (nst (Sc.hshort qx.1))) (fun W S => run_str (row_piece (S.at 0 rfl) (wcells_list _) (hshort_len qx.1).symm)) (At.sli 0 [] 138 1 (#[.string (nst (Sc.hshort qx.1))]) 9 fun g138 h138 => ?_))))))
    exact At.app 0 [] 139 (TT := 39) (xv := .slice (some ⟨g138, 0, none⟩) 1 1) (z := .string ⟨#[]⟩) (sb' := 16) (ys := [.string (nst (Sc.hshort qx.1))]) 2 rfl (fun W S => S.srcg 0 rfl rfl) (by rw [sce_len, List.length_reverse, List.length_drop]; show (_ + 1) * 16 ≤ _; omega) (by rw [sce_len, List.length_reverse, List.length_drop]; show _ + 1 ≤ _; omega) fun y11 hy11 zy11 => At.run 1 [] [(11, y11.sl)] (At.fin (Cd.sh (Cd.sr (At.run 3 [] [(6, y11.sl), (7, .int .i64 0)] (At.nx (Cd.rv r0 [] (.tuple #[y11.sl, .int .i64 0]) fun W S => OpQ.own (st := Sc.hshort x :: r) ((op7_act hm hlm).trans (by rw [est]; rfl)) S 2 rfl (by rw [ex, est]; simp [sce])))))))
   refine Cd.cf (Cd.sr (At.run 2 [] [(140, .bool (((cd : Nat) : Int) == 172))] (At.nx (Cd.sp 140 (((cd : Nat) : Int) == 172) (fun hb11 => ?_) fun hb11 => ?_))))
   ·refine Cd.ct (Cd.rg ?_)
    obtain rfl : cd = 172 := ieq_t (k := 172) hb11
    obtain rfl : 2 = m := Option.some.inj hm
    obtain ⟨x, y, r, est⟩ := two_of hlm
    have ex : qx.1 = x := (qx.2 (by decide)).trans (by rw [est]; rfl)
    have ey : qy.1 = y := (qy.2 (by decide)).trans (by rw [est]; rfl)
    have hfy := hf qy.1 (by rw [ey, est]; exact List.mem_cons_of_mem _ (List.mem_cons_self ..))
    have hfx := hf qx.1 (by rw [ex, est]; exact List.mem_cons_self ..)
    refine At.run 4 [] [(142, y1.sl), (143, .string (nst qx.1)), (144, .string (nst qy.1)), (145, .agg (row32 c))] (At.call 0 [] 146 (fun W S => signed7_c hc hfx.2 hfy.2 W) (At.call 0 [] 147 (fun W S => truth7_c (sgv c qx.1 qy.1) W) (At.sli 0 [] 148 1 (#[.string (nst (Sc.truth (sgv c qx.1 qy.1)))]) 9 fun g148 h148 => At.app 0 [] 149 (TT := 39) (xv := .slice (some ⟨g148, 0, none⟩) 1 1) (z := .string ⟨#[]⟩) (sb' := 16) (ys := [.string (nst (Sc.truth (sgv c qx.1 qy.1)))]) 1 rfl (fun W S => S.srcg 0 rfl rfl) (by rw [sce_len, List.length_reverse, List.length_drop]; show (_ + 1) * 16 ≤ _; omega) (by rw [sce_len, List.length_reverse, List.length_drop]; show _ + 1 ≤ _; omega) fun y12 hy12 zy12 => At.run 1 [] [(11, y12.sl)] (At.fin (Cd.sh (Cd.sr ?_))))))
    exact At.run 3 [] [(6, y12.sl), (7, .int .i64 0)] (At.nx (Cd.rv r0 [] (.tuple #[y12.sl, .int .i64 0]) fun W S => OpQ.own (st := Sc.truth (sgv c x y) :: r) ((op7_act hm hlm).trans (by rw [est]; rfl)) S 1 rfl (by rw [ex, ey, est]; simp [sce])))
   refine Cd.cf (Cd.sr (At.run 2 [] [(150, .bool (((cd : Nat) : Int) == 136))] (At.nx (Cd.sp 150 (((cd : Nat) : Int) == 136) (fun hb12 => ?_) fun hb12 => ?_))))
   ·refine Cd.ct (Cd.sr ?_)
    obtain rfl : cd = 136 := ieq_t (k := 136) hb12
    obtain rfl : 2 = m := Option.some.inj hm
    obtain ⟨x, y, r, est⟩ := two_of hlm
    have ex : qx.1 = x := (qx.2 (by decide)).trans (by rw [est]; rfl)
    have ey : qy.1 = y := (qy.2 (by decide)).trans (by rw [est]; rfl)
    have hfy := hf qy.1 (by rw [ey, est]; exact List.mem_cons_of_mem _ (List.mem_cons_self ..))
    have hfx := hf qx.1 (by rw [ex, est]; exact List.mem_cons_self ..)
    refine At.ar 3 [] 154 (.bool (!((nst qx.1).toList == (nst qy.1).toList))) (.bool (!(decide (qx.1 = qy.1)))) (congrArg _ (by rw [nst_same hfx.2 hfy.2])) (At.nx (Cd.sp 154 (!(decide (qx.1 = qy.1))) (fun hb13 => ?_) fun hb13 => ?_))
    ·exact Cd.ct (Cd.sr (At.run 3 [] [(6, y1.sl), (7, .int .i64 74)] (At.nx (Cd.rv (rb (rt r0)) [] (.tuple #[y1.sl, .int .i64 74]) fun W S => OpQ.err (q := 74) ((op7_act hm hlm).trans (by rw [est]; show (if x = y then Except.ok r else .error 74) = _; exact if_neg (by rw [← ex, ← ey]; simpa using hb13))) y1 S.below))))
    exact Cd.cf (Cd.sk (Cd.sh (Cd.sr (At.run 3 [] [(6, y1.sl), (7, .int .i64 0)] (At.nx (Cd.rv r0 [] (.tuple #[y1.sl, .int .i64 0]) fun W S => OpQ.own (st := r) ((op7_act hm hlm).trans (by rw [est]; show (if x = y then Except.ok r else .error 74) = _; exact if_pos (by rw [← ex, ← ey]; simpa using hb13))) S 1 rfl (by rw [est]; rfl)))))))
   refine Cd.cf (Cd.sr (At.run 2 [] [(156, .bool (((cd : Nat) : Int) == 173))] (At.nx (Cd.sp 156 (((cd : Nat) : Int) == 173) (fun hb13 => ?_) fun hb13 => ?_))))
   ·refine Cd.ct (Cd.sr ?_)
    obtain rfl : cd = 173 := ieq_t (k := 173) hb13
    obtain rfl : 2 = m := Option.some.inj hm
    obtain ⟨x, y, r, est⟩ := two_of hlm
    have ex : qx.1 = x := (qx.2 (by decide)).trans (by rw [est]; rfl)
    have ey : qy.1 = y := (qy.2 (by decide)).trans (by rw [est]; rfl)
    have hfy := hf qy.1 (by rw [ey, est]; exact List.mem_cons_of_mem _ (List.mem_cons_self ..))
    have hfx := hf qx.1 (by rw [ex, est]; exact List.mem_cons_self ..)
    refine At.call 3 [] 161 (fun W S => signed7_c hc hfx.2 hfy.2 W) (At.run 1 [] [(162, .bool (!(sgv c qx.1 qy.1)))] (At.nx (Cd.sp 162 (!(sgv c qx.1 qy.1)) (fun hb14 => ?_) fun hb14 => ?_)))
    ·exact Cd.ct (Cd.sr (At.run 3 [] [(6, y1.sl), (7, .int .i64 74)] (At.nx (Cd.rv (rb (rt r0)) [] (.tuple #[y1.sl, .int .i64 74]) fun W S => OpQ.err (q := 74) ((op7_act hm hlm).trans (by rw [est]; show (if sgv c x y = true then Except.ok r else .error 74) = _; exact if_neg (by rw [← ex, ← ey]; simpa using hb14))) y1 S.below))))
    exact Cd.cf (Cd.sk (Cd.sh (Cd.sr (At.run 3 [] [(6, y1.sl), (7, .int .i64 0)] (At.nx (Cd.rv r0 [] (.tuple #[y1.sl, .int .i64 0]) fun W S => OpQ.own (st := r) ((op7_act hm hlm).trans (by rw [est]; show (if sgv c x y = true then Except.ok r else .error 74) = _; exact if_pos (by rw [← ex, ← ey]; simpa using hb14))) S 1 rfl (by rw [est]; rfl)))))))
   exact Cd.cf (Cd.sk (Cd.sh (Cd.sr (At.run 3 [] [(6, y1.sl), (7, .int .i64 0)] (At.nx (Cd.rv r0 [] (.tuple #[y1.sl, .int .i64 0]) fun W S => OpQ.own (st := st.drop m) ((op7_act hm hlm).trans (act_rest hm ⟨ieq_f (k := 97) hb1, ieq_f (k := 106) hb2, ieq_f (k := 105) hb3, ieq_f (k := 118) hb4, ieq_f (k := 120) hb5, ieq_f (k := 124) hb6, ieq_f (k := 130) hb7, ieq_f (k := 135) hb8, ieq_f (k := 168) hb9, ieq_f (k := 169) hb10, ieq_f (k := 172) hb11, ieq_f (k := 136) hb12, ieq_f (k := 173) hb13⟩)) S 1 rfl rfl))))))
  refine Cd.sr (At.run 2 [] [(42, .bool (decide (((m : Nat) : Int) > 1)))] (At.nx (Cd.sp 42 (decide (((m : Nat) : Int) > 1)) (fun hb1 => ?_) fun hb1 => ?_)))
  ·refine Cd.ct (Cd.rg ?_)
   have hk2 : 2 ≤ st.length := by have q := of_decide_eq_true hb1; omega
   refine At.fact (p := ∃ b o, A = some ⟨b, o, none⟩) (fun W S => (S.sl 2 rfl).lies (by rw [sce_len, List.length_reverse]; omega)) (fun ⟨b, o, eA⟩ => ?_)
   subst eA
   exact At.run 3 [] [(43, .slice (some ⟨b, o, none⟩) st.length cap), (45, vi st.length)] (At.an 1 [] 46 (((st.length : Nat) : Int) - 2) (st.length - 2) (At.ixs 0 [] 47 1 b o st.length cap .i64 (st.length - 2) (by omega) (At.ld 0 [] 48 b (o + (st.length - 2) * 1) (.string (nst (st.tail.headD []))) (fun W S => (S.sl 2 rfl).1.at (st.length - 2) _ _ (sce_top2 hk2) (by omega)) (At.run 1 [] [(10, .string (nst (st.tail.headD [])))] (At.fin (join_of (⟨st.tail.headD [], fun _ => rfl⟩) (fun _ S => S)))))))
  exact Cd.cf (Cd.sk (join_of (⟨[], fun h => by have q := of_decide_eq_false hb1; omega⟩) (fun _ S => S)))
 refine Cd.sr (At.run 2 [] [(34, .bool (decide (((m : Nat) : Int) > 0)))] (At.nx (Cd.sp 34 (decide (((m : Nat) : Int) > 0)) (fun hb1 => ?_) fun hb1 => ?_)))
 ·refine Cd.ct (Cd.rg ?_)
  have hk1 : 1 ≤ st.length := by have q := of_decide_eq_true hb1; omega
  refine At.fact (p := ∃ b o, A = some ⟨b, o, none⟩) (fun W S => (S.sl 2 rfl).lies (by rw [sce_len, List.length_reverse]; omega)) (fun ⟨b, o, eA⟩ => ?_)
  subst eA
  exact At.run 3 [] [(35, .slice (some ⟨b, o, none⟩) st.length cap), (37, vi st.length)] (At.an 1 [] 38 (((st.length : Nat) : Int) - 1) (st.length - 1) (At.ixs 0 [] 39 1 b o st.length cap .i64 (st.length - 1) (by omega) (At.ld 0 [] 40 b (o + (st.length - 1) * 1) (.string (nst (st.headD []))) (fun W S => (S.sl 2 rfl).1.at (st.length - 1) _ _ (sce_top hk1) (by omega)) (At.run 1 [] [(9, .string (nst (st.headD [])))] (At.fin (join_of (⟨st.headD [], fun _ => rfl⟩) (fun _ S => S)))))))
 exact Cd.cf (Cd.sk (join_of (⟨[], fun h => by have q := of_decide_eq_false hb1; omega⟩) (fun _ S => S)))
theorem bce_get {l : List Bool} {i : Nat} {b : Bool} (h : l[i]? = some b) : (bce l)[i]? = some (.bool b) := by unfold bce; rw [List.getElem?_map, h]; rfl
theorem bce_top {ws : List Bool} (h : 1 ≤ ws.length) : (bce ws.reverse)[ws.length - 1]? = some (.bool (ws.headD false)) := by
 cases ws with
 | nil => simp at h
 | cons b r => simp [bce]
theorem bce_take {ws : List Bool} : (bce ws.reverse).take (ws.length - 1) = bce (ws.drop 1).reverse := by
 unfold bce
 rw [← List.map_take, List.take_reverse]
 cases ws with
 | nil => rfl
 | cons b r => simp
theorem goes7_c {c : Nat → Int} {sv : Value} {ws : List Bool} {cap2 : Nat} {A2 : Option Addr} (hl : ws.length ≤ 100000) (w : World) (hs : ShV w (.slice A2 ws.length cap2) (bce ws.reverse)) : Calls Tryz.prog 22 #[.agg (stc sv (.slice A2 ws.length cap2) (row32 c))] w fun e w' => e = .returned (.bool (Sc.goes ws)) ∧ Below w.heap.size w w' := by
 refine enterQ 15 (fun q => .seq (q 0) (.seq (.seq (q 1) (.block 0 (.loop (.seq (q 2) (.seq (.cond (.tmp 9) .skip (.exit 0)) (.seq (.block 1 (.seq (q 3) (.seq (q 4) (.cond (.tmp 13) (.seq (q 5) .ret) .skip)))) (q 6))))))) (.seq (q 7) .ret))) (Sx.sl0 hs) Tryz.func22 (Cd.sr (At.new 0 [] 1 (stc sv (.slice A2 ws.length cap2) (row32 c)) 41 fun g1 h1 => At.run 1 [] [] (At.nx (Cd.seq (Cd.sr (At.run 4 [] [(6, .slice A2 ws.length cap2), (7, vi ws.length), (8, .int .i64 0)] (At.nx ?_)))))))
 refine Cd.blk (Cd.loop (ι := {i : Nat // ∀ j, j < i → ws.reverse[j]? = some true}) (fun i => ws.length - i.1) (fun i => [(0, .agg (stc sv (.slice A2 ws.length cap2) (row32 c))), (1, pt g1), (6, .slice A2 ws.length cap2), (7, vi ws.length), (8, vi i.1)]) (fun i => [ro g1 (stc sv (.slice A2 ws.length cap2) (row32 c)) 41]) (fun i => [xsl (.slice A2 ws.length cap2) (bce ws.reverse)]) (⟨0, fun j hj => absurd hj (Nat.not_lt_zero _)⟩) (fun _ S => S) (fun i => ?_))
 obtain ⟨i, hi⟩ := i
 refine Cd.sr (At.run 1 [] [(9, .bool (decide (((i : Nat) : Int) < ((ws.length : Nat) : Int))))] (At.nx (Cd.seq (Cd.sp 9 (decide (((i : Nat) : Int) < ((ws.length : Nat) : Int))) (fun hb => ?_) fun hb => ?_))))
 ·refine Cd.ct (Cd.sk (Cd.sh (Cd.seq (Cd.blk (Cd.sr ?_)))))
  have hil : i < ws.length := by have q := of_decide_eq_true hb; omega
  obtain ⟨b, hbb⟩ : ∃ b, ws.reverse[i]? = some b := ⟨_, List.getElem?_eq_getElem (by rw [List.length_reverse]; exact hil)⟩
  refine At.fact (p := ∃ b o, A2 = some ⟨b, o, none⟩) (fun W S => (S.sl 0 rfl).lies (by rw [bce_len, List.length_reverse]; omega)) (fun ⟨gb, o, eA⟩ => ?_)
  subst eA
  refine At.ixs 0 [] 10 1 gb o ws.length cap2 .i64 i hil (At.ld 0 [] 11 gb (o + i * 1) (.bool b) (fun W S => (S.sl 0 rfl).1.at i _ _ (bce_get hbb) (by omega)) (At.run 1 [] [(4, .bool b)] (At.nx (Cd.sr (At.run 2 [] [(13, .bool (!b))] (At.nx (Cd.sp 13 (!b) (fun hb1 => ?_) fun hb1 => ?_)))))))
  ·exact Cd.ct (Cd.sr (At.run 1 [] [(2, .bool false)] (At.nx (Cd.rv (rb (rt (rt (rb (rt r0))))) [] (.bool false) fun W S => ⟨by rw [← goes_rev, goes_no (i := i) (by rw [hbb]; simpa using hb1)], S.below⟩))))
  exact Cd.cf (Cd.sk (Cd.sh (Cd.rg (At.an 1 [] 14 (((i : Nat) : Int) + 1) (i + 1) (At.run 1 [] [(8, vi (i + 1))] (At.fin (again_of (⟨i + 1, fun j hj => (by omega : j < i ∨ j = i).elim (hi j) (fun e => by rw [e, hbb]; simpa using hb1)⟩) (by show ws.length - (i + 1) < ws.length - i; omega) (fun _ S => S))))))))
 exact Cd.cf (Cd.ex (Cd.sh (Cd.sr (At.run 1 [] [(2, .bool true)] (At.nx (Cd.rv r0 [] (.bool true) fun W S => ⟨by rw [← goes_rev, goes_yes (fun j hj => hi j (by rw [List.length_reverse] at hj; have q := of_decide_eq_false hb; omega))], S.below⟩))))))
def Ali (w : World) (v : Value) (cs : List Value) (v0 : Value) (cs0 : List Value) : Prop := cs ≠ [] → ∀ b, v.ownBlock = some b → w.heap.size ≤ b ∨ (cs0 ≠ [] ∧ v0.ownBlock = some b)
def BrQ (w : World) (sv wv : Value) (h : Array Value) (s : Sc.St) (res : Except Nat Sc.St) (e : Ending) (w' : World) : Prop := Below w.heap.size w w' ∧ ∃ z : Lt, match res with
 | .error q => e = .returned (.tuple #[.agg (stc z.sl z.s2.sl h), .int .i64 ((q : Nat) : Int)])
 | .ok t => e = .returned (.tuple #[.agg (stc z.sl z.s2.sl h), .int .i64 0]) ∧ ShV w' z.sl (sce t.stack.reverse) ∧ Ali w z.sl (sce t.stack.reverse) sv (sce s.stack.reverse) ∧ ShV w' z.s2.sl (bce t.ways.reverse) ∧ Ali w z.s2.sl (bce t.ways.reverse) wv (bce s.ways.reverse)
@[reducible] def lt2 (x y : Lt) : Lt := ⟨x.a, x.n, x.c, (y.a, y.n, y.c), (none, 0, 0)⟩
section
variable {w W : World} {L : List (Nat × Obj)} {X : List Xt} {sv wv : Value} {h : Array Value} {s t : Sc.St} {res : Except Nat Sc.St} {q : Nat} {x y : Lt}
theorem BrQ.err (hr : res = .error q) (x y : Lt) (hb : Below w.heap.size w W) : BrQ w sv wv h s res (.returned (.tuple #[.agg (stc x.sl y.sl h), vi q])) W := by subst hr; exact ⟨hb, lt2 x y, rfl⟩
theorem BrQ.ok {E : TypeId} {cs c2 : List Value} (hr : res = .ok t) (S : Sx w L X W) (i j : Nat) (hi : X[i]? = some (xsl x.sl cs)) (hc : cs = sce t.stack.reverse) (ha : Ali w x.sl cs sv (sce s.stack.reverse)) (hj : X[j]? = some (xog E w y.sl c2)) (hc2 : c2 = bce t.ways.reverse) : BrQ w sv wv h s res (.returned (.tuple #[.agg (stc x.sl y.sl h), .int .i64 0])) W := by
 subst hr hc hc2
 have hg := S.og j hj
 refine ⟨S.below, lt2 x y, rfl, S.sl i hi, ha, ⟨hg.cells, ?_⟩, fun _ b hb => Or.inl (S.ogown j hj b hb)⟩
 obtain ⟨a, c, e⟩ := hg.shape
 have e2 : (lt2 x y).s2.sl = y.sl := rfl
 rw [e2, e]; rw [e] at hg
 exact ⟨a, c, rfl, (RestG.caple hg).1⟩
theorem Ali.same {cs : List Value} : Ali w v cs v cs := fun h b hb => Or.inr ⟨h, hb⟩
theorem Sx.cutal {T : TypeId} {n c k : Nat} {cs cs' : List Value} (S : Sx w L X W) (j : Nat) (hj : X[j]? = some (xsl (.slice A n c) cs)) (hk : k ≤ cs.length) (he : cs.take k = cs') (hT : Tryz.prog.underlying T = some (.slice (Tryz.prog.elem T)) := by kernel_rfl) (hs : ∀ W, (sizeOf (Tryz.prog.elem T)).run Tryz.prog W = .ok 1 W := by exact fun _ => sym0_run (by kernel_rfl)) :
 ∃ (a' : {a' : Option Addr // Ali w (.slice a' k c) cs' (.slice A n c) cs}) (W' : World), (Instr.sliceAt T (.slice A n c) none (some (.int .i64 (k : Int))) none).run Tryz.prog W = .ok (.slice a'.1 k c) W' ∧ Sx w L (xsl (.slice a'.1 k c) cs' :: X) W' := by
 subst he
 obtain ⟨a', h1, h2, h3⟩ := (S.sl j hj).cut hT (hs W) hk
 exact ⟨⟨a', fun h0 b hb => Or.inr (h3 h0 b hb)⟩, W, h1, S.addsl (Below.refl _ _) h2 fun h0 b hb => Or.inr ⟨_, List.mem_of_getElem? hj, rfl, h3 h0 b hb⟩⟩
theorem Sx.sl2 {v v2 : Value} {cs c2 : List Value} (h1 : ShV w v cs) (h2 : ShV w v2 c2) : Sx w [] [xsl v cs, xsl v2 c2] w := (Sx.sl0 h2).addX _ h1 (fun _ h => by cases h) (fun b hf => h1.foot b hf.1 hf.2) (fun r hr hx => by rw [List.mem_singleton.1 hr] at hx; cases hx)
end
section
variable {cd : Nat} {s : Sc.St}
theorem br_no (h : cd = 99 ∨ cd = 100) (hg : Sc.goes s.ways = false) : Sc.branch cd s = .ok ⟨s.stack, false :: s.ways⟩ := by unfold Sc.branch; rw [if_pos h, if_neg (by rw [hg]; decide)]
theorem br_few (h : cd = 99 ∨ cd = 100) (hg : Sc.goes s.ways = true) (h0 : s.stack.length = 0) : Sc.branch cd s = .error 72 := by unfold Sc.branch; rw [if_pos h, if_pos hg, List.length_eq_zero_iff.1 h0]
theorem br_yes (h : cd = 99 ∨ cd = 100) (hg : Sc.goes s.ways = true) (h0 : 1 ≤ s.stack.length) : Sc.branch cd s = .ok ⟨s.stack.drop 1, (Sc.tr (s.stack.headD []) == decide (cd = 99)) :: s.ways⟩ := by
 unfold Sc.branch; rw [if_pos h, if_pos hg]
 obtain ⟨x, r, e⟩ := one_of h0
 rw [e]; rfl
theorem br_none (h : ¬ (cd = 99 ∨ cd = 100)) (h0 : s.ways.length = 0) : Sc.branch cd s = .error 71 := by unfold Sc.branch; rw [if_neg h, List.length_eq_zero_iff.1 h0]
theorem br_end (h : ¬ (cd = 99 ∨ cd = 100)) (h0 : 1 ≤ s.ways.length) (h3 : cd ≠ 103) : Sc.branch cd s = .ok ⟨s.stack, s.ways.drop 1⟩ := by
 unfold Sc.branch; rw [if_neg h]
 obtain ⟨st, ws⟩ := s
 cases ws with
 | nil => simp at h0
 | cons b r => dsimp only; rw [if_neg h3]; rfl
theorem br_turn (h : ¬ (cd = 99 ∨ cd = 100)) (h0 : 1 ≤ s.ways.length) (h3 : cd = 103) : Sc.branch cd s = .ok ⟨s.stack, (!(s.ways.headD false)) :: s.ways.drop 1⟩ := by
 unfold Sc.branch; rw [if_neg h]
 obtain ⟨st, ws⟩ := s
 cases ws with
 | nil => simp at h0
 | cons b r => dsimp only; rw [if_pos h3]; rfl
end
theorem branch7_c {c : Nat → Int} {cd cap cap2 : Nat} {st : List (List Nat)} {ws : List Bool} {A A2 : Option Addr} (hc : Bytes8 c) (hf : Sc.Fit st) (hl : st.length ≤ 1000) (hw : ws.length ≤ 100000) (w : World) (hs : ShV w (.slice A st.length cap) (sce st.reverse)) (hv : ShV w (.slice A2 ws.length cap2) (bce ws.reverse)) : Calls Tryz.prog 21 #[.agg (stc (.slice A st.length cap) (.slice A2 ws.length cap2) (row32 c)), vcz cd] w (BrQ w (.slice A st.length cap) (.slice A2 ws.length cap2) (row32 c) ⟨st, ws⟩ (Sc.branch cd ⟨st, ws⟩)) := by
 refine enterQ 80 (fun q => .seq (q 0) (.seq (.seq (q 1) (.cond (.tmp 14) (.seq (q 2) (.seq (.seq (q 3) (.cond (.tmp 16) (.seq (.seq (q 4) (.cond (.tmp 20) (.seq (q 5) .ret) .skip)) (.seq (q 6) (q 7))) .skip)) (.seq (q 8) (.seq (q 9) .ret)))) .skip)) (.seq (.seq (q 10) (.cond (.tmp 54) (.seq (q 11) .ret) .skip)) (.seq (q 12) (.seq (q 13) (.seq (.seq (q 14) (.cond (.tmp 67) (q 15) .skip)) (.seq (q 16) (.seq (q 17) .ret)))))))) (Sx.sl2 hs hv) Tryz.func21 (Cd.sr (At.new 0 [] 2 (stc (.slice A st.length cap) (.slice A2 ws.length cap2) (row32 c)) 41 fun g2 h2 => At.new 0 [] 4 (stc (.slice none 0 0) (.slice none 0 0) (row32 (fun _ => 0))) 41 fun g4 h4 => At.run 1 [] [] (At.nx (Cd.seq (Cd.sr (At.run 3 [] [(11, .bool (((cd : Nat) : Int) == 99))] ?_))))))
 refine At.sp 11 (((cd : Nat) : Int) == 99) (fun hb => ?_) fun hb => ?_
 ·refine At.run 3 [] [(14, .bool true)] (At.nx (Cd.ct (Cd.sr (At.run 1 [] [(6, .bool false)] (At.nx (Cd.seq (Cd.sr (At.call 1 [1] 16 (fun W S => goes7_c (c := c) (sv := .slice A st.length cap) hw W (S.sl 1 rfl)) ?_))))))))
  refine At.nx (Cd.sp 16 (Sc.goes ws) (fun hb1 => ?_) fun hb1 => ?_)
  ·refine Cd.ct (Cd.seq (Cd.sr (At.run 4 [0, 1] [(20, .bool (((st.length : Nat) : Int) == 0))] (At.nx (Cd.sp 20 (((st.length : Nat) : Int) == 0) (fun hb2 => ?_) fun hb2 => ?_)))))
   ·exact Cd.ct (Cd.sr (At.st 1 [1] 0 (stc (.slice A st.length cap) (.slice A2 ws.length cap2) (row32 c)) h4 (At.run 1 [] [(5, .int .i64 72)] (At.nx (Cd.rv (rt (rt (rt r0))) [] (.tuple #[.agg (stc (.slice A st.length cap) (.slice A2 ws.length cap2) (row32 c)), .int .i64 72]) fun W S => BrQ.err (q := 72) (br_few (s := (⟨st, ws⟩ : Sc.St)) (Or.inl (ieq_t (k := 99) hb)) hb1 (ieq_t (k := 0) hb2)) (lt0 A st.length cap) (lt0 A2 ws.length cap2) S.below)))))
   refine Cd.cf (Cd.sk (Cd.sh (Cd.sr ?_)))
   have hs1 : 1 ≤ st.length := by have q := ieq_f (k := 0) hb2; omega
   refine At.fact (p := ∃ b o, A = some ⟨b, o, none⟩) (fun W S => (S.sl 0 rfl).lies (by rw [sce_len, List.length_reverse]; omega)) (fun ⟨b, o, eA⟩ => ?_)
   subst eA
   refine At.run 5 [0, 1, 0, 1] [(23, .slice (some ⟨b, o, none⟩) st.length cap), (26, vi st.length)] (At.an 1 [] 27 (((st.length : Nat) : Int) - 1) (st.length - 1) (At.ixs 0 [] 28 1 b o st.length cap .i64 (st.length - 1) (by omega) (At.ld 0 [] 29 b (o + (st.length - 1) * 1) (.string (nst (st.headD []))) (fun W S => (S.sl 0 rfl).1.at (st.length - 1) _ _ (sce_top hs1) (by omega)) (At.call 0 [] 30 (fun W S => rtrue_c (by have := (fit_head hf).1; omega) (fit_head hf).2 W) (At.ar 3 [] 33 (.bool (Sc.tr (st.headD []) == (((cd : Nat) : Int) == 99))) (.bool (Sc.tr (st.headD []) == decide (cd = 99))) (congrArg _ (by congr 1; rw [Bool.eq_iff_iff, beq_iff_eq, decide_eq_true_iff]; omega)) (At.run 1 [] [(6, .bool (Sc.tr (st.headD []) == decide (cd = 99)))] (At.nx (Cd.rg ?_))))))))
   refine At.run 5 [0, 1, 0, 1] [(35, .slice (some ⟨b, o, none⟩) st.length cap), (38, vi st.length)] (At.an 1 [] 39 (((st.length : Nat) : Int) - 1) (st.length - 1) (At.semX (ι := {a' : Option Addr // Ali w (.slice a' (st.length - 1) cap) (sce (st.drop 1).reverse) (.slice (some ⟨b, o, none⟩) st.length cap) (sce st.reverse)}) 0 [] 40 (Instr.sliceAt 39 (.slice (some ⟨b, o, none⟩) st.length cap) none (some (vi (st.length - 1))) none) (V := fun a' => (.slice a'.1 (st.length - 1) cap)) (L' := fun _ => [ro g4 (stc (.slice none 0 0) (.slice none 0 0) (row32 (fun _ => 0))) 41, ro g2 (stc (.slice (some ⟨b, o, none⟩) st.length cap) (.slice A2 ws.length cap2) (row32 c)) 41]) (X' := fun a' => xsl (.slice a'.1 (st.length - 1) cap) (sce (st.drop 1).reverse) :: [xsl (.slice (some ⟨b, o, none⟩) st.length cap) (sce st.reverse), xsl (.slice A2 ws.length cap2) (bce ws.reverse)]) (fun W S => S.cutal 0 rfl (by rw [sce_len, List.length_reverse]; omega) (sce_take hs1)) fun a' => At.st 1 [] 1 (stc (.slice a'.1 (st.length - 1) cap) (.slice A2 ws.length cap2) (row32 c)) h2 (At.fin (Cd.sh (Cd.sr (At.sli 0 [] 42 0 (#[]) 4 fun g42 h42 => At.as (fun _ S => S.ogrow (cs := []) h42 rfl) ?_))))))
   refine At.app 2 [0, 1] 45 (TT := 33) (xv := .slice A2 ws.length cap2) (z := .bool false) (sb' := 1) (ys := (bce ws.reverse)) 0 rfl (fun W S => by have q := CellsV.src (TT := 33) (E := 4) (by kernel_rfl) (S.sl 3 rfl).1 (bce_one _); exact q) (by rw [bce_len, List.length_reverse]; simp only [List.length_nil]; omega) (by rw [bce_len, List.length_reverse]; simp only [List.length_nil]; omega) fun y1 hy1 zy1 => At.sli 1 [] 47 1 (#[.bool (Sc.tr (st.headD []) == decide (cd = 99))]) 4 fun g47 h47 => At.app 0 [] 48 (TT := 33) (xv := .slice (some ⟨g47, 0, none⟩) 1 1) (z := .bool false) (sb' := 1) (ys := [.bool (Sc.tr (st.headD []) == decide (cd = 99))]) 0 rfl (fun W S => S.srcg 0 rfl rfl) (by simp only [List.nil_append, bce_len, List.length_reverse, List.length_cons, List.length_nil]; omega) (by simp only [List.nil_append, bce_len, List.length_reverse, List.length_cons, List.length_nil]; omega) fun y2 hy2 zy2 => At.st 1 [] 2 (stc (.slice a'.1 (st.length - 1) cap) y2.sl (row32 c)) h2 (At.nx (Cd.sr (At.st 1 [2] 1 (stc (.slice a'.1 (st.length - 1) cap) y2.sl (row32 c)) h4 (At.run 1 [] [(5, .int .i64 0)] (At.nx ?_)))))
   exact Cd.rv (rt r0) [1] (.tuple #[.agg (stc (.slice a'.1 (st.length - 1) cap) y2.sl (row32 c)), .int .i64 0]) fun W S => BrQ.ok (x := (lt0 a'.1 (st.length - 1) cap)) (br_yes (s := (⟨st, ws⟩ : Sc.St)) (Or.inl (ieq_t (k := 99) hb)) hb1 hs1) S 1 0 rfl rfl a'.2 rfl (by simp [bce])
  refine Cd.cf (Cd.sk (Cd.sh (Cd.sr (At.sli 0 [] 42 0 (#[]) 4 fun g42 h42 => At.as (fun _ S => S.ogrow (cs := []) h42 rfl) (At.app 2 [0, 1] 45 (TT := 33) (xv := .slice A2 ws.length cap2) (z := .bool false) (sb' := 1) (ys := (bce ws.reverse)) 0 rfl (fun W S => by have q := CellsV.src (TT := 33) (E := 4) (by kernel_rfl) (S.sl 2 rfl).1 (bce_one _); exact q) (by rw [bce_len, List.length_reverse]; simp only [List.length_nil]; omega) (by rw [bce_len, List.length_reverse]; simp only [List.length_nil]; omega) fun y3 hy3 zy3 => At.sli 1 [] 47 1 (#[.bool false]) 4 fun g47 h47 => At.app 0 [] 48 (TT := 33) (xv := .slice (some ⟨g47, 0, none⟩) 1 1) (z := .bool false) (sb' := 1) (ys := [.bool false]) 0 rfl (fun W S => S.srcg 0 rfl rfl) (by simp only [List.nil_append, bce_len, List.length_reverse, List.length_cons, List.length_nil]; omega) (by simp only [List.nil_append, bce_len, List.length_reverse, List.length_cons, List.length_nil]; omega) fun y4 hy4 zy4 => ?_)))))
  exact At.st 1 [] 2 (stc (.slice A st.length cap) y4.sl (row32 c)) h2 (At.nx (Cd.sr (At.st 1 [2] 1 (stc (.slice A st.length cap) y4.sl (row32 c)) h4 (At.run 1 [] [(5, .int .i64 0)] (At.nx (Cd.rv (rt r0) [1] (.tuple #[.agg (stc (.slice A st.length cap) y4.sl (row32 c)), .int .i64 0]) fun W S => BrQ.ok (x := (lt0 A st.length cap)) (br_no (s := (⟨st, ws⟩ : Sc.St)) (Or.inl (ieq_t (k := 99) hb)) hb1) S 1 0 rfl rfl Ali.same rfl (by simp [bce])))))))
 refine At.run 3 [] [(14, .bool (((cd : Nat) : Int) == 100))] (At.nx (Cd.sp 14 (((cd : Nat) : Int) == 100) (fun hb1 => ?_) fun hb1 => ?_))
 ·refine Cd.ct (Cd.sr (At.run 1 [] [(6, .bool false)] (At.nx (Cd.seq (Cd.sr (At.call 1 [1] 16 (fun W S => goes7_c (c := c) (sv := .slice A st.length cap) hw W (S.sl 1 rfl)) (At.nx (Cd.sp 16 (Sc.goes ws) (fun hb2 => ?_) fun hb2 => ?_))))))))
  ·refine Cd.ct (Cd.seq (Cd.sr (At.run 4 [0, 1] [(20, .bool (((st.length : Nat) : Int) == 0))] (At.nx (Cd.sp 20 (((st.length : Nat) : Int) == 0) (fun hb3 => ?_) fun hb3 => ?_)))))
   ·exact Cd.ct (Cd.sr (At.st 1 [1] 0 (stc (.slice A st.length cap) (.slice A2 ws.length cap2) (row32 c)) h4 (At.run 1 [] [(5, .int .i64 72)] (At.nx (Cd.rv (rt (rt (rt r0))) [] (.tuple #[.agg (stc (.slice A st.length cap) (.slice A2 ws.length cap2) (row32 c)), .int .i64 72]) fun W S => BrQ.err (q := 72) (br_few (s := (⟨st, ws⟩ : Sc.St)) (Or.inr (ieq_t (k := 100) hb1)) hb2 (ieq_t (k := 0) hb3)) (lt0 A st.length cap) (lt0 A2 ws.length cap2) S.below)))))
   refine Cd.cf (Cd.sk (Cd.sh (Cd.sr ?_)))
   have hs1 : 1 ≤ st.length := by have q := ieq_f (k := 0) hb3; omega
   refine At.fact (p := ∃ b o, A = some ⟨b, o, none⟩) (fun W S => (S.sl 0 rfl).lies (by rw [sce_len, List.length_reverse]; omega)) (fun ⟨b, o, eA⟩ => ?_)
   subst eA
   refine At.run 5 [0, 1, 0, 1] [(23, .slice (some ⟨b, o, none⟩) st.length cap), (26, vi st.length)] (At.an 1 [] 27 (((st.length : Nat) : Int) - 1) (st.length - 1) (At.ixs 0 [] 28 1 b o st.length cap .i64 (st.length - 1) (by omega) (At.ld 0 [] 29 b (o + (st.length - 1) * 1) (.string (nst (st.headD []))) (fun W S => (S.sl 0 rfl).1.at (st.length - 1) _ _ (sce_top hs1) (by omega)) (At.call 0 [] 30 (fun W S => rtrue_c (by have := (fit_head hf).1; omega) (fit_head hf).2 W) (At.ar 3 [] 33 (.bool (Sc.tr (st.headD []) == (((cd : Nat) : Int) == 99))) (.bool (Sc.tr (st.headD []) == decide (cd = 99))) (congrArg _ (by congr 1; rw [Bool.eq_iff_iff, beq_iff_eq, decide_eq_true_iff]; omega)) (At.run 1 [] [(6, .bool (Sc.tr (st.headD []) == decide (cd = 99)))] (At.nx (Cd.rg ?_))))))))
   refine At.run 5 [0, 1, 0, 1] [(35, .slice (some ⟨b, o, none⟩) st.length cap), (38, vi st.length)] (At.an 1 [] 39 (((st.length : Nat) : Int) - 1) (st.length - 1) (At.semX (ι := {a' : Option Addr // Ali w (.slice a' (st.length - 1) cap) (sce (st.drop 1).reverse) (.slice (some ⟨b, o, none⟩) st.length cap) (sce st.reverse)}) 0 [] 40 (Instr.sliceAt 39 (.slice (some ⟨b, o, none⟩) st.length cap) none (some (vi (st.length - 1))) none) (V := fun a' => (.slice a'.1 (st.length - 1) cap)) (L' := fun _ => [ro g4 (stc (.slice none 0 0) (.slice none 0 0) (row32 (fun _ => 0))) 41, ro g2 (stc (.slice (some ⟨b, o, none⟩) st.length cap) (.slice A2 ws.length cap2) (row32 c)) 41]) (X' := fun a' => xsl (.slice a'.1 (st.length - 1) cap) (sce (st.drop 1).reverse) :: [xsl (.slice (some ⟨b, o, none⟩) st.length cap) (sce st.reverse), xsl (.slice A2 ws.length cap2) (bce ws.reverse)]) (fun W S => S.cutal 0 rfl (by rw [sce_len, List.length_reverse]; omega) (sce_take hs1)) fun a' => At.st 1 [] 1 (stc (.slice a'.1 (st.length - 1) cap) (.slice A2 ws.length cap2) (row32 c)) h2 (At.fin (Cd.sh (Cd.sr (At.sli 0 [] 42 0 (#[]) 4 fun g42 h42 => At.as (fun _ S => S.ogrow (cs := []) h42 rfl) ?_))))))
   refine At.app 2 [0, 1] 45 (TT := 33) (xv := .slice A2 ws.length cap2) (z := .bool false) (sb' := 1) (ys := (bce ws.reverse)) 0 rfl (fun W S => by have q := CellsV.src (TT := 33) (E := 4) (by kernel_rfl) (S.sl 3 rfl).1 (bce_one _); exact q) (by rw [bce_len, List.length_reverse]; simp only [List.length_nil]; omega) (by rw [bce_len, List.length_reverse]; simp only [List.length_nil]; omega) fun y5 hy5 zy5 => At.sli 1 [] 47 1 (#[.bool (Sc.tr (st.headD []) == decide (cd = 99))]) 4 fun g47 h47 => At.app 0 [] 48 (TT := 33) (xv := .slice (some ⟨g47, 0, none⟩) 1 1) (z := .bool false) (sb' := 1) (ys := [.bool (Sc.tr (st.headD []) == decide (cd = 99))]) 0 rfl (fun W S => S.srcg 0 rfl rfl) (by simp only [List.nil_append, bce_len, List.length_reverse, List.length_cons, List.length_nil]; omega) (by simp only [List.nil_append, bce_len, List.length_reverse, List.length_cons, List.length_nil]; omega) fun y6 hy6 zy6 => At.st 1 [] 2 (stc (.slice a'.1 (st.length - 1) cap) y6.sl (row32 c)) h2 (At.nx (Cd.sr (At.st 1 [2] 1 (stc (.slice a'.1 (st.length - 1) cap) y6.sl (row32 c)) h4 (At.run 1 [] [(5, .int .i64 0)] (At.nx ?_)))))
   exact Cd.rv (rt r0) [1] (.tuple #[.agg (stc (.slice a'.1 (st.length - 1) cap) y6.sl (row32 c)), .int .i64 0]) fun W S => BrQ.ok (x := (lt0 a'.1 (st.length - 1) cap)) (br_yes (s := (⟨st, ws⟩ : Sc.St)) (Or.inr (ieq_t (k := 100) hb1)) hb2 hs1) S 1 0 rfl rfl a'.2 rfl (by simp [bce])
  refine Cd.cf (Cd.sk (Cd.sh (Cd.sr (At.sli 0 [] 42 0 (#[]) 4 fun g42 h42 => At.as (fun _ S => S.ogrow (cs := []) h42 rfl) (At.app 2 [0, 1] 45 (TT := 33) (xv := .slice A2 ws.length cap2) (z := .bool false) (sb' := 1) (ys := (bce ws.reverse)) 0 rfl (fun W S => by have q := CellsV.src (TT := 33) (E := 4) (by kernel_rfl) (S.sl 2 rfl).1 (bce_one _); exact q) (by rw [bce_len, List.length_reverse]; simp only [List.length_nil]; omega) (by rw [bce_len, List.length_reverse]; simp only [List.length_nil]; omega) fun y7 hy7 zy7 => At.sli 1 [] 47 1 (#[.bool false]) 4 fun g47 h47 => At.app 0 [] 48 (TT := 33) (xv := .slice (some ⟨g47, 0, none⟩) 1 1) (z := .bool false) (sb' := 1) (ys := [.bool false]) 0 rfl (fun W S => S.srcg 0 rfl rfl) (by simp only [List.nil_append, bce_len, List.length_reverse, List.length_cons, List.length_nil]; omega) (by simp only [List.nil_append, bce_len, List.length_reverse, List.length_cons, List.length_nil]; omega) fun y8 hy8 zy8 => ?_)))))
  exact At.st 1 [] 2 (stc (.slice A st.length cap) y8.sl (row32 c)) h2 (At.nx (Cd.sr (At.st 1 [2] 1 (stc (.slice A st.length cap) y8.sl (row32 c)) h4 (At.run 1 [] [(5, .int .i64 0)] (At.nx (Cd.rv (rt r0) [1] (.tuple #[.agg (stc (.slice A st.length cap) y8.sl (row32 c)), .int .i64 0]) fun W S => BrQ.ok (x := (lt0 A st.length cap)) (br_no (s := (⟨st, ws⟩ : Sc.St)) (Or.inr (ieq_t (k := 100) hb1)) hb2) S 1 0 rfl rfl Ali.same rfl (by simp [bce])))))))
 refine Cd.cf (Cd.sk (Cd.sh (Cd.seq (Cd.sr (At.run 4 [0, 1] [(54, .bool (((ws.length : Nat) : Int) == 0))] (At.nx (Cd.sp 54 (((ws.length : Nat) : Int) == 0) (fun hb2 => ?_) fun hb2 => ?_)))))))
 ·exact Cd.ct (Cd.sr (At.st 1 [1] 0 (stc (.slice A st.length cap) (.slice A2 ws.length cap2) (row32 c)) h4 (At.run 1 [] [(5, .int .i64 71)] (At.nx (Cd.rv (rt r0) [] (.tuple #[.agg (stc (.slice A st.length cap) (.slice A2 ws.length cap2) (row32 c)), .int .i64 71]) fun W S => BrQ.err (q := 71) (br_none (s := (⟨st, ws⟩ : Sc.St)) (fun h => h.elim (ieq_f (k := 99) hb) (ieq_f (k := 100) hb1)) (ieq_t (k := 0) hb2)) (lt0 A st.length cap) (lt0 A2 ws.length cap2) S.below)))))
 refine Cd.cf (Cd.sk (Cd.sh ?_))
 have hw1 : 1 ≤ ws.length := by have q := ieq_f (k := 0) hb2; omega
 refine Cd.sr (At.an 4 [0, 1] 59 (((ws.length : Nat) : Int) - 1) (ws.length - 1) (At.run 1 [] [(7, vi (ws.length - 1))] (At.nx (Cd.sr (At.sli 0 [] 60 0 (#[]) 4 fun g60 h60 => At.as (fun _ S => S.ogrow (cs := []) h60 rfl) (At.semX (ι := Option Addr) 3 [0, 1] 64 (Instr.sliceAt 33 (.slice A2 ws.length cap2) none (some (vi (ws.length - 1))) none) (V := fun a' => (.slice a' (ws.length - 1) cap2)) (L' := fun _ => [ro g4 (stc (.slice none 0 0) (.slice none 0 0) (row32 (fun _ => 0))) 41, ro g2 (stc (.slice A st.length cap) (.slice A2 ws.length cap2) (row32 c)) 41]) (X' := fun a' => xsl (.slice a' (ws.length - 1) cap2) (bce (ws.drop 1).reverse) :: [xog 4 w (lt0 (some ⟨g60, 0, none⟩) 0 0).sl ([]), xsl (.slice A st.length cap) (sce st.reverse), xsl (.slice A2 ws.length cap2) (bce ws.reverse)]) (fun W S => S.cutsl 2 rfl (by rw [bce_len, List.length_reverse]; omega) bce_take) fun a' => At.app 0 [] 65 (TT := 33) (xv := .slice a' (ws.length - 1) cap2) (z := .bool false) (sb' := 1) (ys := (bce (ws.drop 1).reverse)) 1 rfl (fun W S => by have q := CellsV.src (TT := 33) (E := 4) (by kernel_rfl) (S.sl 0 rfl).1 (bce_one _); rw [bce_len, List.length_reverse, List.length_drop] at q; rw [bce_len, List.length_reverse, List.length_drop]; exact q) (by rw [bce_len, List.length_reverse, List.length_drop]; simp only [List.length_nil]; omega) (by rw [bce_len, List.length_reverse, List.length_drop]; simp only [List.length_nil]; omega) fun y9 hy9 zy9 => ?_))))))
 refine At.run 1 [] [(8, y9.sl)] (At.nx (Cd.seq (Cd.sr (At.run 2 [] [(67, .bool (((cd : Nat) : Int) == 103))] (At.nx (Cd.sp 67 (((cd : Nat) : Int) == 103) (fun hb3 => ?_) fun hb3 => ?_))))))
 ·refine Cd.ct (Cd.rg (At.fact (p := ∃ b o, A2 = some ⟨b, o, none⟩) (fun W S => (S.sl 3 rfl).lies (by rw [bce_len, List.length_reverse]; omega)) (fun ⟨b, o, eA⟩ => ?_)))
  subst eA
  refine At.run 4 [0, 0, 1] [(68, y9.sl), (70, .slice (some ⟨b, o, none⟩) ws.length cap2), (71, vi (ws.length - 1))] (At.ixs 0 [] 72 1 b o ws.length cap2 .i64 (ws.length - 1) (by omega) (At.ld 0 [] 73 b (o + (ws.length - 1) * 1) (.bool (ws.headD false)) (fun W S => (S.sl 3 rfl).1.at (ws.length - 1) _ _ (bce_top hw1) (by omega)) (At.sli 1 [] 75 1 (#[.bool (!(ws.headD false))]) 4 fun g75 h75 => At.app 0 [] 76 (TT := 33) (xv := .slice (some ⟨g75, 0, none⟩) 1 1) (z := .bool false) (sb' := 1) (ys := [.bool (!(ws.headD false))]) 1 rfl (fun W S => S.srcg 0 rfl rfl) (by simp only [List.nil_append, bce_len, List.length_reverse, List.length_drop, List.length_cons, List.length_nil]; omega) (by simp only [List.nil_append, bce_len, List.length_reverse, List.length_drop, List.length_cons, List.length_nil]; omega) fun y10 hy10 zy10 => At.run 1 [] [(8, y10.sl)] (At.fin (Cd.sh (Cd.sr ?_))))))
  exact At.st 2 [] 2 (stc (.slice A st.length cap) y10.sl (row32 c)) h2 (At.nx (Cd.sr (At.st 1 [2] 1 (stc (.slice A st.length cap) y10.sl (row32 c)) h4 (At.run 1 [] [(5, .int .i64 0)] (At.nx (Cd.rv r0 [1] (.tuple #[.agg (stc (.slice A st.length cap) y10.sl (row32 c)), .int .i64 0]) fun W S => BrQ.ok (x := (lt0 A st.length cap)) (br_turn (s := (⟨st, ws⟩ : Sc.St)) (fun h => h.elim (ieq_f (k := 99) hb) (ieq_f (k := 100) hb1)) hw1 (ieq_t (k := 103) hb3)) S 2 1 rfl rfl Ali.same rfl (by simp [bce])))))))
 refine Cd.cf (Cd.sk (Cd.sh (Cd.sr (At.st 2 [] 1 (stc (.slice A st.length cap) y9.sl (row32 c)) h2 (At.nx (Cd.sr (At.st 1 [1] 0 (stc (.slice A st.length cap) y9.sl (row32 c)) h4 (At.run 1 [] [(5, .int .i64 0)] ?_))))))))
 exact At.nx (Cd.rv r0 [] (.tuple #[.agg (stc (.slice A st.length cap) y9.sl (row32 c)), .int .i64 0]) fun W S => BrQ.ok (x := (lt0 A st.length cap)) (br_end (s := (⟨st, ws⟩ : Sc.St)) (fun h => h.elim (ieq_f (k := 99) hb) (ieq_f (k := 100) hb1)) hw1 (ieq_f (k := 103) hb3)) S 2 1 rfl rfl Ali.same rfl rfl)
theorem wp_appS {o : Oper} {a : Act} (S : Sx w L X W) (i : Nat) {T E : TypeId} (hT : Tryz.prog.underlying T = some (.slice E)) {z : Value} {sb' : Nat} (hE : (Tryz.prog.info? E).map (fun i => (i.zero, i.size, i.bytes)) = some (some z, 1, sb')) (hzs : z.cells.size = 1) (s x : Operand)
 (ho : o.op = .call { callee := .builtin .append, args := #[s, x], argTypes := #[T, T] }) {v xv : Value} (hsv : a.eval s = v) (hxv : a.eval x = xv) {cs ys : List Value} (hi : X[i]? = some (xog E w v cs)) (hs : Src Tryz.prog 1 T xv ys.length ys W)
 (hn : (cs.length + ys.length) * sb' ≤ 70368744177664) (hn2 : cs.length + ys.length ≤ 1000000000000)
 (h : ∀ v' W', Sx w L (X.set i (xog E w v' (cs ++ ys))) W' → K (a.put o.dst v') W') : o.wp Tryz.prog a W K Q := by
 obtain ⟨v', W', hr, h2, h3, h4, -⟩ := runG_app hT hE hzs o.type W v _ cs ys (S.og i hi) hs hn hn2
 unfold Oper.wp execOp
 simp only [ho, resolve, invoke, builtin, Sem.run_bind, Sem.run_pure, Result.andThen_ok, List.map_toArray, List.map_cons, List.map_nil, hsv, hxv, hr]
 exact h _ _ (S.appg i hi h2 h3 h4)
theorem wp_hide {o : Oper} {a : Act} (h : ∀ K' : Act → World → Prop, Hid (∀ a' W', K a' W' → K' a' W') → o.wp Tryz.prog a W K' Q) : o.wp Tryz.prog a W K Q := h K (Lib.hid fun _ _ h => h)
theorem wp_put1 {o : Oper} {a : Act} {t : TypeId} {x y : Operand} {b p : Nat} {u v : Value} (ho : o.op = .store t x y) (hx : a.eval x = po b p) (hy : a.eval y = v) (hv : v.cells = #[v]) (h1 : v.oneCell' = true) (hi : (Tryz.prog.info? t).map (·.size) = some 1) (hc : W.cell? ⟨b, p, none⟩ = some u) (hz : W.frozen? ⟨b, p, none⟩ = false)
 (hk : K (a.put o.dst undef) (W.setCell ⟨b, p, none⟩ v)) : o.wp Tryz.prog a W K Q := by
 unfold Oper.wp execOp
 simp only [ho, hx, hy, Sem.run_bind, run_store1 hv h1 hi hc hz, Result.andThen_ok, Sem.run_pure]
 exact hk
theorem stc_get {s v : Value} {h : Array Value} : (stc s v h)[0]? = some s := by unfold stc; rw [Array.getElem?_append_left (by show 0 < 2; decide)]; rfl
theorem stc_set {s v s2 : Value} {h : Array Value} : (stc s v h).setIfInBounds 0 s2 = stc s2 v h := by unfold stc; rw [Array.setIfInBounds_append, if_pos (by show 0 < 2; decide)]; rfl
theorem all_r21 {g3 k : Nat} {sa da : Option Addr} {sc dc : Nat} {wv : Value} {h : Array Value} {st : List (List Nat)} {d : List Nat} {jd js : Nat}
 (hF : [3, 10].map (look F) = [some (pt g3), some (.slice da d.length dc)]) (hn : [78, 79, 80, 81, 82, 83, 84, 85, 86].all (fun q => (look F q).isNone) = true)
 (hk : L[k]? = some (ro g3 (stc (.slice sa st.length sc) wv h) 41)) (hg : w.heap.size ≤ g3) (hs : X[js]? = some (xsl (.slice sa st.length sc) (sce st.reverse))) (hd : X[jd]? = some (xown w (.slice da d.length dc) d)) (hl : st.length ≤ 1000)
 (kont : ∀ y : Lt, y.n = st.length + 1 → ∀ T W, Fq 112 T F → Sx w (L.set k (ro g3 (stc y.sl wv h) 41)) (xog 9 w y.sl (sce (d :: st).reverse) :: X) W → Q .normal ⟨T, []⟩ W) : Cd Tryz.prog (rgn Tryz.f12 21) Q 112 F w L X := by
 intro T W hT hS
 obtain ⟨id, e⟩ := rgn_drawn (f := Tryz.f12) (r := 21) (by kernel_rfl)
 rw [e]
 simp only [List.map_cons, List.map_nil, List.cons.injEq, and_true] at hF
 obtain ⟨f3, f10⟩ := hF
 simp only [List.all_cons, List.all_nil, Bool.and_true, Bool.and_eq_true, Option.isNone_iff_eq_none] at hn
 obtain ⟨n78, n79, n80, n81, n82, n83, n84, n85, n86⟩ := hn
 have put : ∀ {T' : Array Value} {d : Nat} {v : Value}, Fq 112 T' F → look F d = none → Fq 112 (T'.setIfInBounds d v) F := fun h hn => ⟨by rw [Array.size_setIfInBounds]; exact h.size, fun q u hq => by
  rw [← h.known q u hq, Array.getD_eq_getD_getElem?, Array.getD_eq_getD_getElem?, Array.getElem?_setIfInBounds_ne (fun e => by rw [e, hq] at hn; cases hn)]⟩
 have got : ∀ {T' : Array Value} {d : Nat} {v : Value}, Fq 112 T' F → d < 112 → (T'.setIfInBounds d v).getD d undef = v := fun h hl => by
  rw [Array.getD_eq_getD_getElem?, Array.getElem?_setIfInBounds_self_of_lt (by rw [h.size]; exact hl)]; rfl
 have oth : ∀ {T' : Array Value} {d q : Nat} {v : Value}, d ≠ q → (T'.setIfInBounds d v).getD q undef = T'.getD q undef := fun h => by
  rw [Array.getD_eq_getD_getElem?, Array.getD_eq_getD_getElem?, Array.getElem?_setIfInBounds_ne h]
 have hT9 : Tryz.prog.underlying 39 = some (.slice 9) := by kernel_rfl
 have hE9 : (Tryz.prog.info? 9).map (fun i => (i.zero, i.size, i.bytes)) = some (some (.string ⟨#[]⟩), 1, 16) := by kernel_rfl
 have lrow : ∀ {rs : List (Nat × Obj)} {fs : List Xt} {W : World}, Sx w (rs ++ L) (fs ++ X) W → W.heap[g3]? = some (.cells (stc (.slice sa st.length sc) wv h) 41 (0, 0)) := fun S => S.rows _ (List.mem_append_right _ (List.mem_of_getElem? hk))
 refine wp_region_steps (by kernel_rfl) (by kernel_rfl) (fun P a W => ∃ T' fs rs, a = ⟨T', []⟩ ∧ Fq 112 T' F ∧ (P 1 = true → T'.getD 79 undef = pt g3) ∧ (P 2 = true → T'.getD 80 undef = .slice sa st.length sc) ∧ (P 4 = true → T'.getD 82 undef = .slice da d.length dc) ∧ (P 5 = true → T'.getD 83 undef = .string (nst d)) ∧ (P 8 = true → T'.getD 86 undef = pt g3)
  ∧ (P 6 = false → rs = []) ∧ (P 6 = true → ∃ g6, T'.getD 84 undef = .slice (some ⟨g6, 0, none⟩) 1 1 ∧ rs = [ro g6 #[.string (nst d)] 9])
  ∧ (P 0 = false → fs = []) ∧ (P 0 = true → P 3 = false → fs = [xog 9 w (T'.getD 78 undef) []]) ∧ (P 3 = true → P 7 = false → fs = [xog 9 w (T'.getD 81 undef) (sce st.reverse)]) ∧ (P 7 = true → fs = [xog 9 w (T'.getD 85 undef) (sce (d :: st).reverse)])
  ∧ (P 3 = true → P 0 = true ∧ P 2 = true) ∧ (P 7 = true → P 3 = true ∧ P 6 = true) ∧ (P 9 = true → P 7 = true ∧ P 8 = true) ∧ (P 8 = true → P 7 = true ∧ P 1 = true ∧ P 2 = true ∧ P 4 = true ∧ P 5 = true)
  ∧ (P 9 = false → Sx w (rs ++ L) (fs ++ X) W) ∧ (P 9 = true → Sx w (rs ++ L.set k (ro g3 (stc (T'.getD 85 undef) wv h) 41)) (fs ++ X) W)) ⟨T, [], [], rfl, hT, nofun, nofun, nofun, nofun, nofun, fun _ => rfl, nofun, fun _ => rfl, nofun, nofun, nofun, nofun, nofun, nofun, nofun, fun _ => hS.drew, nofun⟩ ?_ ?_
 ·refine ⟨?_, ?_, ?_, ?_, ?_, ?_, ?_, ?_, ?_, ?_, trivial⟩
  ·rintro P a W ⟨T', fs, rs, rfl, hT', c1, c2, c4, c5, c8, r0, r1, a0, a1, a3, a7, m3, m7, m9, m8, s0, s1⟩ hno hdep
   have n9 : P 9 = false := Bool.eq_false_iff.2 fun h => Bool.false_ne_true (hno.symm.trans ((m3 (m7 (m9 h).1).1).1))
   have S := s0 n9
   have n3 : P 3 = false := Bool.eq_false_iff.2 fun h => Bool.false_ne_true (hno.symm.trans ((m3 h).1))
   have n7 : P 7 = false := Bool.eq_false_iff.2 fun h => Bool.false_ne_true (hno.symm.trans ((m3 (m7 h).1).1))
   obtain rfl := a0 hno
   refine wp_hide fun K hK => ?_
   go_simp
   refine hK.out _ _ ?_
   have S := S.rowog 9 [] 0 rfl
   exact ⟨_, [xog 9 w (.slice (some ⟨W.heap.size, 0, none⟩) 0 0) []], rs, rfl, put hT' n78, fun h => (oth (by decide)).trans (c1 h), fun h => (oth (by decide)).trans (c2 h), fun h => (oth (by decide)).trans (c4 h), fun h => (oth (by decide)).trans (c5 h), fun h => (oth (by decide)).trans (c8 h), r0, fun h => by obtain ⟨g6, e1, e2⟩ := r1 h; exact ⟨g6, (oth (by decide)).trans e1, e2⟩, fun h => absurd h (by simp [also]), fun _ _ => by rw [got hT' (by decide)], fun h => (Bool.false_ne_true (n3.symm.trans h)).elim, fun h => (Bool.false_ne_true (n7.symm.trans h)).elim, fun h => (Bool.false_ne_true (n3.symm.trans h)).elim, m7, m9, m8, fun _ => S, fun h => (Bool.false_ne_true (n9.symm.trans h)).elim⟩
  ·rintro P a W ⟨T', fs, rs, rfl, hT', c1, c2, c4, c5, c8, r0, r1, a0, a1, a3, a7, m3, m7, m9, m8, s0, s1⟩ hno hdep
   have n9 : P 9 = false := Bool.eq_false_iff.2 fun h => Bool.false_ne_true (hno.symm.trans ((m8 (m9 h).2).2.1))
   have S := s0 n9
   have e3 : T'[3]?.getD undef = .pointer (some ⟨g3, 0, none⟩) := by rw [← Array.getD_eq_getD_getElem?]; exact hT'.known 3 _ f3
   refine wp_hide fun K hK => ?_
   go_simp
   exact hK.out _ _ (⟨_, fs, rs, rfl, put hT' n79, fun _ => got hT' (by decide), fun h => (oth (by decide)).trans (c2 h), fun h => (oth (by decide)).trans (c4 h), fun h => (oth (by decide)).trans (c5 h), fun h => (oth (by decide)).trans (c8 h), r0, fun h => by obtain ⟨g6, e1, e2⟩ := r1 h; exact ⟨g6, (oth (by decide)).trans e1, e2⟩, a0, fun h h' => (a1 h h').trans (by rw [oth (by decide)]), fun h h' => (a3 h h').trans (by rw [oth (by decide)]), fun h => (a7 h).trans (by rw [oth (by decide)]), m3, m7, m9, fun h => ⟨(m8 h).1, also_self, (m8 h).2.2⟩, fun _ => S, fun h => (Bool.false_ne_true (n9.symm.trans h)).elim⟩)
  ·rintro P a W ⟨T', fs, rs, rfl, hT', c1, c2, c4, c5, c8, r0, r1, a0, a1, a3, a7, m3, m7, m9, m8, s0, s1⟩ hno hdep
   have n9 : P 9 = false := Bool.eq_false_iff.2 fun h => Bool.false_ne_true (hno.symm.trans ((m3 (m7 (m9 h).1).1).2))
   have S := s0 n9
   have c1' := c1 (hdep ⟨1, .data⟩ (by simp) rfl)
   refine wp_ld rfl c1' Tryz.underlying39 rfl ((cell_of_row _ _ _ _ _ _ (lrow S)).trans stc_get) (Lib.hid ?_)
   exact ⟨_, fs, rs, rfl, put hT' n80, fun h => (oth (by decide)).trans (c1 h), fun _ => got hT' (by decide), fun h => (oth (by decide)).trans (c4 h), fun h => (oth (by decide)).trans (c5 h), fun h => (oth (by decide)).trans (c8 h), r0, fun h => by obtain ⟨g6, e1, e2⟩ := r1 h; exact ⟨g6, (oth (by decide)).trans e1, e2⟩, a0, fun h h' => (a1 h h').trans (by rw [oth (by decide)]), fun h h' => (a3 h h').trans (by rw [oth (by decide)]), fun h => (a7 h).trans (by rw [oth (by decide)]), fun h => ⟨(m3 h).1, also_self⟩, m7, m9, fun h => ⟨(m8 h).1, (m8 h).2.1, also_self, (m8 h).2.2.2⟩, fun _ => S, fun h => (Bool.false_ne_true (n9.symm.trans h)).elim⟩
  ·rintro P a W ⟨T', fs, rs, rfl, hT', c1, c2, c4, c5, c8, r0, r1, a0, a1, a3, a7, m3, m7, m9, m8, s0, s1⟩ hno hdep
   have n9 : P 9 = false := Bool.eq_false_iff.2 fun h => Bool.false_ne_true (hno.symm.trans ((m7 (m9 h).1).1))
   have S := s0 n9
   have p0 : P 0 = true := hdep ⟨0, .data⟩ (by simp) rfl
   have p2 : P 2 = true := hdep ⟨2, .data⟩ (by simp) rfl
   have n7 : P 7 = false := Bool.eq_false_iff.2 fun h => Bool.false_ne_true (hno.symm.trans ((m7 h).1))
   obtain rfl := a1 p0 hno
   have hsh : ShV W (.slice sa st.length sc) (sce st.reverse) := S.ext _ (List.mem_append_right _ (List.mem_of_getElem? hs))
   exact wp_appS S 0 hT9 hE9 rfl (.tmp 78) (.tmp 80) rfl rfl (c2 p2) rfl (hsh.1.src hT9 (sce_one _)) (by rw [sce_len, List.length_reverse]; simp only [List.length_nil]; omega) (by rw [sce_len, List.length_reverse]; simp only [List.length_nil]; omega) fun v' W' S => ⟨_, [xog 9 w v' (sce st.reverse)], rs, rfl, put hT' n81, fun h => (oth (by decide)).trans (c1 h), fun h => (oth (by decide)).trans (c2 h), fun h => (oth (by decide)).trans (c4 h), fun h => (oth (by decide)).trans (c5 h), fun h => (oth (by decide)).trans (c8 h), r0, fun h => by obtain ⟨g6, e1, e2⟩ := r1 h; exact ⟨g6, (oth (by decide)).trans e1, e2⟩, fun h => absurd p0 (by rw [show P 0 = false from h]; decide), fun _ => fun h => absurd h (by simp [also]), fun _ _ => by rw [got hT' (by decide)], fun h => (Bool.false_ne_true (n7.symm.trans h)).elim, fun _ => ⟨p0, p2⟩, fun h => ⟨also_self, (m7 h).2⟩, m9, m8, fun _ => S, fun h => (Bool.false_ne_true (n9.symm.trans h)).elim⟩
  ·rintro P a W ⟨T', fs, rs, rfl, hT', c1, c2, c4, c5, c8, r0, r1, a0, a1, a3, a7, m3, m7, m9, m8, s0, s1⟩ hno hdep
   have n9 : P 9 = false := Bool.eq_false_iff.2 fun h => Bool.false_ne_true (hno.symm.trans ((m8 (m9 h).2).2.2.2.1))
   have S := s0 n9
   refine wp_move rfl (hT'.known 10 _ f10) (Lib.hid ?_)
   exact ⟨_, fs, rs, rfl, put hT' n82, fun h => (oth (by decide)).trans (c1 h), fun h => (oth (by decide)).trans (c2 h), fun _ => got hT' (by decide), fun h => (oth (by decide)).trans (c5 h), fun h => (oth (by decide)).trans (c8 h), r0, fun h => by obtain ⟨g6, e1, e2⟩ := r1 h; exact ⟨g6, (oth (by decide)).trans e1, e2⟩, a0, fun h h' => (a1 h h').trans (by rw [oth (by decide)]), fun h h' => (a3 h h').trans (by rw [oth (by decide)]), fun h => (a7 h).trans (by rw [oth (by decide)]), m3, m7, m9, fun h => ⟨(m8 h).1, (m8 h).2.1, (m8 h).2.2.1, also_self, (m8 h).2.2.2.2⟩, fun _ => S, fun h => (Bool.false_ne_true (n9.symm.trans h)).elim⟩
  ·rintro P a W ⟨T', fs, rs, rfl, hT', c1, c2, c4, c5, c8, r0, r1, a0, a1, a3, a7, m3, m7, m9, m8, s0, s1⟩ hno hdep
   have n9 : P 9 = false := Bool.eq_false_iff.2 fun h => Bool.false_ne_true (hno.symm.trans ((m8 (m9 h).2).2.2.2.2))
   have S := s0 n9
   have hdv : RestV W (.slice da d.length dc) d ∧ ∀ b, (Value.slice da d.length dc).ownBlock = some b → w.heap.size ≤ b := S.ext _ (List.mem_append_right _ (List.mem_of_getElem? hd))
   refine wp_str rfl (c4 (hdep ⟨4, .data⟩ (by simp) rfl)) hdv.1.piece (Lib.hid ?_)
   exact ⟨_, fs, rs, rfl, put hT' n83, fun h => (oth (by decide)).trans (c1 h), fun h => (oth (by decide)).trans (c2 h), fun h => (oth (by decide)).trans (c4 h), fun _ => got hT' (by decide), fun h => (oth (by decide)).trans (c8 h), r0, fun h => by obtain ⟨g6, e1, e2⟩ := r1 h; exact ⟨g6, (oth (by decide)).trans e1, e2⟩, a0, fun h h' => (a1 h h').trans (by rw [oth (by decide)]), fun h h' => (a3 h h').trans (by rw [oth (by decide)]), fun h => (a7 h).trans (by rw [oth (by decide)]), m3, m7, m9, fun h => ⟨(m8 h).1, (m8 h).2.1, (m8 h).2.2.1, (m8 h).2.2.2.1, also_self⟩, fun _ => S, fun h => (Bool.false_ne_true (n9.symm.trans h)).elim⟩
  ·rintro P a W ⟨T', fs, rs, rfl, hT', c1, c2, c4, c5, c8, r0, r1, a0, a1, a3, a7, m3, m7, m9, m8, s0, s1⟩ hno hdep
   have n9 : P 9 = false := Bool.eq_false_iff.2 fun h => Bool.false_ne_true (hno.symm.trans ((m7 (m9 h).1).2))
   have S := s0 n9
   have n7 : P 7 = false := Bool.eq_false_iff.2 fun h => Bool.false_ne_true (hno.symm.trans ((m7 h).2))
   obtain rfl := r0 hno
   have e83 : T'[83]?.getD undef = .string (nst d) := by rw [← Array.getD_eq_getD_getElem?]; exact c5 (hdep ⟨5, .data⟩ (by simp) rfl)
   refine wp_hide fun K hK => ?_
   go_simp
   refine hK.out _ _ ?_
   have S := S.alloc (.cells #[.string (nst d)] 9 (0, 0))
   exact ⟨_, fs, [(W.heap.size, .cells #[.string (nst d)] 9 (0, 0))], rfl, put hT' n84, fun h => (oth (by decide)).trans (c1 h), fun h => (oth (by decide)).trans (c2 h), fun h => (oth (by decide)).trans (c4 h), fun h => (oth (by decide)).trans (c5 h), fun h => (oth (by decide)).trans (c8 h), fun h => absurd h (by simp [also]), fun _ => ⟨W.heap.size, got hT' (by decide), rfl⟩, a0, fun h h' => (a1 h h').trans (by rw [oth (by decide)]), fun h h' => (a3 h h').trans (by rw [oth (by decide)]), fun h => (a7 h).trans (by rw [oth (by decide)]), m3, fun h => ⟨(m7 h).1, also_self⟩, m9, m8, fun _ => S, fun h => (Bool.false_ne_true (n9.symm.trans h)).elim⟩
  ·rintro P a W ⟨T', fs, rs, rfl, hT', c1, c2, c4, c5, c8, r0, r1, a0, a1, a3, a7, m3, m7, m9, m8, s0, s1⟩ hno hdep
   have n9 : P 9 = false := Bool.eq_false_iff.2 fun h => Bool.false_ne_true (hno.symm.trans ((m9 h).1))
   have S := s0 n9
   have p3 : P 3 = true := hdep ⟨3, .data⟩ (by simp) rfl
   have p6 : P 6 = true := hdep ⟨6, .data⟩ (by simp) rfl
   obtain ⟨g6, e84, rfl⟩ := r1 p6
   obtain rfl := a3 p3 hno
   refine wp_appg S 0 hT9 hE9 rfl (.tmp 81) (.tmp 84) rfl rfl e84 rfl (S.at 0 rfl : W.heap[g6]? = some (.cells ([.string (nst d)] : List Value).toArray 9 (0, 0))) rfl (fun u hu => by rw [List.mem_singleton.1 hu]; rfl) (by rw [sce_len, List.length_reverse]; simp only [List.length_cons, List.length_nil]; omega) (by rw [sce_len, List.length_reverse]; simp only [List.length_cons, List.length_nil]; omega) fun v' W' S => ?_
   have ec : sce st.reverse ++ [.string (nst d)] = sce (d :: st).reverse := by simp [sce]
   rw [ec] at S
   exact ⟨_, [xog 9 w v' (sce (d :: st).reverse)], [ro g6 #[.string (nst d)] 9], rfl, put hT' n85, fun h => (oth (by decide)).trans (c1 h), fun h => (oth (by decide)).trans (c2 h), fun h => (oth (by decide)).trans (c4 h), fun h => (oth (by decide)).trans (c5 h), fun h => (oth (by decide)).trans (c8 h), fun h => absurd p6 (by rw [show P 6 = false from h]; decide), fun _ => ⟨g6, (oth (by decide)).trans e84, rfl⟩, fun h => absurd (m3 p3).1 (by rw [show P 0 = false from h]; decide), fun _ h => absurd p3 (by rw [show P 3 = false from h]; decide), fun _ => fun h => absurd h (by simp [also]), fun _ => by rw [got hT' (by decide)], m3, fun _ => ⟨p3, p6⟩, fun h => ⟨also_self, (m9 h).2⟩, fun h => ⟨also_self, (m8 h).2⟩, fun _ => S, fun h => (Bool.false_ne_true (n9.symm.trans h)).elim⟩
  ·rintro P a W ⟨T', fs, rs, rfl, hT', c1, c2, c4, c5, c8, r0, r1, a0, a1, a3, a7, m3, m7, m9, m8, s0, s1⟩ hno hdep
   have n9 : P 9 = false := Bool.eq_false_iff.2 fun h => Bool.false_ne_true (hno.symm.trans ((m9 h).2))
   have S := s0 n9
   have e3 : T'[3]?.getD undef = .pointer (some ⟨g3, 0, none⟩) := by rw [← Array.getD_eq_getD_getElem?]; exact hT'.known 3 _ f3
   have p1 : P 1 = true := hdep ⟨1, .phase⟩ (by simp) rfl
   have p2 : P 2 = true := hdep ⟨2, .phase⟩ (by simp) rfl
   have p4 : P 4 = true := hdep ⟨4, .phase⟩ (by simp) rfl
   have p5 : P 5 = true := hdep ⟨5, .phase⟩ (by simp) rfl
   have p7 : P 7 = true := hdep ⟨7, .phase⟩ (by simp) rfl
   refine wp_hide fun K hK => ?_
   go_simp
   exact hK.out _ _ (⟨_, fs, rs, rfl, put hT' n86, fun h => (oth (by decide)).trans (c1 h), fun h => (oth (by decide)).trans (c2 h), fun h => (oth (by decide)).trans (c4 h), fun h => (oth (by decide)).trans (c5 h), fun _ => got hT' (by decide), r0, fun h => by obtain ⟨g6, e1, e2⟩ := r1 h; exact ⟨g6, (oth (by decide)).trans e1, e2⟩, a0, fun h h' => (a1 h h').trans (by rw [oth (by decide)]), fun h h' => (a3 h h').trans (by rw [oth (by decide)]), fun h => (a7 h).trans (by rw [oth (by decide)]), m3, m7, fun h => ⟨(m9 h).1, also_self⟩, fun _ => ⟨p7, p1, p2, p4, p5⟩, fun _ => S, fun h => (Bool.false_ne_true (n9.symm.trans h)).elim⟩)
  ·rintro P a W ⟨T', fs, rs, rfl, hT', c1, c2, c4, c5, c8, r0, r1, a0, a1, a3, a7, m3, m7, m9, m8, s0, s1⟩ hno hdep
   have p8 : P 8 = true := hdep ⟨8, .data⟩ (by simp) rfl
   obtain ⟨p7, -⟩ := m8 p8
   have S := s0 hno
   obtain ⟨g6, e84, rfl⟩ := r1 (m7 p7).2
   obtain rfl := a7 p7
   obtain ⟨A, cc, ev⟩ := (S.og 0 rfl).shape
   have hk2 : ([ro g6 #[.string (nst d)] 9] ++ L)[k + 1]? = some (ro g3 (stc (.slice sa st.length sc) wv h) 41) := hk
   refine wp_put1 (v := T'.getD 85 undef) rfl (c8 p8) rfl (by rw [ev]; rfl) (by rw [ev]; rfl) (by kernel_rfl) ((cell_of_row _ _ _ _ _ _ (S.at (k + 1) hk2)).trans stc_get) (S.free (k + 1) hk2 0) ?_
   have S2 := S.setCell (k + 1) hk2 hg 0 (T'.getD 85 undef)
   have es : (stc (.slice sa st.length sc) wv h).setIfInBounds 0 (T'.getD 85 undef) = stc (T'.getD 85 undef) wv h := stc_set
   rw [es] at S2
   exact ⟨T', _, _, rfl, hT', c1, c2, c4, c5, c8, fun h => absurd (m7 p7).2 (by rw [show P 6 = false from h]; decide), fun _ => ⟨g6, e84, rfl⟩, fun h => absurd (m3 (m7 p7).1).1 (by rw [show P 0 = false from h]; decide), fun _ h => absurd (m7 p7).1 (by rw [show P 3 = false from h]; decide), fun _ h => absurd p7 (by rw [show P 7 = false from h]; decide), fun _ => rfl, m3, m7, fun _ => ⟨p7, p8⟩, m8, fun h => absurd h (by simp [also]), fun _ => S2⟩
 ·rintro P a W hall ⟨T', fs, rs, rfl, hT', c1, c2, c4, c5, c8, r0, r1, a0, a1, a3, a7, m3, m7, m9, m8, s0, s1⟩
  have S := s1 (hall 9 (by decide))
  obtain ⟨g6, e84, rfl⟩ := r1 (hall 6 (by decide))
  obtain rfl := a7 (hall 7 (by decide))
  obtain ⟨A, cc, ev⟩ := (S.og 0 rfl).shape
  rw [sce_len, List.length_reverse, List.length_cons] at ev
  rw [ev] at S
  exact kont (lt0 A (st.length + 1) cc) rfl T' W hT' S.tl
section
variable {w W : World} {L : List (Nat × Obj)} {X : List Xt} {sv wv : Value} {h : Array Value} {s t : Sc.St} {res : Except Nat Sc.St} {e0 : Nat} {fid : FuncId} {vs : Array Value} {st st2 : List (List Nat)} {rop : Except Nat (List (List Nat))}
theorem Sx.three (S : Sx w L X W) (i j k : Nat) {a b c : Xt} (hi : X[i]? = some a) (hj : X[j]? = some b) (hk : X[k]? = some c) (ha : a.ex = false := by rfl) (hb : b.ex = false := by rfl) (hc : c.ex = false := by rfl) : Sx w L [a, b, c] W := by
 have hm : ∀ q, q ∈ [a, b, c] → q ∈ X ∧ q.ex = false := fun q hq => by
  simp only [List.mem_cons, List.not_mem_nil, or_false] at hq
  rcases hq with rfl | rfl | rfl
  ·exact ⟨List.mem_of_getElem? hi, ha⟩
  ·exact ⟨List.mem_of_getElem? hj, hb⟩
  ·exact ⟨List.mem_of_getElem? hk, hc⟩
 have he : ∀ p q : Xt, p.ex = false → q.ex = false → (p.ex || q.ex) = true → ∀ b, p.foot b → ¬ q.foot b := fun p q h1 h2 h => by rw [h1, h2] at h; cases h
 exact ⟨S.below, S.rows, S.apart, fun q hq => S.ext q (hm q hq).1, fun p hp q hq => S.sep p hp q (hm q hq).1, fun q hq => S.bound q (hm q hq).1,
  List.Pairwise.cons (fun q hq => he _ _ ha (hm q (List.mem_cons_of_mem _ hq)).2) (List.Pairwise.cons (fun q hq => he _ _ hb (hm q (List.mem_cons_of_mem _ (List.mem_cons_of_mem _ hq))).2) (List.Pairwise.cons (fun q hq => by cases hq) List.Pairwise.nil))⟩
theorem ShV.form {z : Lt} {cs : List Value} {m : Nat} (h : ShV W z.sl cs) (hm : cs.length = m) : z.sl = .slice z.a m z.c := by
 obtain ⟨-, A, c, e, -⟩ := h
 have e1 : z.n = cs.length := by injection e
 unfold Lt.sl; rw [e1, hm]
theorem Ali.up {v v0 : Value} {cs c0 : List Value} (h : Ali W v cs v0 c0) (hb : w.heap.size ≤ W.heap.size) : Ali w v cs v0 c0 := fun h0 b e => (h h0 b e).imp (fun h => Nat.le_trans hb h) id
theorem Ali.trans {v v0 v1 : Value} {cs c0 c1 : List Value} (h : Ali w v cs v0 c0) (h2 : Ali w v0 c0 v1 c1) : Ali w v cs v1 c1 := fun h0 b e => (h h0 b e).elim Or.inl fun ⟨h3, h4⟩ => h2 h3 b h4
theorem calls_bre (he : res = .error e0) (S : Sx w L X W) (hc : Calls Tryz.prog fid vs W (BrQ W sv wv h s res)) : Calls Tryz.prog fid vs W fun e w' => ∃ z : Lt, e = .returned (.tuple #[.agg (stc z.sl z.s2.sl h), vi e0]) ∧ Sx w L X w' := by
 subst he
 exact hc.mono fun e w' ⟨hb, z, hz⟩ => ⟨z, hz, S.keep hb⟩
theorem Sx.clr {b : Nat} (S : Sx w L X W) (o : W.heap.size ≤ b ∨ ∃ q, q ∈ X ∧ q.ex = false ∧ q.foot b) : (∀ p, p ∈ L → b ≠ p.1) ∧ ∀ r, r ∈ X → r.ex = true → ¬ r.foot b := by
 refine ⟨fun p hp e => ?_, fun r hr hx h3 => ?_⟩
 ·rcases o with h1 | ⟨q, hq, -, h2⟩
  ·have := lt_of_block (S.rows p hp); omega
  ·exact S.sep p hp q hq (e ▸ h2)
 ·rcases o with h1 | ⟨q, hq, hqe, h2⟩
  ·have := S.bound r hr b h3; omega
  ·have hne : q ≠ r := fun e => by subst e; rw [hx] at hqe; cases hqe
   exact Sx.excl_of S.excl hq hr hne (by rw [hx, Bool.or_true]) b h2 h3
theorem Sx.addsl2 {w' : World} {v v2 : Value} {cs c2 : List Value} (S : Sx w L X W) (hb : Below W.heap.size W w') (h1 : ShV w' v cs) (o1 : cs ≠ [] → ∀ b, v.ownBlock = some b → W.heap.size ≤ b ∨ ∃ q, q ∈ X ∧ q.ex = false ∧ q.foot b) (h2 : ShV w' v2 c2) (o2 : c2 ≠ [] → ∀ b, v2.ownBlock = some b → W.heap.size ≤ b ∨ ∃ q, q ∈ X ∧ q.ex = false ∧ q.foot b) : Sx w L (xsl v cs :: xsl v2 c2 :: X) w' :=
 (S.addsl hb h2 o2).addX _ h1 (fun p hp hf => (S.clr (o1 hf.1 _ hf.2)).1 p hp rfl) (fun b hf => h1.foot b hf.1 hf.2) (fun r hr hx b hf => by
  rcases List.mem_cons.1 hr with rfl | hr
  ·simp [xsl] at hx
  ·exact (S.clr (o1 hf.1 b hf.2)).2 r hr (by simpa [xsl] using hx))
theorem calls_bro (he : res = .ok t) (S : Sx w L X W) (i j : Nat) (hi : X[i]? = some (xsl sv (sce s.stack.reverse))) (hj : X[j]? = some (xsl wv (bce s.ways.reverse))) (hc : Calls Tryz.prog fid vs W (BrQ W sv wv h s res)) :
 Calls Tryz.prog fid vs W fun e w' => ∃ z : {z : Lt // Ali w (.slice z.a t.stack.length z.c) (sce t.stack.reverse) sv (sce s.stack.reverse)}, e = .returned (.tuple #[.agg (stc (.slice z.1.a t.stack.length z.1.c) (.slice z.1.p.1 t.ways.length z.1.p.2.2) h), .int .i64 0]) ∧ Sx w L (xsl (.slice z.1.a t.stack.length z.1.c) (sce t.stack.reverse) :: xsl (.slice z.1.p.1 t.ways.length z.1.p.2.2) (bce t.ways.reverse) :: X) w' := by
 subst he
 refine hc.mono fun e w' ⟨hb, z, he, h1, h2, h3, h4⟩ => ?_
 have f1 := h1.form (m := t.stack.length) (by rw [sce_len, List.length_reverse])
 have f2 : z.s2.sl = .slice z.p.1 t.ways.length z.p.2.2 := h3.form (m := t.ways.length) (by rw [bce_len, List.length_reverse])
 rw [f1] at he h1 h2
 rw [f2] at he h3 h4
 exact ⟨⟨z, h2.up S.below.size⟩, he, S.addsl2 hb h1 (fun h0 b e => (h2 h0 b e).imp id fun h5 => ⟨_, List.mem_of_getElem? hi, rfl, h5⟩) h3 (fun h0 b e => (h4 h0 b e).imp id fun h5 => ⟨_, List.mem_of_getElem? hj, rfl, h5⟩)⟩
theorem calls_ope {l : Value} (he : rop = .error e0) (S : Sx w L X W) (hc : Calls Tryz.prog fid vs W (OpQ W l rop)) : Calls Tryz.prog fid vs W fun e w' => ∃ z : Lt, e = .returned (.tuple #[z.sl, vi e0]) ∧ Sx w L X w' := by
 subst he
 exact hc.mono fun e w' ⟨hb, z, hz⟩ => ⟨z, hz, S.keep hb⟩
theorem calls_opo {sa : Option Addr} {sk : Nat} (ho : rop = .ok st2) (S : Sx w L X W) (i : Nat) (hi : X[i]? = some (xsl (.slice sa st.length sk) (sce st.reverse))) (hc : Calls Tryz.prog fid vs W (OpQ W (.slice sa st.length sk) rop)) : Calls Tryz.prog fid vs W fun e w' => ∃ z : {z : Lt // Ali w (.slice z.a st2.length z.c) (sce st2.reverse) (.slice sa st.length sk) (sce st.reverse)}, e = .returned (.tuple #[.slice z.1.a st2.length z.1.c, .int .i64 0]) ∧ Sx w L (xsl (.slice z.1.a st2.length z.1.c) (sce st2.reverse) :: X) w' := by
 subst ho
 refine hc.mono fun e w' ⟨hb, z, he, h1, h2⟩ => ?_
 have f1 := h1.form (m := st2.length) (by rw [sce_len, List.length_reverse])
 rw [f1] at he h1 h2
 have hA : sce st2.reverse ≠ [] → ∀ b, (Value.slice z.a st2.length z.c).ownBlock = some b → W.heap.size ≤ b ∨ (sce st.reverse ≠ [] ∧ (Value.slice sa st.length sk).ownBlock = some b) := fun h0 b e => h2.elim (fun h3 => by
  injection h3 with e1 e2 e3
  refine Or.inr ⟨fun h4 => h0 (List.length_eq_zero_iff.1 ?_), by rw [← e1, ← e2, ← e3]; exact e⟩
  have h5 := congrArg List.length h4
  rw [sce_len, List.length_reverse, List.length_nil] at h5
  rw [sce_len, List.length_reverse]; omega) fun h3 => Or.inl (h3 b e)
 exact ⟨⟨z, fun h0 b e => (hA h0 b e).imp (Nat.le_trans S.below.size) id⟩, he, S.addsl hb h1 fun h0 b e => (hA h0 b e).imp id fun h5 => ⟨_, List.mem_of_getElem? hi, rfl, h5⟩⟩
theorem Sx.sl3 {v v2 v3 : Value} {cs c2 : List Value} {bs : List Nat} (h1 : ShV w v cs) (h2 : ShV w v2 c2) (h3 : PieceV w w.heap.size v3 bs) : Sx w [] [xsl v cs, xsl v2 c2, xpc w.heap.size v3 bs] w :=
 ((Sx.ofpc h3).addX (xsl v2 c2) h2 (fun _ h => by cases h) (fun b hf => h2.foot b hf.1 hf.2) (fun r hr hx => by rw [List.mem_singleton.1 hr] at hx; cases hx)).addX (xsl v cs) h1 (fun _ h => by cases h) (fun b hf => h1.foot b hf.1 hf.2) (fun r hr hx => by
  simp only [List.mem_cons, List.not_mem_nil, or_false] at hr
  rcases hr with rfl | rfl <;> cases hx)
def AlQ (w : World) (sv : Value) (h : Array Value) (s : Sc.St) (res : Except Nat Sc.St) (e : Ending) (w' : World) : Prop := Below w.heap.size w w' ∧ ∃ z : Lt, match res with
 | .error q => e = .returned (.tuple #[.agg (stc z.sl z.s2.sl h), .int .i64 ((q : Nat) : Int)])
 | .ok t => e = .returned (.tuple #[.agg (stc z.sl z.s2.sl h), .int .i64 0]) ∧ ShV w' z.sl (sce t.stack.reverse) ∧ Ali w z.sl (sce t.stack.reverse) sv (sce s.stack.reverse) ∧ ShV w' z.s2.sl (bce t.ways.reverse) ∧ t.ways = [] ∧ t.stack.length ≤ 100 ∧ Sc.Fit t.stack
theorem AlQ.err {q : Nat} {x y : Lt} (hr : res = .error q) (hb : Below w.heap.size w W) : AlQ w sv h s res (.returned (.tuple #[.agg (stc x.sl y.sl h), vi q])) W := by subst hr; exact ⟨hb, lt2 x y, rfl⟩
theorem AlQ.ok {x y : Lt} (hr : res = .ok t) (S : Sx w L X W) (i j : Nat) (hi : X[i]? = some (xsl x.sl (sce t.stack.reverse))) (hj : X[j]? = some (xsl y.sl (bce t.ways.reverse))) (ha : Ali w x.sl (sce t.stack.reverse) sv (sce s.stack.reverse)) (hw : t.ways = []) (hl : t.stack.length ≤ 100) (hf : Sc.Fit t.stack) : AlQ w sv h s res (.returned (.tuple #[.agg (stc x.sl y.sl h), .int .i64 0])) W := by
 subst hr; exact ⟨S.below, lt2 x y, rfl, S.sl i hi, ha, S.sl j hj, hw, hl, hf⟩
end
section
variable {f : Func} {r i N : Nat} {Q : Exit → Act → World → Prop} {F : List (Nat × Value)} {w : World} {L : List (Nat × Obj)} {X : List Xt}
theorem At.cutd (n : Nat) (hs : List Nat) (d : Nat) (j : Nat) {B m c lo : Nat} {bs : List Nat} (hj : X[j]? = some (xpc B (.slice A m c) bs)) (hm : m = bs.length) (h1 : lo ≤ bs.length) (hc : bs.length ≤ c)
 (k : ∀ a : Option Addr, At Tryz.prog f r (i + n + 1) Q N ((d, .slice a (bs.drop lo).length (c - lo)) :: F) w L (xpc B (.slice a (bs.drop lo).length (c - lo)) (bs.drop lo) :: X))
 (hk : ∀ T T', opL Tryz.prog f r i n L F hs T (semB T') = opR Tryz.prog f r i n L F hs T (d, (do pure (.value (← Instr.sliceAt 22 (.slice A m c) (some (.int .i64 (lo : Int))) none none)))) := by intro T T'; kernel_rfl) : At Tryz.prog f r i Q N F w L X :=
 At.cutl n hs d j hj hm h1 hc (fun y hn hc => by
  have e : y.sl = .slice y.a (bs.drop lo).length (c - lo) := by unfold Lt.sl; rw [hn, hc, List.length_drop]
  rw [e]; exact k y.a) hk
end
theorem all_r21k {g3 k : Nat} {sa da : Option Addr} {sc dc : Nat} {wv : Value} {h : Array Value} {st : List (List Nat)} {d : List Nat} {jd js : Nat} {v0 : Value} {c0 : List Value}
 (hF : [3, 10].map (look F) = [some (pt g3), some (.slice da d.length dc)]) (hn : [78, 79, 80, 81, 82, 83, 84, 85, 86].all (fun q => (look F q).isNone) = true)
 (hk : L[k]? = some (ro g3 (stc (.slice sa st.length sc) wv h) 41)) (hg : w.heap.size ≤ g3) (hs : X[js]? = some (xsl (.slice sa st.length sc) (sce st.reverse))) (hd : X[jd]? = some (xown w (.slice da d.length dc) d)) (hl : st.length ≤ 1000)
 (kont : ∀ (a : Option Addr) (c : Nat), Ali w (.slice a (d :: st).length c) (sce (d :: st).reverse) v0 c0 → ∀ T W, Fq 112 T F → Sx w (L.set k (ro g3 (stc (.slice a (d :: st).length c) wv h) 41)) (xsl (.slice a (d :: st).length c) (sce (d :: st).reverse) :: X) W → Q .normal ⟨T, []⟩ W) : Cd Tryz.prog (rgn Tryz.f12 21) Q 112 F w L X :=
 all_r21 hF hn hk hg hs hd hl fun y hy T W hT S => by
  have e : y.sl = .slice y.a (d :: st).length y.c := by unfold Lt.sl; rw [hy]; rfl
  rw [e] at S
  exact kont y.a y.c (fun _ b hb => Or.inl (S.ogown 0 rfl b hb)) T W hT S.ogsl
theorem pushes_v {c : Nat} {b : Bool} (h : Sc.pushes c = b) (w : World) : Calls Tryz.prog 20 #[vcz c] w fun e w' => e = .returned (.bool b) ∧ Below w.heap.size w w' := h ▸ pushes_c c w
theorem psh_no {c k : Nat} (h : Sc.pushes c = true) (hk : 96 < k) : (((c : Nat) : Int) == ((k : Nat) : Int)) = false := by
 have h2 : c ≤ 77 ∨ (81 ≤ c ∧ c ≤ 96) := by unfold Sc.pushes at h; simpa using h
 exact beq_eq_false_iff_ne.2 (by omega)
theorem isbr_y {c : Nat} (h : c = 99 ∨ c = 100 ∨ c = 103 ∨ c = 104) : true = Sc.isBr c := by unfold Sc.isBr; exact (decide_eq_true h).symm
theorem isbr_l {c : Nat} (h1 : c ≠ 99) (h2 : c ≠ 100) (h3 : c ≠ 103) : (((c : Nat) : Int) == 104) = Sc.isBr c := by
 unfold Sc.isBr
 rw [Bool.eq_iff_iff, beq_iff_eq, decide_eq_true_iff]; omega
theorem all_ende {pu : Bool} {n : Nat} {s : Sc.St} {b : List Nat} (hb : b.length = 0) (hw : 0 < s.ways.length) : Sc.all sg pu n s b = .error 71 := by
 rw [List.length_eq_zero_iff.1 hb, Sc.all_nil, if_neg (fun e => by rw [e] at hw; exact absurd hw (by decide))]
theorem all_endo {pu : Bool} {n : Nat} {s : Sc.St} {b : List Nat} (hb : b.length = 0) (hw : s.ways = []) : Sc.all sg pu n s b = .ok s := by
 rw [List.length_eq_zero_iff.1 hb, Sc.all_nil, if_pos hw]
theorem be_ne0 {q : Nat} (h : q ≠ 0) : (((q : Nat) : Int) != 0) = true := by simpa [bne] using h
structure AlS (sg : List Nat → List Nat → Bool) (pu : Bool) (s0 : Sc.St) (b0 : List Nat) (w : World) (v0 : Value) where
 n : Nat
 s : Sc.St
 b : List Nat
 ba : Option Addr
 bk : Nat
 sa : Option Addr
 sk : Nat
 wa : Option Addr
 wk : Nat
 hb8 : ∀ y, y ∈ b → y < 256
 hbc : b.length ≤ bk
 hbl : b.length ≤ 100000
 fit : Sc.Fit s.stack
 hst : s.stack.length ≤ 100
 hn : n ≤ 100
 hws : s.ways.length ≤ n
 eq : Sc.all sg pu 0 s0 b0 = Sc.all sg pu n s b
 al : Ali w (.slice sa s.stack.length sk) (sce s.stack.reverse) v0 (sce s0.stack.reverse)
theorem all7_c {c : Nat → Int} {pu : Bool} {s0 : Sc.St} {b0 : List Nat} {A0 A1 bA : Option Addr} {k0 k1 bK : Nat} (hc : Bytes8 c) (hfit : Sc.Fit s0.stack) (hst : s0.stack.length ≤ 100) (hw0 : s0.ways = []) (h8 : ∀ y, y ∈ b0 → y < 256) (hbc : b0.length ≤ bK) (hbl : b0.length ≤ 100000) (w : World) (hs : ShV w (.slice A0 s0.stack.length k0) (sce s0.stack.reverse)) (hv : ShV w (.slice A1 s0.ways.length k1) (bce s0.ways.reverse)) (hp : PieceV w w.heap.size (.slice bA b0.length bK) b0) : Calls Tryz.prog 12 #[.agg (stc (.slice A0 s0.stack.length k0) (.slice A1 s0.ways.length k1) (row32 c)), .slice bA b0.length bK, .bool pu] w (AlQ w (.slice A0 s0.stack.length k0) (row32 c) s0 (Sc.all (sgv c) pu 0 s0 b0)) := by
 refine enterQ 112 (fun q => .seq (q 0) (.seq (q 1) (.seq (.block 0 (.loop (.seq (.seq (q 2) (.cond (.tmp 15) .skip (.exit 0))) (.block 1 (.seq (q 3) (.seq (.seq (q 4) (.cond (.tmp 24) (.seq (q 5) .ret) .skip)) (.seq (q 6) (.seq (.seq (q 7) (.cond (.tmp 35) (.seq (q 8) .ret) .skip)) (.seq (.seq (q 9) (.cond (.tmp 39) (.seq (q 10) .ret) .skip)) (.seq (.seq (q 11) (.cond (.tmp 43) (.seq (q 12) (.seq (q 13) (.cond (.tmp 47) (.seq (q 14) .ret) .skip))) .skip)) (.seq (.seq (q 15) (.cond (.tmp 62) (.seq (q 16) (.seq (.seq (q 17) (.cond (.tmp 70) (.seq (q 18) .ret) .skip)) (.exit 1))) .skip)) (.seq (.seq (q 19) (.cond (.tmp 75) (.exit 1) .skip)) (.seq (.seq (q 20) (.cond (.tmp 77) (q 21) (.seq (q 22) (.seq (q 23) (.cond (.tmp 98) (.seq (q 24) .ret) .skip))))) (.seq (q 25) (.cond (.tmp 104) (.seq (q 26) .ret) .skip))))))))))))))) (.seq (.seq (q 27) (.cond (.tmp 109) (.seq (q 28) .ret) .skip)) (.seq (q 29) .ret))))) (Sx.sl3 hs hv hp) Tryz.func12 ?_
 refine Cd.sr (At.new 0 [] 3 (stc (.slice A0 s0.stack.length k0) (.slice A1 s0.ways.length k1) (row32 c)) 41 fun g3 h3 => At.new 0 [] 6 (stc (.slice none 0 0) (.slice none 0 0) (row32 (fun _ => 0))) 41 fun g6 h6 => At.run 1 [] [] (At.nx (Cd.sr (At.run 1 [] [(8, .int .i64 0)] (At.nx (Cd.seq ?_))))))
 refine Cd.blk (Cd.loop (ι := AlS (sgv c) pu s0 b0 w (.slice A0 s0.stack.length k0)) (fun i => i.b.length) (fun i => [(1, .slice i.ba i.b.length i.bk), (2, .bool pu), (3, pt g3), (6, pt g6), (8, vi i.n)]) (fun i => [ro g6 (stc (.slice none 0 0) (.slice none 0 0) (row32 (fun _ => 0))) 41, ro g3 (stc (.slice i.sa i.s.stack.length i.sk) (.slice i.wa i.s.ways.length i.wk) (row32 c)) 41]) (fun i => [xsl (.slice i.sa i.s.stack.length i.sk) (sce i.s.stack.reverse), xsl (.slice i.wa i.s.ways.length i.wk) (bce i.s.ways.reverse), xpc w.heap.size (.slice i.ba i.b.length i.bk) i.b]) (⟨0, s0, b0, bA, bK, A0, k0, A1, k1, h8, hbc, hbl, hfit, hst, Nat.zero_le _, (by rw [hw0]; exact Nat.le_refl _), rfl, Ali.same⟩) (fun _ S => S) (fun i => ?_))
 obtain ⟨n, ⟨st, ws⟩, b, ba, bk, sa, sk, wa, wk, hb8, hbc, hbl, fit, hst, hn, hws, eq, al⟩ := i
 dsimp only at hb8 hbc hbl fit hst hn hws eq al
 refine Cd.seq (Cd.sr (At.run 3 [] [(15, .bool (decide (((b.length : Nat) : Int) > 0)))] (At.nx (Cd.sp 15 (decide (((b.length : Nat) : Int) > 0)) (fun hb => ?_) fun hb => ?_))))
 ·refine Cd.ct (Cd.sk (Cd.sh (Cd.blk (Cd.sr ?_))))
  have hne : b ≠ [] := fun e => by rw [e] at hb; exact absurd hb (by decide)
  cases hx : nxt b with
  | none =>
   refine At.call 1 [] 18 (fun W S => wnext0 hx (r7_next_k _ b W (S.pc 2 rfl) (capof hbc) hb8 (by omega))) (At.run 9 [] [(9, .int .u8 0), (10, .slice none 0 0), (11, .int .i64 0), (12, .int .i64 71)] (At.nx (Cd.seq (Cd.sr (At.run 2 [] [(24, .bool true)] (At.nx (Cd.ct (Cd.sr ?_))))))))
   exact At.run 2 [1] [(25, .agg (stc (.slice sa st.length sk) (.slice wa ws.length wk) (row32 c))), (26, .int .i64 71)] (At.st 0 [] 0 (stc (.slice sa st.length sk) (.slice wa ws.length wk) (row32 c)) h6 (At.run 1 [] [(7, .int .i64 71)] (At.nx (Cd.rv (rt (rb (rt (rb (rt r0))))) [] (.tuple #[.agg (stc (.slice sa st.length sk) (.slice wa ws.length wk) (row32 c)), .int .i64 71]) fun W S => AlQ.err (x := lt0 sa st.length sk) (y := lt0 wa ws.length wk) (q := 71) (eq.trans (all_none hne hx)) S.below))))
  | some q =>
   obtain ⟨cd, d, u⟩ := q
   refine At.callX 1 [] 18 (fun W S => wnext hx S (r7_next_k _ b W (S.pc 2 rfl) (capof hbc) hb8 (by omega))) fun ⟨y, hy⟩ => At.run 9 [] [(9, vcz cd), (10, .slice y.a d.length y.c), (11, vi u), (12, .int .i64 0)] (At.nx (Cd.seq (Cd.sr (At.run 2 [] [(24, .bool false)] (At.nx (Cd.cf (Cd.sk ?_)))))))
   refine Cd.sh (Cd.sr (At.cutd 2 [] 29 (lo := u) 3 rfl rfl (nxt_le hx).2.1 hbc fun ba' => At.run 1 [] [(1, .slice ba' ((b.drop u).length) (bk - u))] (At.nx (Cd.seq (Cd.seqj (ι := {t : Bool // t = (pu && !(Sc.pushes cd))}) (fun tp => [(1, .slice ba' ((b.drop u).length) (bk - u)), (2, .bool pu), (3, pt g3), (6, pt g6), (8, vi n), (9, vcz cd), (10, .slice y.a d.length y.c), (11, vi u), (12, .int .i64 0), (15, .bool true), (18, .tuple #[vcz cd, .slice y.a d.length y.c, vi u, .int .i64 0]), (24, .bool false), (29, .slice ba' ((b.drop u).length) (bk - u)), (35, .bool tp.1)]) (fun tp => [ro g6 (stc (.slice none 0 0) (.slice none 0 0) (row32 (fun _ => 0))) 41, ro g3 (stc (.slice sa st.length sk) (.slice wa ws.length wk) (row32 c)) 41]) (fun tp => [xpc w.heap.size (.slice ba' ((b.drop u).length) (bk - u)) (b.drop u), xown w (.slice y.a d.length y.c) d, xsl (.slice sa st.length sk) (sce st.reverse), xsl (.slice wa ws.length wk) (bce ws.reverse), xpc w.heap.size (.slice ba b.length bk) b]) (fun tp => ?_) ?_)))))
   ·refine Cd.sp 35 tp.1 (fun hb1 => ?_) fun hb1 => ?_
    ·exact Cd.ct (Cd.sr (At.st 1 [1] 0 (stc (.slice sa st.length sk) (.slice wa ws.length wk) (row32 c)) h6 (At.run 1 [] [(7, .int .i64 71)] (At.nx (Cd.rv (rt (rb (rt (rb (rt r0))))) [] (.tuple #[.agg (stc (.slice sa st.length sk) (.slice wa ws.length wk) (row32 c)), .int .i64 71]) fun W S => AlQ.err (x := lt0 sa st.length sk) (y := lt0 wa ws.length wk) (q := 71) (eq.trans (all_push hne hx (by have q := tp.2.symm.trans hb1; simpa using q))) S.below)))))
    refine Cd.cf (Cd.sk (Cd.sh (Cd.seq (Cd.sr ?_))))
    have hpn : ¬ (pu = true ∧ Sc.pushes cd = false) := by have q := tp.2.symm.trans hb1; simpa using q
    refine At.run 3 [] [(39, .bool (decide (((d.length : Nat) : Int) > 520)))] (At.nx (Cd.sp 39 (decide (((d.length : Nat) : Int) > 520)) (fun hb2 => ?_) fun hb2 => ?_))
    ·exact Cd.ct (Cd.sr (At.st 1 [1] 0 (stc (.slice sa st.length sk) (.slice wa ws.length wk) (row32 c)) h6 (At.run 1 [] [(7, .int .i64 73)] (At.nx (Cd.rv (rt (rb (rt (rb (rt r0))))) [] (.tuple #[.agg (stc (.slice sa st.length sk) (.slice wa ws.length wk) (row32 c)), .int .i64 73]) fun W S => AlQ.err (x := lt0 sa st.length sk) (y := lt0 wa ws.length wk) (q := 73) (eq.trans (all_stop hne hx hpn (wdA (by have q := of_decide_eq_true hb2; omega)))) S.below)))))
    refine Cd.cf (Cd.sk (Cd.sh (Cd.seq (Cd.sr ?_))))
    have hA : ¬ 520 < d.length := by have q := of_decide_eq_false hb2; omega
    rcases bft (Sc.pushes cd) with hP | hP
    ·refine At.call 1 [] 42 (fun W S => pushes_v hP W) (At.run 1 [] [(43, .bool false)] (At.nx (Cd.cf (Cd.sk (Cd.sh (Cd.seq (Cd.sr (At.ar 2 [] 50 (.bool (((cd : Nat) : Int) == 99)) (.bool false) (congrArg _ (psh_no (k := 99) hP (by decide))) ?_))))))))
     refine At.run 2 [] [(51, .bool false), (52, vcz cd)] (At.ar 1 [] 53 (.bool (((cd : Nat) : Int) == 100)) (.bool false) (congrArg _ (psh_no (k := 100) hP (by decide))) (At.run 3 [] [(55, .bool false), (56, vcz cd)] (At.ar 1 [] 57 (.bool (((cd : Nat) : Int) == 103)) (.bool false) (congrArg _ (psh_no (k := 103) hP (by decide))) (At.run 3 [] [(59, .bool false), (60, vcz cd)] (At.ar 1 [] 61 (.bool (((cd : Nat) : Int) == 104)) (.bool false) (congrArg _ (psh_no (k := 104) hP (by decide))) (At.run 1 [] [(62, .bool false)] (At.nx (Cd.cf ?_))))))))
     refine Cd.sk (Cd.sh (Cd.seq (Cd.sr (At.call 1 [1] 74 (fun W S => goes7_c (c := c) (sv := .slice sa st.length sk) (by omega) W (S.sl 3 rfl)) (At.run 1 [] [(75, .bool (!(Sc.goes ws)))] (At.nx (Cd.sp 75 (!(Sc.goes ws)) (fun hb3 => ?_) fun hb3 => ?_)))))))
     ·refine Cd.ct (Cd.ex ?_)
      have hw : Sc.word (sgv c) n ⟨st, ws⟩ cd d = .ok (n, ⟨st, ws⟩) := wdB3 hA hP (by simpa using hb3)
      have hf := word_fit hw fit hst hws hn (nxt_fit hx hb8).2
      exact again_of (Q := fun _ _ _ => True) (⟨n, ⟨st, ws⟩, b.drop u, ba', bk - u, sa, sk, wa, wk, fun y hy => hb8 y (List.mem_of_mem_drop hy), (by rw [List.length_drop]; omega), (by rw [List.length_drop]; omega), hf.1, hf.2.1, hf.2.2.2, hf.2.2.1, eq.trans (all_step hne hx hpn hw), al⟩) (by show (b.drop u).length < b.length; have q := nxt_le hx; rw [List.length_drop]; omega) (fun _ S => S.three 2 3 0 rfl rfl rfl)
     refine Cd.cf (Cd.sk (Cd.sh (Cd.seq (Cd.sr ?_))))
     have hG : Sc.goes ws = true := by simpa using hb3
     refine At.call 1 [] 77 (fun W S => pushes_v hP W) (At.nx (Cd.ct (all_r21k (g3 := g3) (k := 1) (jd := 1) (js := 2) (v0 := (.slice A0 s0.stack.length k0)) (c0 := sce s0.stack.reverse) (by kernel_rfl) (by kernel_rfl) rfl h3 rfl rfl (by omega) fun pa pk hal => Cd.sh (Cd.as (L' := [ro g6 (stc (.slice none 0 0) (.slice none 0 0) (row32 (fun _ => 0))) 41, ro g3 (stc (.slice pa ((d :: st).length) pk) (.slice wa ws.length wk) (row32 c)) 41]) (X' := [xsl (.slice pa ((d :: st).length) pk) (sce (d :: st).reverse), xpc w.heap.size (.slice ba' ((b.drop u).length) (bk - u)) (b.drop u), xown w (.slice y.a d.length y.c) d, xsl (.slice sa st.length sk) (sce st.reverse), xsl (.slice wa ws.length wk) (bce ws.reverse), xpc w.heap.size (.slice ba b.length bk) b]) (fun _ S => S) (Cd.sr (At.run 4 [0, 1] [(104, .bool (decide ((((d :: st).length : Nat) : Int) > 100)))] (At.nx ?_)))))))
     refine Cd.sp 104 (decide ((((d :: st).length : Nat) : Int) > 100)) (fun hb4 => ?_) fun hb4 => ?_
     ·exact Cd.ct (Cd.sr (At.st 1 [1] 0 (stc (.slice pa ((d :: st).length) pk) (.slice wa ws.length wk) (row32 c)) h6 (At.run 1 [] [(7, .int .i64 73)] (At.nx (Cd.rv (rb (rt (rb (rt r0)))) [] (.tuple #[.agg (stc (.slice pa ((d :: st).length) pk) (.slice wa ws.length wk) (row32 c)), .int .i64 73]) fun W S => AlQ.err (x := lt0 pa ((d :: st).length) pk) (y := lt0 wa ws.length wk) (q := 73) (eq.trans (all_stop hne hx hpn (wdB1 hA hP hG (by have q := of_decide_eq_true hb4; simp only [List.length_cons] at q; show 100 < st.length + 1; omega)))) S.below)))))
     refine Cd.cf (Cd.sk ?_)
     have hw : Sc.word (sgv c) n ⟨st, ws⟩ cd d = .ok (n, ⟨d :: st, ws⟩) := wdB2 hA hP hG (by have q := of_decide_eq_false hb4; simp only [List.length_cons] at q; show ¬ 100 < st.length + 1; omega)
     have hf := word_fit hw fit hst hws hn (nxt_fit hx hb8).2
     exact again_of (Q := fun _ _ _ => True) (⟨n, ⟨d :: st, ws⟩, b.drop u, ba', bk - u, pa, pk, wa, wk, fun y hy => hb8 y (List.mem_of_mem_drop hy), (by rw [List.length_drop]; omega), (by rw [List.length_drop]; omega), hf.1, hf.2.1, hf.2.2.2, hf.2.2.1, eq.trans (all_step hne hx hpn hw), hal⟩) (by show (b.drop u).length < b.length; have q := nxt_le hx; rw [List.length_drop]; omega) (fun _ S => S.three 0 4 1 rfl rfl rfl)
    refine At.call 1 [] 42 (fun W S => pushes_v hP W) (At.run 1 [] [(43, .bool true)] (At.nx (Cd.ct (Cd.sr (At.an 2 [] 45 (((n : Nat) : Int) + 1) (n + 1) (At.run 1 [] [(8, vi (n + 1))] (At.nx (Cd.sr ?_))))))))
    refine At.run 2 [] [(47, .bool (decide (((n + 1 : Nat) : Int) > 100)))] (At.nx (Cd.sp 47 (decide (((n + 1 : Nat) : Int) > 100)) (fun hb3 => ?_) fun hb3 => ?_))
    ·exact Cd.ct (Cd.sr (At.st 1 [1] 0 (stc (.slice sa st.length sk) (.slice wa ws.length wk) (row32 c)) h6 (At.run 1 [] [(7, .int .i64 73)] (At.nx (Cd.rv (rt (rb (rt (rb (rt r0))))) [] (.tuple #[.agg (stc (.slice sa st.length sk) (.slice wa ws.length wk) (row32 c)), .int .i64 73]) fun W S => AlQ.err (x := lt0 sa st.length sk) (y := lt0 wa ws.length wk) (q := 73) (eq.trans (all_stop hne hx hpn (wdC0 hA hP (by have q := of_decide_eq_true hb3; omega)))) S.below)))))
    refine Cd.cf (Cd.sk (Cd.sh (Cd.seq ?_)))
    have hO : ¬ 100 < n + 1 := by have q := of_decide_eq_false hb3; omega
    refine Cd.seqj (ι := {t : Bool // t = Sc.isBr cd}) (fun tb => [(1, .slice ba' ((b.drop u).length) (bk - u)), (2, .bool pu), (3, pt g3), (6, pt g6), (8, vi (n + 1)), (9, vcz cd), (10, .slice y.a d.length y.c), (11, vi u), (12, .int .i64 0), (15, .bool true), (18, .tuple #[vcz cd, .slice y.a d.length y.c, vi u, .int .i64 0]), (24, .bool false), (29, .slice ba' ((b.drop u).length) (bk - u)), (35, .bool false), (39, .bool false), (42, .bool false), (43, .bool true), (45, vi (n + 1)), (47, .bool false), (62, .bool tb.1)]) (fun tb => [ro g6 (stc (.slice none 0 0) (.slice none 0 0) (row32 (fun _ => 0))) 41, ro g3 (stc (.slice sa st.length sk) (.slice wa ws.length wk) (row32 c)) 41]) (fun tb => [xpc w.heap.size (.slice ba' ((b.drop u).length) (bk - u)) (b.drop u), xown w (.slice y.a d.length y.c) d, xsl (.slice sa st.length sk) (sce st.reverse), xsl (.slice wa ws.length wk) (bce ws.reverse), xpc w.heap.size (.slice ba b.length bk) b]) (fun tb => ?_) ?_
    ·refine Cd.sp 62 tb.1 (fun hb4 => ?_) fun hb4 => ?_
     ·refine Cd.ct (Cd.sr ?_)
      have hB : Sc.isBr cd = true := tb.2.symm.trans hb4
      cases hbr : Sc.branch cd ⟨st, ws⟩ with
      | error e0 =>
       refine At.callX 2 [1] 66 (fun W S => calls_bre hbr S (branch7_c (cd := cd) hc fit (by omega) (by omega) W (S.sl 2 rfl) (S.sl 3 rfl))) fun z1 => At.run 3 [] [(67, .agg (stc (.slice z1.a z1.n z1.c) (.slice z1.p.1 z1.p.2.1 z1.p.2.2) (row32 c))), (68, vi e0)] (At.st 0 [] 1 (stc (.slice z1.a z1.n z1.c) (.slice z1.p.1 z1.p.2.1 z1.p.2.2) (row32 c)) h3 (At.run 1 [] [(12, vi e0)] (At.nx (Cd.seq (Cd.sr (At.ar 2 [] 70 (.bool (((e0 : Nat) : Int) != 0)) (.bool true) (congrArg _ (be_ne0 (by have q := branch_err hbr; omega))) (At.nx ?_)))))))
       exact Cd.ct (Cd.sr (At.run 2 [1] [(71, .agg (stc (.slice z1.a z1.n z1.c) (.slice z1.p.1 z1.p.2.1 z1.p.2.2) (row32 c))), (72, vi e0)] (At.st 0 [] 0 (stc (.slice z1.a z1.n z1.c) (.slice z1.p.1 z1.p.2.1 z1.p.2.2) (row32 c)) h6 (At.run 1 [] [(7, vi e0)] (At.nx (Cd.rv (rt (rt (rb (rt (rb (rt r0)))))) [] (.tuple #[.agg (stc (.slice z1.a z1.n z1.c) (.slice z1.p.1 z1.p.2.1 z1.p.2.2) (row32 c)), vi e0]) fun W S => AlQ.err (x := lt0 z1.a z1.n z1.c) (y := lt0 z1.p.1 z1.p.2.1 z1.p.2.2) (q := e0) (eq.trans (all_stop hne hx hpn (wdC1 hA hP hO hB hbr))) S.below))))))
      | ok t =>
       refine At.callX 2 [1] 66 (fun W S => calls_bro hbr S 2 3 rfl rfl (branch7_c (cd := cd) hc fit (by omega) (by omega) W (S.sl 2 rfl) (S.sl 3 rfl))) fun z1 => At.run 3 [] [(67, .agg (stc (.slice z1.1.a t.stack.length z1.1.c) (.slice z1.1.p.1 t.ways.length z1.1.p.2.2) (row32 c))), (68, .int .i64 0)] (At.st 0 [] 1 (stc (.slice z1.1.a t.stack.length z1.1.c) (.slice z1.1.p.1 t.ways.length z1.1.p.2.2) (row32 c)) h3 (At.run 1 [] [(12, .int .i64 0)] (At.nx (Cd.seq (Cd.sr (At.run 2 [] [(70, .bool false)] (At.nx ?_)))))))
       refine Cd.cf (Cd.sk (Cd.sh (Cd.ex ?_)))
       have hw : Sc.word (sgv c) n ⟨st, ws⟩ cd d = .ok ((n + 1), t) := wdC2 hA hP hO hB hbr
       have hf := word_fit hw fit hst hws hn (nxt_fit hx hb8).2
       exact again_of (Q := fun _ _ _ => True) (⟨(n + 1), t, b.drop u, ba', bk - u, z1.1.a, z1.1.c, z1.1.p.1, z1.1.p.2.2, fun y hy => hb8 y (List.mem_of_mem_drop hy), (by rw [List.length_drop]; omega), (by rw [List.length_drop]; omega), hf.1, hf.2.1, hf.2.2.2, hf.2.2.1, eq.trans (all_step hne hx hpn hw), (z1.2.trans al)⟩) (by show (b.drop u).length < b.length; have q := nxt_le hx; rw [List.length_drop]; omega) (fun _ S => S.three 0 1 2 rfl rfl rfl)
     refine Cd.cf (Cd.sk (Cd.sh (Cd.seq (Cd.sr ?_))))
     have hB : ¬ Sc.isBr cd = true := by rw [← tb.2, hb4]; decide
     refine At.call 1 [1] 74 (fun W S => goes7_c (c := c) (sv := .slice sa st.length sk) (by omega) W (S.sl 3 rfl)) (At.run 1 [] [(75, .bool (!(Sc.goes ws)))] (At.nx (Cd.sp 75 (!(Sc.goes ws)) (fun hb5 => ?_) fun hb5 => ?_)))
     ·refine Cd.ct (Cd.ex ?_)
      have hw : Sc.word (sgv c) n ⟨st, ws⟩ cd d = .ok ((n + 1), ⟨st, ws⟩) := wdC3 hA hP hO hB (by simpa using hb5)
      have hf := word_fit hw fit hst hws hn (nxt_fit hx hb8).2
      exact again_of (Q := fun _ _ _ => True) (⟨(n + 1), ⟨st, ws⟩, b.drop u, ba', bk - u, sa, sk, wa, wk, fun y hy => hb8 y (List.mem_of_mem_drop hy), (by rw [List.length_drop]; omega), (by rw [List.length_drop]; omega), hf.1, hf.2.1, hf.2.2.2, hf.2.2.1, eq.trans (all_step hne hx hpn hw), al⟩) (by show (b.drop u).length < b.length; have q := nxt_le hx; rw [List.length_drop]; omega) (fun _ S => S.three 2 3 0 rfl rfl rfl)
     refine Cd.cf (Cd.sk (Cd.sh (Cd.seq (Cd.sr ?_))))
     have hG : Sc.goes ws = true := by simpa using hb5
     refine At.call 1 [] 77 (fun W S => pushes_v hP W) (At.nx (Cd.cf (Cd.sr ?_)))
     cases hop : Sc.op (sgv c) cd st with
     | error e0 =>
      refine At.callX 5 [0, 0, 1, 0, 1] 93 (fun W S => calls_ope hop S (op7_c (cd := cd) hc fit (by omega) W (S.sl 2 rfl))) fun z2 => At.run 4 [] [(94, .slice z2.a z2.n z2.c), (95, vi e0), (96, pt g3)] (At.st 0 [] 1 (stc (.slice z2.a z2.n z2.c) (.slice wa ws.length wk) (row32 c)) h3 (At.run 1 [] [(12, vi e0)] (At.nx (Cd.sr (At.ar 2 [] 98 (.bool (((e0 : Nat) : Int) != 0)) (.bool true) (congrArg _ (be_ne0 (by have q := op_err hop; omega))) (At.nx (Cd.ct ?_)))))))
      exact Cd.sr (At.run 2 [1] [(99, .agg (stc (.slice z2.a z2.n z2.c) (.slice wa ws.length wk) (row32 c))), (100, vi e0)] (At.st 0 [] 0 (stc (.slice z2.a z2.n z2.c) (.slice wa ws.length wk) (row32 c)) h6 (At.run 1 [] [(7, vi e0)] (At.nx (Cd.rv (rt (rb (rt (rb (rt r0))))) [] (.tuple #[.agg (stc (.slice z2.a z2.n z2.c) (.slice wa ws.length wk) (row32 c)), vi e0]) fun W S => AlQ.err (x := lt0 z2.a z2.n z2.c) (y := lt0 wa ws.length wk) (q := e0) (eq.trans (all_stop hne hx hpn (wdC4 hA hP hO hB hG hop))) S.below)))))
     | ok st2 =>
      refine At.callX 5 [0, 0, 1, 0, 1] 93 (fun W S => calls_opo hop S 2 rfl (op7_c (cd := cd) hc fit (by omega) W (S.sl 2 rfl))) fun z2 => At.run 4 [] [(94, .slice z2.1.a st2.length z2.1.c), (95, .int .i64 0), (96, pt g3)] (At.st 0 [] 1 (stc (.slice z2.1.a st2.length z2.1.c) (.slice wa ws.length wk) (row32 c)) h3 (At.run 1 [] [(12, .int .i64 0)] (At.nx (Cd.sr (At.run 2 [] [(98, .bool false)] (At.nx (Cd.cf ?_)))))))
      refine Cd.sk (Cd.sh (Cd.sr (At.run 4 [0, 1] [(104, .bool (decide (((st2.length : Nat) : Int) > 100)))] (At.nx (Cd.sp 104 (decide (((st2.length : Nat) : Int) > 100)) (fun hb6 => ?_) fun hb6 => ?_)))))
      ·exact Cd.ct (Cd.sr (At.st 1 [1] 0 (stc (.slice z2.1.a st2.length z2.1.c) (.slice wa ws.length wk) (row32 c)) h6 (At.run 1 [] [(7, .int .i64 73)] (At.nx (Cd.rv (rb (rt (rb (rt r0)))) [] (.tuple #[.agg (stc (.slice z2.1.a st2.length z2.1.c) (.slice wa ws.length wk) (row32 c)), .int .i64 73]) fun W S => AlQ.err (x := lt0 z2.1.a st2.length z2.1.c) (y := lt0 wa ws.length wk) (q := 73) (eq.trans (all_stop hne hx hpn (wdC5 hA hP hO hB hG hop (by have q := of_decide_eq_true hb6; omega)))) S.below)))))
      refine Cd.cf (Cd.sk ?_)
      have hw : Sc.word (sgv c) n ⟨st, ws⟩ cd d = .ok ((n + 1), ⟨st2, ws⟩) := wdC6 hA hP hO hB hG hop (by have q := of_decide_eq_false hb6; omega)
      have hf := word_fit hw fit hst hws hn (nxt_fit hx hb8).2
      exact again_of (Q := fun _ _ _ => True) (⟨(n + 1), ⟨st2, ws⟩, b.drop u, ba', bk - u, z2.1.a, z2.1.c, wa, wk, fun y hy => hb8 y (List.mem_of_mem_drop hy), (by rw [List.length_drop]; omega), (by rw [List.length_drop]; omega), hf.1, hf.2.1, hf.2.2.2, hf.2.2.1, eq.trans (all_step hne hx hpn hw), (z2.2.trans al)⟩) (by show (b.drop u).length < b.length; have q := nxt_le hx; rw [List.length_drop]; omega) (fun _ S => S.three 0 4 1 rfl rfl rfl)
    refine Cd.rg (At.run 3 [] [(51, .bool (((cd : Nat) : Int) == 99))] (At.sp 51 (((cd : Nat) : Int) == 99) (fun hb4 => ?_) fun hb4 => ?_))
    ·exact At.run 11 [] [(62, .bool true)] (At.fin (join_of (⟨true, isbr_y (by have q := ieq_t (k := 99) hb4; omega)⟩) (fun _ S => S)))
    refine At.run 4 [] [(55, .bool (((cd : Nat) : Int) == 100))] (At.sp 55 (((cd : Nat) : Int) == 100) (fun hb5 => ?_) fun hb5 => ?_)
    ·exact At.run 7 [] [(62, .bool true)] (At.fin (join_of (⟨true, isbr_y (by have q := ieq_t (k := 100) hb5; omega)⟩) (fun _ S => S)))
    refine At.run 4 [] [(59, .bool (((cd : Nat) : Int) == 103))] (At.sp 59 (((cd : Nat) : Int) == 103) (fun hb6 => ?_) fun hb6 => ?_)
    ·exact At.run 3 [] [(62, .bool true)] (At.fin (join_of (⟨true, isbr_y (by have q := ieq_t (k := 103) hb6; omega)⟩) (fun _ S => S)))
    exact At.run 3 [] [(62, .bool (((cd : Nat) : Int) == 104))] (At.fin (join_of (⟨((cd : Nat) : Int) == 104, isbr_l (ieq_f (k := 99) hb4) (ieq_f (k := 100) hb5) (ieq_f (k := 103) hb6)⟩) (fun _ S => S)))
   refine Cd.rg (At.run 2 [] [(31, .bool pu)] (At.sp 31 pu (fun hb1 => ?_) fun hb1 => ?_))
   ·exact At.call 1 [] 33 (fun W S => pushes_c cd W) (At.run 2 [] [(35, .bool (!(Sc.pushes cd)))] (At.fin (join_of (⟨!(Sc.pushes cd), by rw [hb1]; rfl⟩) (fun _ S => S))))
   exact At.run 4 [] [(35, .bool false)] (At.fin (join_of (⟨false, by rw [hb1]; rfl⟩) (fun _ S => S)))
 refine Cd.cf (Cd.ex (Cd.sh (Cd.seq (Cd.sr (At.run 4 [0, 1] [(109, .bool (decide (((ws.length : Nat) : Int) > 0)))] (At.nx (Cd.sp 109 (decide (((ws.length : Nat) : Int) > 0)) (fun hb1 => ?_) fun hb1 => ?_)))))))
 ·exact Cd.ct (Cd.sr (At.st 1 [1] 0 (stc (.slice sa st.length sk) (.slice wa ws.length wk) (row32 c)) h6 (At.run 1 [] [(7, .int .i64 71)] (At.nx (Cd.rv (rt r0) [] (.tuple #[.agg (stc (.slice sa st.length sk) (.slice wa ws.length wk) (row32 c)), .int .i64 71]) fun W S => AlQ.err (x := lt0 sa st.length sk) (y := lt0 wa ws.length wk) (q := 71) (eq.trans (all_ende (by have q := of_decide_eq_false hb; omega) (by have q := of_decide_eq_true hb1; show 0 < ws.length; omega))) S.below)))))
 refine Cd.cf (Cd.sk (Cd.sh (Cd.sr ?_)))
 have hw1 : ws = [] := List.length_eq_zero_iff.1 (by have q := of_decide_eq_false hb1; omega)
 exact At.st 1 [1] 0 (stc (.slice sa st.length sk) (.slice wa ws.length wk) (row32 c)) h6 (At.run 1 [] [(7, .int .i64 0)] (At.nx (Cd.rv r0 [] (.tuple #[.agg (stc (.slice sa st.length sk) (.slice wa ws.length wk) (row32 c)), .int .i64 0]) fun W S => AlQ.ok (x := lt0 sa st.length sk) (y := lt0 wa ws.length wk) (t := ⟨st, ws⟩) (eq.trans (all_endo (by have q := of_decide_eq_false hb; omega) hw1)) S 0 1 rfl rfl al hw1 hst fit)))
theorem sh_nil (W : World) : ShV W (.slice none ([] : List Nat).length 0) [] := ⟨Or.inl ⟨⟨none, 0, rfl⟩, rfl⟩, none, 0, rfl, Nat.le_refl _⟩
section
variable {w W : World} {L : List (Nat × Obj)} {X : List Xt} {sv : Value} {h : Array Value} {s t : Sc.St} {res : Except Nat Sc.St} {e0 : Nat} {fid : FuncId} {vs : Array Value}
theorem calls_ale (he : res = .error e0) (S : Sx w L X W) (hc : Calls Tryz.prog fid vs W (AlQ W sv h s res)) : Calls Tryz.prog fid vs W fun e w' => ∃ z : Lt, e = .returned (.tuple #[.agg (stc z.sl z.s2.sl h), vi e0]) ∧ Sx w L X w' := by
 subst he
 exact hc.mono fun e w' ⟨hb, z, hz⟩ => ⟨z, hz, S.keep hb⟩
theorem calls_alo (he : res = .ok t) (S : Sx w L X W) (ho : sce s.stack.reverse ≠ [] → ∃ i : Nat, X[i]? = some (xsl sv (sce s.stack.reverse))) (hc : Calls Tryz.prog fid vs W (AlQ W sv h s res)) :
 Calls Tryz.prog fid vs W fun e w' => ∃ z : {z : Lt // t.ways = [] ∧ t.stack.length ≤ 100 ∧ Sc.Fit t.stack}, e = .returned (.tuple #[.agg (stc (.slice z.1.a t.stack.length z.1.c) (.slice z.1.p.1 t.ways.length z.1.p.2.2) h), .int .i64 0]) ∧ Sx w L (xsl (.slice z.1.a t.stack.length z.1.c) (sce t.stack.reverse) :: xsl (.slice z.1.p.1 t.ways.length z.1.p.2.2) (bce t.ways.reverse) :: X) w' := by
 subst he
 refine hc.mono fun e w' ⟨hb, z, he, h1, h2, h3, h4, h5, h6⟩ => ?_
 have f1 := h1.form (m := t.stack.length) (by rw [sce_len, List.length_reverse])
 have f2 : z.s2.sl = .slice z.p.1 t.ways.length z.p.2.2 := h3.form (m := t.ways.length) (by rw [bce_len, List.length_reverse])
 rw [f1] at he h1 h2
 rw [f2] at he h3
 exact ⟨⟨z, h4, h5, h6⟩, he, S.addsl2 hb h1 (fun h0 b e => (h2 h0 b e).imp id fun h5 => by
  obtain ⟨i, hi⟩ := ho h5.1
  exact ⟨_, List.mem_of_getElem? hi, rfl, h5⟩) h3 (fun h0 => absurd (by rw [h4]; rfl) h0)⟩
end
theorem run_t {us ls : List Nat} {s s' : Sc.St} {b : Bool} (h : ¬ (2000 < us.length ∨ 2000 < ls.length)) (h1 : Sc.all sg true 0 ⟨[], []⟩ us = .ok s) (h2 : Sc.all sg false 0 s ls = .ok s') (hl : 1 ≤ s'.stack.length) (ht : Sc.tr (s'.stack.headD []) = b) : Sc.run sg us ls = if b = true then 0 else 74 := by
 obtain ⟨x, r, e⟩ := one_of hl
 rw [run_x h h1 h2 e]
 rw [e] at ht
 rw [← ht]; rfl
theorem run7_c {A A2 : Option Addr} {k k2 : Nat} {us ls : List Nat} {c : Nat → Int} (hc : Bytes8 c) (huc : us.length ≤ k) (hlc : ls.length ≤ k2) (hu8 : ∀ y, y ∈ us → y < 256) (hl8 : ∀ y, y ∈ ls → y < 256) (w : World) (hp : PieceV w w.heap.size (.slice A us.length k) us) (hq : PieceV w w.heap.size (.slice A2 ls.length k2) ls) : Calls Tryz.prog 7 #[.slice A us.length k, .slice A2 ls.length k2, .agg (row32 c)] w fun e w' => e = .returned (vi (Sc.run (sgv c) us ls)) ∧ Below w.heap.size w w' := by
 refine enterQ 52 (fun q => .seq (q 0) (.seq (.seq (q 1) (.cond (.tmp 16) (.seq (q 2) .ret) .skip)) (.seq (q 3) (.seq (.seq (q 4) (.cond (.tmp 25) (.seq (q 5) .ret) .skip)) (.seq (q 6) (.seq (.seq (q 7) (.cond (.tmp 34) (.seq (q 8) .ret) .skip)) (.seq (.seq (q 9) (.cond (.tmp 51) (.seq (q 10) .ret) .skip)) (.seq (q 11) .ret)))))))) (Sx.ofpcz hp hq) Tryz.func7 (Cd.sr (At.new 0 [] 5 ((row32 c)) 24 fun g5 h5 => At.run 1 [] [] (At.nx (Cd.seq (Cd.sr (At.run 4 [] [(12, .bool (decide (((us.length : Nat) : Int) > 2000)))] (At.sp 12 (decide (((us.length : Nat) : Int) > 2000)) (fun hb => ?_) fun hb => ?_)))))))
 ·exact At.run 4 [] [(16, .bool true)] (At.nx (Cd.ct (Cd.sr (At.run 1 [] [(6, .int .i64 73)] (At.nx (Cd.rv (rt r0) [] (.int .i64 73) fun W S => ⟨by rw [run_big (by have q0 := of_decide_eq_true hb; omega)]; rfl, S.below⟩))))))
 refine At.run 4 [] [(16, .bool (decide (((ls.length : Nat) : Int) > 2000)))] (At.nx (Cd.sp 16 (decide (((ls.length : Nat) : Int) > 2000)) (fun hb1 => ?_) fun hb1 => ?_))
 ·exact Cd.ct (Cd.sr (At.run 1 [] [(6, .int .i64 73)] (At.nx (Cd.rv (rt r0) [] (.int .i64 73) fun W S => ⟨by rw [run_big (by have q0 := of_decide_eq_false hb; have q1 := of_decide_eq_true hb1; omega)]; rfl, S.below⟩))))
 refine Cd.cf (Cd.sk (Cd.sh (Cd.sr ?_)))
 have hsz : ¬ (2000 < us.length ∨ 2000 < ls.length) := by have q0 := of_decide_eq_false hb; have q1 := of_decide_eq_false hb1; omega
 cases h1 : Sc.all (sgv c) true 0 ⟨[], []⟩ us with
 | error e0 =>
  refine At.callX 3 [] 21 (fun W S => calls_ale h1 S (all7_c (s0 := ⟨[], []⟩) (A0 := none) (k0 := 0) (A1 := none) (k1 := 0) hc fit_nil (Nat.zero_le _) rfl hu8 huc (by omega) W (sh_nil W) (sh_nil W) (S.pc 0 rfl))) fun zo1 => At.run 3 [] [(22, .agg (stc (.slice zo1.a zo1.n zo1.c) (.slice zo1.p.1 zo1.p.2.1 zo1.p.2.2) (row32 c))), (23, vi e0)] (At.new 0 [] 7 (stc (.slice none 0 0) (.slice none 0 0) (row32 (fun _ => 0))) 41 fun g7 h7 => At.st 0 [] 0 (stc (.slice zo1.a zo1.n zo1.c) (.slice zo1.p.1 zo1.p.2.1 zo1.p.2.2) (row32 c)) h7 (At.run 1 [] [(8, vi e0)] (At.nx (Cd.seq (Cd.sr (At.ar 2 [] 25 (.bool (((e0 : Nat) : Int) != 0)) (.bool true) (congrArg _ (be_ne0 (by have q := all_err _ h1; omega))) ?_))))))
  exact At.nx (Cd.ct (Cd.sr (At.run 2 [] [(6, vi e0)] (At.nx (Cd.rv (rt r0) [] (vi e0) fun W S => ⟨by rw [run_e1 hsz h1], S.below⟩)))))
 | ok t1 =>
  refine At.callX 3 [] 21 (fun W S => calls_alo h1 S (fun h => absurd rfl h) (all7_c (s0 := ⟨[], []⟩) (A0 := none) (k0 := 0) (A1 := none) (k1 := 0) hc fit_nil (Nat.zero_le _) rfl hu8 huc (by omega) W (sh_nil W) (sh_nil W) (S.pc 0 rfl))) fun zo1 => At.run 3 [] [(22, .agg (stc (.slice zo1.1.a t1.stack.length zo1.1.c) (.slice zo1.1.p.1 t1.ways.length zo1.1.p.2.2) (row32 c))), (23, .int .i64 0)] (At.new 0 [] 7 (stc (.slice none 0 0) (.slice none 0 0) (row32 (fun _ => 0))) 41 fun g7 h7 => At.st 0 [] 0 (stc (.slice zo1.1.a t1.stack.length zo1.1.c) (.slice zo1.1.p.1 t1.ways.length zo1.1.p.2.2) (row32 c)) h7 (At.run 1 [] [(8, .int .i64 0)] (At.nx (Cd.seq (Cd.sr (At.run 2 [] [(25, .bool false)] ?_))))))
  refine At.nx (Cd.cf (Cd.sk (Cd.sh (Cd.sr ?_))))
  cases h2 : Sc.all (sgv c) false 0 t1 ls with
  | error e0 =>
   refine At.callX 2 [] 30 (fun W S => calls_ale h2 S (all7_c (s0 := t1) hc zo1.2.2.2 zo1.2.2.1 zo1.2.1 hl8 hlc (by omega) W (S.sl 0 rfl) (S.sl 1 rfl) (S.pc 3 rfl))) fun zo2 => At.run 3 [] [(31, .agg (stc (.slice zo2.a zo2.n zo2.c) (.slice zo2.p.1 zo2.p.2.1 zo2.p.2.2) (row32 c))), (32, vi e0)] (At.st 0 [] 0 (stc (.slice zo2.a zo2.n zo2.c) (.slice zo2.p.1 zo2.p.2.1 zo2.p.2.2) (row32 c)) h7 (At.run 1 [] [(8, vi e0)] (At.nx (Cd.seq (Cd.sr (At.ar 2 [] 34 (.bool (((e0 : Nat) : Int) != 0)) (.bool true) (congrArg _ (be_ne0 (by have q := all_err _ h2; omega))) (At.nx ?_)))))))
   exact Cd.ct (Cd.sr (At.run 2 [] [(6, vi e0)] (At.nx (Cd.rv (rt r0) [] (vi e0) fun W S => ⟨by rw [run_e2 hsz h1 h2], S.below⟩))))
  | ok t2 =>
   refine At.callX 2 [] 30 (fun W S => calls_alo h2 S (fun _ => ⟨0, rfl⟩) (all7_c (s0 := t1) hc zo1.2.2.2 zo1.2.2.1 zo1.2.1 hl8 hlc (by omega) W (S.sl 0 rfl) (S.sl 1 rfl) (S.pc 3 rfl))) fun zo2 => At.run 3 [] [(31, .agg (stc (.slice zo2.1.a t2.stack.length zo2.1.c) (.slice zo2.1.p.1 t2.ways.length zo2.1.p.2.2) (row32 c))), (32, .int .i64 0)] (At.st 0 [] 0 (stc (.slice zo2.1.a t2.stack.length zo2.1.c) (.slice zo2.1.p.1 t2.ways.length zo2.1.p.2.2) (row32 c)) h7 (At.run 1 [] [(8, .int .i64 0)] (At.nx (Cd.seq (Cd.sr (At.run 2 [] [(34, .bool false)] (At.nx ?_)))))))
   refine Cd.cf (Cd.sk (Cd.sh (Cd.seq (Cd.sr (At.run 5 [] [(40, .bool (((t2.stack.length : Nat) : Int) == 0))] (At.sp 40 (((t2.stack.length : Nat) : Int) == 0) (fun hb2 => ?_) fun hb2 => ?_))))))
   ·exact At.run 11 [] [(51, .bool true)] (At.nx (Cd.ct (Cd.sr (At.run 1 [] [(6, .int .i64 74)] (At.nx (Cd.rv (rt r0) [] (.int .i64 74) fun W S => ⟨by rw [run_0 hsz h1 h2 (List.length_eq_zero_iff.1 (ieq_t (k := 0) hb2))]; rfl, S.below⟩))))))
   refine At.run 5 [] [(42, .slice zo2.1.a t2.stack.length zo2.1.c), (45, vi t2.stack.length)] ?_
   have hs1 : 1 ≤ t2.stack.length := by have q := ieq_f (k := 0) hb2; omega
   refine At.fact (p := ∃ b o, zo2.1.a = some ⟨b, o, none⟩) (fun W S => (S.sl 0 rfl).lies (by rw [sce_len, List.length_reverse]; omega)) (fun ⟨b, o, eA⟩ => ?_)
   rw [eA]
   refine At.ar 1 [] 46 (.int .i64 (IntKind.i64.wrap (((t2.stack.length : Nat) : Int) - 1))) (vi (t2.stack.length - 1)) (congrArg _ ((wri64 (by have := zo2.2.2.1; omega) (by omega)).trans (by omega))) (At.ixs 0 [] 47 1 b o t2.stack.length zo2.1.c .i64 (t2.stack.length - 1) (by omega) (At.ld 0 [] 48 b (o + (t2.stack.length - 1) * 1) (.string (nst (t2.stack.headD []))) (fun W S => (S.sl 0 rfl).1.at (t2.stack.length - 1) _ _ (sce_top hs1) (by omega)) (At.call 0 [] 49 (fun W S => rtrue_c (by have := (fit_head zo2.2.2.2).1; omega) (fit_head zo2.2.2.2).2 W) (At.run 2 [] [(51, .bool (!(Sc.tr (t2.stack.headD []))))] (At.nx (Cd.sp 51 (!(Sc.tr (t2.stack.headD []))) (fun hb3 => ?_) fun hb3 => ?_))))))
   ·exact Cd.ct (Cd.sr (At.run 1 [] [(6, .int .i64 74)] (At.nx (Cd.rv (rt r0) [] (.int .i64 74) fun W S => ⟨by rw [run_t hsz h1 h2 hs1 (b := false) (by simpa using hb3)]; rfl, S.below⟩))))
   exact Cd.cf (Cd.sk (Cd.sh (Cd.sr (At.run 1 [] [(6, .int .i64 0)] (At.nx (Cd.rv r0 [] (.int .i64 0) fun W S => ⟨by rw [run_t hsz h1 h2 hs1 (b := true) (by simpa using hb3)]; rfl, S.below⟩))))))
theorem signs_c {k : Nat} {bs : List Nat} (hl : bs.length ≤ 100000) (w : World) (hp : PieceV w w.heap.size (.slice A bs.length k) bs) : Calls Tryz.prog 5 #[.slice A bs.length k] w fun e w' => ∃ n : Int, e = .returned (.int .i64 n) ∧ Below w.heap.size w w' := by
 refine enterQ 22 (fun q => .seq (q 0) (.seq (q 1) (.seq (.seq (q 2) (.block 0 (.loop (.seq (q 3) (.seq (.cond (.tmp 9) .skip (.exit 0)) (.seq (.block 1 (.seq (q 4) (.seq (q 5) (.cond (.tmp 17) (q 6) .skip)))) (q 7))))))) (.seq (q 8) .ret)))) (Sx.ofpc hp) Tryz.func5 (Cd.sr (At.run 1 [] [] (At.nx (Cd.sr (At.run 1 [] [(3, .int .i64 0)] (At.nx (Cd.seq (Cd.sr ?_))))))))
 refine At.run 3 [] [(6, .slice A bs.length k), (7, vi bs.length), (8, .int .i64 0)] (At.nx (Cd.blk (Cd.loop (ι := Nat × Int) (fun i => bs.length - i.1) (fun i => [(0, .slice A bs.length k), (3, .int .i64 i.2), (6, .slice A bs.length k), (7, vi bs.length), (8, vi i.1)]) (fun i => []) (fun i => [xpc w.heap.size (.slice A bs.length k) bs]) (0, 0) (fun _ S => S) (fun i => ?_))))
 obtain ⟨i, n⟩ := i
 refine Cd.sr (At.run 1 [] [(9, .bool (decide (((i : Nat) : Int) < ((bs.length : Nat) : Int))))] (At.nx (Cd.seq (Cd.sp 9 (decide (((i : Nat) : Int) < ((bs.length : Nat) : Int))) (fun hb => ?_) fun hb => ?_))))
 ·refine Cd.ct (Cd.sk (Cd.sh (Cd.seq (Cd.blk (Cd.sr ?_)))))
  have hil : i < bs.length := by have q := of_decide_eq_true hb; omega
  refine At.fact (p := ∃ b o, A = some ⟨b, o, none⟩) (fun W S => S.lies 0 rfl rfl (by omega)) (fun ⟨b, o, eA⟩ => ?_)
  subst eA
  refine At.ixs 0 [] 10 1 b o bs.length k .i64 i hil (At.ld 0 [] 11 b (o + i * 1) (vcz (nth bs i)) (fun W S => (S.pcS 0 rfl).at i _ hil (by omega)) (At.run 1 [] [(5, vcz (nth bs i))] (At.nx (Cd.sr (At.run 3 [] [(14, .bool (((nth bs i : Nat) : Int) == 172))] (At.sp 14 (((nth bs i : Nat) : Int) == 172) (fun hb1 => ?_) fun hb1 => ?_))))))
  ·refine At.run 3 [] [(17, .bool true)] (At.nx (Cd.ct (Cd.rg (At.ar 2 [] 19 (.int .i64 (IntKind.i64.wrap (n + 1))) (.int .i64 (IntKind.i64.wrap (n + 1))) (rfl) (At.run 1 [] [(3, .int .i64 (IntKind.i64.wrap (n + 1)))] (At.fin (Cd.sh (Cd.rg ?_))))))))
   exact At.an 1 [] 20 (((i : Nat) : Int) + 1) (i + 1) (At.run 1 [] [(8, vi (i + 1))] (At.fin (again_of (i + 1, (IntKind.i64.wrap (n + 1))) (by show bs.length - (i + 1) < bs.length - i; omega) (fun _ S => S))))
  refine At.run 3 [] [(17, .bool (((nth bs i : Nat) : Int) == 173))] (At.nx (Cd.sp 17 (((nth bs i : Nat) : Int) == 173) (fun hb2 => ?_) fun hb2 => ?_))
  ·refine Cd.ct (Cd.rg (At.ar 2 [] 19 (.int .i64 (IntKind.i64.wrap (n + 1))) (.int .i64 (IntKind.i64.wrap (n + 1))) (rfl) (At.run 1 [] [(3, .int .i64 (IntKind.i64.wrap (n + 1)))] (At.fin (Cd.sh (Cd.rg (At.an 1 [] 20 (((i : Nat) : Int) + 1) (i + 1) (At.run 1 [] [(8, vi (i + 1))] ?_))))))))
   exact At.fin (again_of (i + 1, (IntKind.i64.wrap (n + 1))) (by show bs.length - (i + 1) < bs.length - i; omega) (fun _ S => S))
  exact Cd.cf (Cd.sk (Cd.sh (Cd.rg (At.an 1 [] 20 (((i : Nat) : Int) + 1) (i + 1) (At.run 1 [] [(8, vi (i + 1))] (At.fin (again_of (i + 1, n) (by show bs.length - (i + 1) < bs.length - i; omega) (fun _ S => S))))))))
 exact Cd.cf (Cd.ex (Cd.sh (Cd.sr (At.run 2 [] [(2, .int .i64 n)] (At.nx (Cd.rv r0 [] (.int .i64 n) fun W S => ⟨n, rfl, S.below⟩))))))
theorem calls_n (S : Sx w L X W) (hc : Calls Tryz.prog fid vs W fun e w' => ∃ n : Int, e = .returned (.int .i64 n) ∧ Below W.heap.size W w') : Calls Tryz.prog fid vs W fun e w' => ∃ n : Int, e = .returned (.int .i64 n) ∧ Sx w L X w' := hc.mono fun e w' ⟨n, he, hb⟩ => ⟨n, he, S.keep hb⟩
theorem to_r {q r : Nat} (er : r = q) (h : Calls Tryz.prog fid vs W fun e w' => e = .returned (vi q) ∧ Below W.heap.size W w') : Calls Tryz.prog fid vs W fun e w' => e = .returned (vi r) ∧ Below W.heap.size W w' := by subst er; exact h
theorem to_o {q r : Nat} (er : r = q) (h : Calls Tryz.prog fid vs W fun e w' => e = .returned (.bool (decide (q = 0))) ∧ Below W.heap.size W w') : Calls Tryz.prog fid vs W fun e w' => e = .returned (.bool (decide (r = 0))) ∧ Below W.heap.size W w' := by subst er; exact h
theorem scriptruns_w (v : Value) (us : List Nat) (v2 : Value) (ls : List Nat) (c : Nat → Int) (hub : (∀ y, y ∈ us → y < 256) ∧ us.length ≤ 9223372036854775807) (hlb : (∀ y, y ∈ ls → y < 256) ∧ ls.length ≤ 9223372036854775807) (hc : Bytes8 c) (w : World) (hp : PieceV w w.heap.size v us) (hca0 : ∀ a n c, v = .slice a n c → n ≤ c) (hq : PieceV w w.heap.size v2 ls) (hca2 : ∀ a n c, v2 = .slice a n c → n ≤ c) : Calls Tryz.prog 3 #[v, v2, .agg (row32 c)] w fun e w' => e = .returned (.bool true) ∧ Below w.heap.size w w' := by
 obtain ⟨A, k, rfl⟩ := hp.shape
 obtain ⟨A2, k2, rfl⟩ := hq.shape
 have huc : us.length ≤ k := hca0 _ _ _ rfl
 have hlc : ls.length ≤ k2 := hca2 _ _ _ rfl
 refine enterQ 42 (fun q => .seq (q 0) (.seq (.seq (q 1) (.cond (.tmp 9) (.seq (q 2) .ret) .skip)) (.seq (.seq (q 3) (.cond (.tmp 22) (.seq (q 4) .ret) .skip)) (.seq (q 5) (.seq (q 6) .ret))))) (Sx.ofpcz hp hq) Tryz.func3 (Cd.sr (At.new 0 [] 5 ((row32 c)) 24 fun g5 h5 => At.run 1 [] [] (At.nx (Cd.seq (Cd.sr (At.call 0 [] 8 (fun W S => salive_c W) (At.run 1 [] [(9, .bool false)] ?_)))))))
 refine At.nx (Cd.cf (Cd.sk (Cd.sh (Cd.seq (Cd.sr (At.run 4 [] [(13, .bool (decide (((us.length : Nat) : Int) > 2500)))] (At.sp 13 (decide (((us.length : Nat) : Int) > 2500)) (fun hb => ?_) fun hb => ?_)))))))
 ·exact At.run 9 [] [(22, .bool true)] (At.nx (Cd.ct (Cd.sr (At.run 1 [] [(6, .bool true)] (At.nx (Cd.rv (rt r0) [] (.bool true) fun W S => ⟨rfl, S.below⟩))))))
 refine At.run 5 [] [(18, .bool (decide (((ls.length : Nat) : Int) > 2500)))] (At.sp 18 (decide (((ls.length : Nat) : Int) > 2500)) (fun hb1 => ?_) fun hb1 => ?_)
 ·exact At.run 4 [] [(22, .bool true)] (At.nx (Cd.ct (Cd.sr (At.run 1 [] [(6, .bool true)] (At.nx (Cd.rv (rt r0) [] (.bool true) fun W S => ⟨rfl, S.below⟩))))))
 refine At.run 1 [] [(19, .slice A2 ls.length k2)] ?_
 have hle : us.length ≤ 2500 ∧ ls.length ≤ 2500 := by have q0 := of_decide_eq_false hb; have q1 := of_decide_eq_false hb1; omega
 refine At.callX 0 [] 20 (fun W S => calls_n S (signs_c (by omega) W (S.pc 1 rfl))) fun sn => At.run 2 [] [(22, .bool (decide (sn > 3)))] (At.nx (Cd.sp 22 (decide (sn > 3)) (fun hb2 => ?_) fun hb2 => ?_))
 ·exact Cd.ct (Cd.sr (At.run 1 [] [(6, .bool true)] (At.nx (Cd.rv (rt r0) [] (.bool true) fun W S => ⟨rfl, S.below⟩))))
 refine Cd.cf (Cd.sk (Cd.sh (Cd.sr ?_)))
 obtain ⟨r, er⟩ : ∃ r, r = Sc.run (sgv c) us ls := ⟨_, rfl⟩
 refine At.call 3 [] 26 (fun W S => to_r er (srun_c hc huc hlc hub.1 hlb.1 W (S.pc 0 rfl) (S.pc 1 rfl))) (At.run 1 [] [(7, vi r)] (At.nx (Cd.sr (At.run 4 [] [(27, vi r), (28, .slice A us.length k), (29, .slice A2 ls.length k2), (30, .agg (row32 c))] (At.call 0 [] 31 (fun W S => to_r er (run7_c hc huc hlc hub.1 hlb.1 W (S.pc 0 rfl) (S.pc 1 rfl))) (At.ar 1 [] 32 (.bool (((r : Nat) : Int) == ((r : Nat) : Int))) (.bool true) (congrArg _ (beq_self_eq_true _)) (At.run 4 [] [(33, .bool true), (34, .slice A us.length k), (35, .slice A2 ls.length k2), (36, .agg (row32 c))] (At.call 0 [] 37 (fun W S => to_o er (sopens_c hc huc hlc hub.1 hlb.1 W (S.pc 0 rfl) (S.pc 1 rfl))) ?_))))))))
 exact At.ar 3 [] 40 (.bool (decide (r = 0) == (((r : Nat) : Int) == 0))) (.bool true) (congrArg _ (by rw [beq_iff_eq, Bool.eq_iff_iff, decide_eq_true_iff, beq_iff_eq]; omega)) (At.run 2 [] [(6, .bool true)] (At.nx (Cd.rv r0 [] (.bool true) fun W S => ⟨rfl, S.below⟩)))
open Go.ChangeShapes Go.WideShapes Go.ChangeAt
theorem own_c : ownKnob Tryz.prog.godebug = none := by kernel_rfl
theorem laid_c : laidOutB Tryz.prog = true := by kernel_rfl
theorem trodAll_stays {H : Type} {enc : TypeId × Value → H} (hl : laidOutB P = true) {W W' : World} (hb : Below W.heap.size W W') : ∀ (ts : List TypeId) (args : List Value) (ds : List (DataW H)) (p : List MemPlace),
 (∀ t, t ∈ ts → P.readableRec t = true ∧ t < P.types.size) → DataW.TrodAll enc P W 0 (fun _ => true) true ts args ds p → (∀ x ∈ p, x.block < W.heap.size) →
 DataW.TrodAll enc P W' 0 (fun b => decide (b < W.heap.size)) true ts args ds p
 | [], args, ds, p, _, h, _ => by
  obtain ⟨rfl, rfl, rfl⟩ := trodAll_nil h
  exact rfl
 | t :: ts, args, ds, p, ht, h, hp => by
  obtain ⟨v, vs, d, ds', p1, p2, rfl, rfl, rfl, h1, h2⟩ := trodAll_cons h
  exact trodAll_cons_mk (Below.trod hl (ht t (by simp)).1 (ht t (by simp)).2 h1 hb (fun x hx => hp x (by simp [hx]))) (trodAll_stays hl hb ts vs ds' p2 (fun t h => ht t (by simp [h])) h2 (fun x hx => hp x (by simp [hx])))
theorem law_post {H : Type} {enc : TypeId × Value → H} {s : ChangeSpec} {W W' : World} {args : Array Value} {ds gs : List (DataW H)} {before : List MemPlace} {apart fresh handsOn : Bool} (hv : s.vars = [])
 (hr : f.resultTypes = #[4]) (hf : ∀ t, t ∈ f.params.toList → Tryz.prog.readableRec t = true ∧ t < Tryz.prog.types.size)
 (hW : DataW.Whole enc Tryz.prog f.params.toList s.vars apart W args.toList ds gs before) (h1 : (s.fn H (ds ++ gs)).results = [.lit (.bool true)]) (h2 : (s.fn H (ds ++ gs)).args = ds) (h3 : (s.fn H (ds ++ gs)).vars = [])
 (hb : Below W.heap.size W W') : s.post enc Tryz.prog f apart fresh handsOn false W args (.bool true) W' := by
 have hW' := hW
 obtain ⟨p, q, hA, hV, rfl, hfz, hnd⟩ := hW
 rw [hv] at hV
 obtain ⟨rfl, rfl⟩ := trodVars_none hV
 refine ⟨ds, [], _, [], p, [], hW', ?_, ?_, ?_, hb.frame _, fun h => by cases h⟩
 ·rw [h1, hr]; exact trodAll_mk1 (shut_bool Tryz.underlying4 _)
 ·rw [h2]
  exact trodAll_stays laid_c hb _ _ _ _ hf hA (fun x hx => hW'.lt x (by simp [hx]))
 ·rw [h3, hv]; exact rfl
theorem byte_of_wf {x : Int} (h : (Lit.int .u8 x).wf = true) : 0 ≤ x ∧ x < 256 := by
 simp [Lit.wf, IntKind.min, IntKind.max, IntKind.signed, IntKind.bits] at h
 exact ⟨by omega, by omega⟩
theorem lt_of_cell {b o : Nat} (h : W.cell? ⟨b, o, none⟩ = some v) : b < W.heap.size := by
 unfold World.cell? at h
 rcases Nat.lt_or_ge b W.heap.size with h' | h'
 ·exact h'
 ·simp [Array.getElem?_eq_none h'] at h
theorem ints_piece {a : Addr} {len cap : Nat} {zs : List Int} (hle : len ≤ zs.length) (hcell : ∀ i, i < zs.length → W.cell? (a.add i) = some (.int .u8 (zs.getD i 0))) (hwf : ∀ n ∈ zs, (Lit.int .u8 n).wf = true) :
 ∃ bs : List Nat, bs.length = len ∧ (∀ y, y ∈ bs → y < 256) ∧ PieceV W W.heap.size (.slice (some a) len cap) bs := by
 refine ⟨(zs.take len).map Int.toNat, by simp; omega, fun y hy => ?_, ?_⟩
 ·simp only [List.mem_map] at hy
  obtain ⟨z, hz, rfl⟩ := hy
  have := byte_of_wf (hwf z (List.mem_of_mem_take hz)); omega
 ·by_cases h0 : len = 0
  ·exact Or.inl ⟨⟨_, _, by rw [h0]⟩, by simp [h0]⟩
  ·obtain ⟨b, off, rfl, hc⟩ := ints_at hcell (by omega)
   have hl : ((zs.take len).map Int.toNat).length = len := by simp; omega
   refine Or.inr ⟨b, off, cap, lt_of_cell (hc 0 (by omega)), by rw [hl], fun i hi => ?_⟩
   rw [hl] at hi
   rw [hc i (by omega)]
   have hi2 : i < zs.length := by omega
   have hw := byte_of_wf (hwf _ (List.getElem_mem hi2))
   have e : nth ((zs.take len).map Int.toNat) i = (zs[i]'hi2).toNat := by
    unfold nth
    rw [List.getD_eq_getElem?_getD, List.getElem?_map, List.getElem?_take, if_pos hi, List.getElem?_eq_getElem hi2]; rfl
   rw [e, List.getD_eq_getElem?_getD, List.getElem?_eq_getElem hi2]
   simp only [Option.getD_some]
   rw [Int.toNat_of_nonneg hw.1]
theorem open_bytesc {H : Type} {enc : TypeId × Value → H} {r : Reach} {base : Nat} {sp : Nat → Bool} {held : Bool} {b0 : Nat} {d : DataW H} {p : List MemPlace} (hv : Value.okWide Tryz.prog W r base 22 v) (h : DataW.Trod enc Tryz.prog W b0 sp held 22 v d p) :
 ∃ bs : List Nat, ((∀ y, y ∈ bs → y < 256) ∧ bs.length ≤ 9223372036854775807) ∧ PieceV W W.heap.size v bs ∧ ∀ a n c, v = .slice a n c → n ≤ c := by
 obtain ⟨a0, len, cap, rfl⟩ := okWide_slice Tryz.underlying22 hv
 obtain ⟨fuel, hf⟩ := h
 have hc1 : Tryz.prog.cellsOf 5 = 1 := by kernel_rfl
 rcases open_ints Tryz.underlying22 Tryz.underlying5 hc1 hf with ⟨hcs, -⟩ | ⟨a, len', cap', zs, hcs, -, hl, hm, hz, -, hcell, hwf⟩
 ·have e : (Value.slice a0 len cap) = .slice none 0 0 := by simpa [Value.cells] using hcs
  injection e with e1 e2 e3
  subst e1 e2 e3
  exact ⟨[], ⟨by simp, by simp⟩, Or.inl ⟨⟨_, _, rfl⟩, rfl⟩, fun a n c h => by injection h with h1 h2 h3; omega⟩
 ·have e : (Value.slice a0 len cap) = .slice (some a) len' cap' := by simpa [Value.cells] using hcs
  injection e with e1 e2 e3
  subst e1 e2 e3
  have hle : len ≤ zs.length := by rw [hz]; split <;> omega
  obtain ⟨bs, h1, h2, h3⟩ := ints_piece (cap := cap) hle hcell hwf
  simp only [maxLen] at hm
  exact ⟨bs, ⟨h2, by omega⟩, h3, fun a n c h => by injection h with h1 h2 h3; omega⟩
def numOf : Option Value → Int
 | some (.int _ a) => a
 | _ => 0
theorem u8_of_wf {x : Int} (h : (Lit.int .u8 x).wf = true) : 0 ≤ x ∧ x < 256 := by
 simp [Lit.wf, IntKind.min, IntKind.max, IntKind.signed, IntKind.bits] at h
 exact ⟨by omega, by omega⟩
theorem open_h32 {H : Type} {enc : TypeId × Value → H} {r : Reach} {base : Nat} {sp : Nat → Bool} {held : Bool} {b0 : Nat} {d : DataW H} {p : List MemPlace} (hv : Value.okWide Tryz.prog W r base 24 v) (h : DataW.Trod enc Tryz.prog W b0 sp held 24 v d p) :
 ∃ f, Bytes8 f ∧ v = bv f := by
 unfold Value.okWide at hv
 rw [Tryz.underlying24] at hv
 obtain ⟨cs, rfl, hsz, -⟩ := hv
 have hc : Tryz.prog.cellsOf 24 = 32 := by kernel_rfl
 have hc1 : Tryz.prog.cellsOf 5 = 1 := by kernel_rfl
 rw [hc] at hsz
 obtain ⟨fuel, hf⟩ := h
 obtain ⟨xs, m, -, -, -, hlen, hat⟩ := DataW.trod_array Tryz.underlying24 hf
 have key : ∀ i, i < 32 → ∃ a : Int, cs[i]? = some (.int .u8 a) ∧ 0 ≤ a ∧ a < 256 := by
  intro i hi
  have h1 := hat i hi
  rw [hc1, Nat.mul_one] at h1
  have hs : (cs.toList.drop i).take 1 = [cs[i]'(by omega)] := by
   rw [List.drop_eq_getElem_cons (by simpa using (by omega : i < cs.size))]
   simp
  have hcells : (Value.agg cs).cells.toList = cs.toList := rfl
  rw [hcells, hs, List.getElem?_eq_getElem (by omega)] at h1
  obtain ⟨a, e, -, hw⟩ := DataW.trod_int Tryz.underlying5 h1
  have hb := u8_of_wf hw
  refine ⟨a, ?_, hb.1, hb.2⟩
  rw [Array.getElem?_eq_getElem (by omega)]
  simpa using e
 refine ⟨fun i => if i < 32 then numOf cs[i]? else 0, fun i => ?_, ?_⟩
 ·by_cases hi : i < 32
  ·obtain ⟨a, e, h1, h2⟩ := key i hi
   simp only [hi, if_true, e, numOf]; exact ⟨h1, h2⟩
  ·simp [hi]
 ·show Value.agg cs = Value.agg (row32 _)
  congr 1
  apply Array.ext_getElem?
  intro i
  by_cases hi : i < 32
  ·obtain ⟨a, e, -, -⟩ := key i hi
   rw [row32_get _ _ hi, e]; simp only [hi, if_true, numOf]
  ·rw [Array.getElem?_eq_none (by omega), Array.getElem?_eq_none (by unfold row32; simp; omega)]
end Go.Proofs.YtbaifchbpnmkpaaGreat
