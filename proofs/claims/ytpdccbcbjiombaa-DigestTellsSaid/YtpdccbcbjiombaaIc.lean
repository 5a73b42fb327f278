/-
  The law DigestTells: its walk.
-/
import Derived.Test.YtpdccbcbjiombaaIb
namespace Go.Proofs.Ytpdccbcbjiombaa
open Go.RowKit

set_option maxRecDepth 100000 in
set_option maxHeartbeats 4000000 in
theorem dtells_w (va : Value) (xa : List Nat) (vb : Value) (xb : List Nat) (vc : Value) (xc : List Nat) (hab : (∀ y, y ∈ xa → y < 256) ∧ xa.length ≤ 9223372036854775807) (hbb : (∀ y, y ∈ xb → y < 256) ∧ xb.length ≤ 9223372036854775807) (hcb : (∀ y, y ∈ xc → y < 256) ∧ xc.length ≤ 9223372036854775807) (w : World) (ha : PieceV w w.heap.size va xa) (hb : PieceV w w.heap.size vb xb) (hc : PieceV w w.heap.size vc xc) :
    Calls Try.prog 5 #[va, vb, vc] w (RetB w true) := by
  have q1 := eql_hash; have q2 := hash_guard; have q3 := eql_short; have q4 := short_guard
  obtain ⟨aa, ac, rfl⟩ := ha.shape
  obtain ⟨ba, bc, rfl⟩ := hb.shape
  obtain ⟨ca, cc, rfl⟩ := hc.shape
  have HA := Lib.hid ha; have HB := Lib.hid hb; have HC := Lib.hid hc
  have HAB := Lib.hid hab; have HBB := Lib.hid hbb; have HCB := Lib.hid hcb
  have la := hab.2; have lb := hbb.2; have lc := hcb.2
  clear ha hb hc hab hbb hcb
  have short : ∀ W, Below w.heap.size w W → RetB w true (.returned (.bool true)) W := fun W h => ⟨rfl, h⟩
  have SH := Lib.hid short
  clear short
  go_enter Try.func5, Try.ntmps5
  go_wp2_with fail
  refine (dalive_c _).mono ?_
  rintro e W1 ⟨rfl, hb1⟩
  have HB1 := Lib.hid hb1
  by_cases h1 : 1000 < xa.length
  · have g1 : (1000 : Int) < xa.length := by omega
    go_wp2_with fail
    go_ret
    exact SH.out _ HB1.out
  by_cases h2 : 1000 < xb.length
  · have g1 : ¬ (1000 : Int) < xa.length := by omega
    have g2 : (1000 : Int) < xb.length := by omega
    go_wp2_with fail
    go_ret
    exact SH.out _ HB1.out
  by_cases h3 : 1000 < xc.length
  · have g1 : ¬ (1000 : Int) < xa.length := by omega
    have g2 : ¬ (1000 : Int) < xb.length := by omega
    have g3 : (1000 : Int) < xc.length := by omega
    go_wp2_with fail
    go_ret
    exact SH.out _ HB1.out
  have g1 : ¬ (1000 : Int) < xa.length := by omega
  have g2 : ¬ (1000 : Int) < xb.length := by omega
  have g3 : ¬ (1000 : Int) < xc.length := by omega
  have I0 := Lib.hid (PadR.new W1)
  have X0 := Lib.hid ((HA.out.later hb1).later (PadR.new W1).below).src
  have X1 := Lib.hid (HB.out.later hb1); have X2 := Lib.hid (HC.out.later hb1)
  have hf : [xa, xb, xc].flatten = xa ++ xb ++ xc := by simp
  have hfl : (xa ++ xb ++ xc).length ≤ 3000 := by simp only [List.length_append]; omega
  have hf256 : ∀ y, y ∈ xa ++ xb ++ xc → y < 256 := fun y hy => by
    simp only [List.mem_append] at hy
    rcases hy with (hy | hy) | hy
    · exact HAB.out.1 y hy
    · exact HBB.out.1 y hy
    · exact HCB.out.1 y hy
  have CS : Hid (∀ W g, Below w.heap.size w W → W.heap[g]? = some (.cells #[.slice aa xa.length ac, .slice ba xb.length bc, .slice ca xc.length cc] 26 (0, 0)) → Calls Try.prog 14 #[.slice (some ⟨g, 0, none⟩) 3 3] W fun e w' => e = .returned (.agg (wcells .u8 (sha (xa ++ xb ++ xc)))) ∧ Below W.heap.size W w') := fun W g hB hg => by
    have := sum_c _ [xa, xb, xc] W (pcs3 hg (HA.out.later hB) (HB.out.later hB) (HC.out.later hB)) (by rw [hf]; exact hf256) (by rw [hf]; omega) (by simp)
    rwa [hf] at this
  have CT : Hid (∀ W g, Below w.heap.size w W → W.heap[g]? = some (.cells #[.slice aa xa.length ac, .slice ba xb.length bc, .slice ca xc.length cc] 26 (0, 0)) → Calls Try.prog 15 #[.slice (some ⟨g, 0, none⟩) 3 3] W fun e w' => e = .returned (.agg (wcells .u8 (sha (sha (xa ++ xb ++ xc))))) ∧ Below W.heap.size W w') := fun W g hB hg => by
    have := twice_c _ [xa, xb, xc] W (pcs3 hg (HA.out.later hB) (HB.out.later hB) (HC.out.later hB)) (by rw [hf]; exact hf256) (by rw [hf]; omega) (by simp)
    rwa [hf] at this
  have CU : Hid (∀ W g, Below w.heap.size w W → W.heap[g]? = some (.cells #[.slice aa xa.length ac, .slice ba xb.length bc, .slice ca xc.length cc] 26 (0, 0)) → Calls Try.prog 17 #[.slice (some ⟨g, 0, none⟩) 3 3] W fun e w' => e = .returned (.agg (wcells .u8 ((sha (sha (xa ++ xb ++ xc))).take 20))) ∧ Below W.heap.size W w') := fun W g hB hg => by
    have := short_c _ [xa, xb, xc] W (pcs3 hg (HA.out.later hB) (HB.out.later hB) (HC.out.later hB)) (by rw [hf]; exact hf256) (by rw [hf]; omega) (by simp)
    rwa [hf] at this
  have RS : Hid (∀ W v, RestV W v (xa ++ xb ++ xc) → Calls Try.prog 13 #[v] W fun e w' => e = .returned (.agg (wcells .u8 (sha (xa ++ xb ++ xc)))) ∧ Below W.heap.size W w') := fun W v h => rsum_c v _ W h.piece hf256 (by omega)
  have RT : Hid (∀ W v, RestV W v (xa ++ xb ++ xc) → Calls Try.prog 16 #[v] W fun e w' => e = .returned (.agg (wcells .u8 (sha (sha (xa ++ xb ++ xc))))) ∧ Below W.heap.size W w') := fun W v h => rtwice_c v _ W h.piece hf256 (by omega)
  have RU : Hid (∀ W v, RestV W v (xa ++ xb ++ xc) → Calls Try.prog 18 #[v] W fun e w' => e = .returned (.agg (wcells .u8 ((sha (sha (xa ++ xb ++ xc))).take 20))) ∧ Below W.heap.size W w') := fun W v h => rshort_c v _ W h.piece hf256 (by omega)
  have e1 := heq_self (sha (xa ++ xb ++ xc)); have e2 := heq_self (sha (sha (xa ++ xb ++ xc))); have e3 := heq_self ((sha (sha (xa ++ xb ++ xc))).take 20)
  have l1 := sha_len (xa ++ xb ++ xc); have l2 := sha_len (sha (xa ++ xb ++ xc)); have l3 : ((sha (sha (xa ++ xb ++ xc))).take 20).length = 20 := by rw [List.length_take, l2]; decide
  obtain ⟨d3, hd3⟩ : ∃ d, d = (sha (sha (xa ++ xb ++ xc))).take 20 := ⟨_, rfl⟩
  rw [← hd3] at CU RU e3 l3
  obtain ⟨d2, hd2⟩ : ∃ d, d = sha (sha (xa ++ xb ++ xc)) := ⟨_, rfl⟩
  rw [← hd2] at CT RT e2 l2
  obtain ⟨d1, hd1⟩ : ∃ d, d = sha (xa ++ xb ++ xc) := ⟨_, rfl⟩
  rw [← hd1] at CS RS e1 l1
  clear hb1 hf hfl hf256 hd1 hd2 hd3
  go_wp2_with (at_builtin; go_loud (first
    | (refine wpList_app (by rfl) (.tmp 23) (.tmp 24) (by rfl) _ _ (by rfl) (by rfl) [] xa I0.out.rest X0.out (by simp; omega) ?_; intro v1 V1 R1 K1 N1; obtain ⟨va1, vc1, ee1⟩ := R1.shape; subst ee1; have I1 := Lib.hid (I0.out.app R1 K1 N1); clear R1 K1 N1)
    | (refine wpList_app (by rfl) (.tmp 25) (.tmp 26) (by rfl) _ _ (by rfl) (by rfl) ([] ++ xa) xb I1.out.rest (X1.out.later I1.out.below).src (by simp; omega) ?_; intro v2 V2 R2 K2 N2; obtain ⟨va2, vc2, ee2⟩ := R2.shape; subst ee2; have I2a := I1.out.app R2 K2 N2; rw [List.nil_append, List.length_append] at I2a; have I2 := Lib.hid I2a; clear R2 K2 N2 I2a)
    | (refine wpList_app (by rfl) (.tmp 27) (.tmp 28) (by rfl) _ _ (by rfl) (by rfl) (xa ++ xb) xc I2.out.rest (X2.out.later I2.out.below).src (by simp; omega) ?_; intro v3 V3 R3 K3 N3; obtain ⟨va3, vc3, ee3⟩ := R3.shape; subst ee3; have I3a := I2.out.app R3 K3 N3; rw [List.length_append, List.length_append, Nat.add_assoc] at I3a; have I3 := Lib.hid I3a; clear R3 K3 N3 I3a)))
  have P3 := Lib.hid (I3.out.alloc (.cells #[.slice aa xa.length ac, .slice ba xb.length bc, .slice ca xc.length cc] 26))
  have hB3 := Lib.hid (below_step HB1.out P3.out.below)
  refine (CS.out _ _ hB3.out (lastH _ _ _ rfl)).mono ?_
  rintro e U3 ⟨rfl, hb⟩
  have Q3 := Lib.hid (P3.out.keep hb)
  clear hb P3 hB3
  go_wp2_with fail
  refine (RS.out _ _ Q3.out.rest).mono ?_
  rintro e V4 ⟨rfl, hb⟩
  have I4 := Lib.hid (Q3.out.keep hb)
  clear hb Q3
  go_wp2_with fail
  have P4 := Lib.hid (I4.out.alloc (.cells #[.slice aa xa.length ac, .slice ba xb.length bc, .slice ca xc.length cc] 26))
  have hB4 := Lib.hid (below_step HB1.out P4.out.below)
  refine (CT.out _ _ hB4.out (lastH _ _ _ rfl)).mono ?_
  rintro e U4 ⟨rfl, hb⟩
  have Q4 := Lib.hid (P4.out.keep hb)
  clear hb P4 hB4
  go_wp2_with fail
  refine (RT.out _ _ Q4.out.rest).mono ?_
  rintro e V5 ⟨rfl, hb⟩
  have I5 := Lib.hid (Q4.out.keep hb)
  clear hb Q4
  go_wp2_with fail
  have P5 := Lib.hid (I5.out.alloc (.cells #[.slice aa xa.length ac, .slice ba xb.length bc, .slice ca xc.length cc] 26))
  have hB5 := Lib.hid (below_step HB1.out P5.out.below)
  refine (CU.out _ _ hB5.out (lastH _ _ _ rfl)).mono ?_
  rintro e U5 ⟨rfl, hb⟩
  have Q5 := Lib.hid (P5.out.keep hb)
  clear hb P5 hB5
  go_wp2_with fail
  refine (RU.out _ _ Q5.out.rest).mono ?_
  rintro e V6 ⟨rfl, hb⟩
  have I6 := Lib.hid (Q5.out.keep hb)
  clear hb Q5
  go_wp2_with fail
  go_ret
  exact ⟨rfl, below_step HB1.out I6.out.below⟩
end Go.Proofs.Ytpdccbcbjiombaa
