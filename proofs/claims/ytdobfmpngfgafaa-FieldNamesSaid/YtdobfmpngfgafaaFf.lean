/-
  fieldAlive, the chapter's example: it answers true.
-/
import Derived.Test.YtdobfmpngfgafaaFe
import Derived.Test.YtdobfmpngfgafaaMp
namespace Go.Proofs.Ytdobfmpngfgafaa
open Go.RowKit

def HALF : Nat := 57896044618658097711785492504343953926634992332820282019728792003954417335832
theorem half_eq : 2 ^ (PRM true - 2) % PRM true = HALF := by
  rw [← mpow_eq (PRM true) 256 2 (PRM true - 2) (by decide +kernel)]
  decide +kernel

theorem right_any (a : Nat) (ha : a < W256) (n : Int) (hn : 1 ≤ n) (t : Nat) (h : a / 2 ^ n.toNat = t) (w : World) : Calls Try.prog 36 #[wv a, .int .i64 n] w fun e w' => e = .returned (wv t) ∧ Below w.heap.size w w' := by
  refine (right_c a ha n hn w).mono ?_
  rintro e w' ⟨z, -, rfl, rfl, hb⟩
  rw [h]; exact ⟨rfl, hb⟩

set_option maxRecDepth 100000 in
set_option maxHeartbeats 4000000 in
theorem falive_c (w : World) : Calls Try.prog 10 #[] w (RetB w true) := by
  have q1 := eql_wide0; have q2 := wide_guard; have q3 := eql_wide
  have CO2 := Lib.hid (fun W => of_n 2 2 rfl (by decide) W)
  have CO1 := Lib.hid (fun W => of_n 1 1 rfl (by decide) W)
  have CI : Hid (∀ g W, W.heap[g]? = some (rrow true) → Calls Try.prog 17 #[rptr g, wv 2] W fun e w' => e = .returned (.tuple #[wv HALF, .int .i64 0]) ∧ Below W.heap.size W w') := fun g W h => by
    have := inv_rc g 2 true (by decide) W h
    rw [if_neg (by decide +kernel), if_neg (by decide +kernel), half_eq] at this
    exact this
  have CM := Lib.hid (fun g W h => modulus_c g true W h)
  have CA := Lib.hid (fun W => add_n (PRM true) 1 (prm_lt true) (by decide) (PRM true + 1) false (by decide +kernel) (by decide +kernel) W)
  have CR := Lib.hid (fun W => right_any (PRM true + 1) (by decide +kernel) 1 (by decide) HALF (by decide +kernel) W)
  go_enter Try.func10, Try.ntmps10
  go_wp2_with fail
  refine (P_c _).mono ?_
  rintro e W1 ⟨g, rfl, hg, hb⟩
  have S1 := ((St.nil w).keep hb).cons hg.out
  clear hb
  go_wp2_with fail
  refine (CO2.out _).mono ?_
  rintro e W2 ⟨rfl, hb⟩
  have S2 := S1.keep hb
  clear hb
  go_wp2_with fail
  refine (CI.out g _ (S2.get (List.Mem.head _))).mono ?_
  rintro e W3 ⟨rfl, hb⟩
  have S3 := (S2.keep hb).alloc (wrow HALF) _ rfl
  clear hb
  go_wp2_with fail
  refine (CM.out g _ (S3.get (List.Mem.tail _ (List.Mem.head _)))).mono ?_
  rintro e W4 ⟨rfl, hb⟩
  have S4 := S3.keep hb
  clear hb
  go_wp2_with fail
  refine (CO1.out _).mono ?_
  rintro e W5 ⟨rfl, hb⟩
  have S5 := S4.keep hb
  clear hb
  go_wp2_with fail
  refine (CA.out _).mono ?_
  rintro e W6 ⟨rfl, hb⟩
  have S6 := (S5.keep hb).alloc (wrow (PRM true + 1)) _ rfl
  clear hb
  obtain ⟨L, hL⟩ : ∃ L, L = [(W6.heap.size, wrow (PRM true + 1)), (W3.heap.size, wrow HALF), (g, rrow true)] := ⟨_, rfl⟩
  rw [← hL] at S6
  have r0 := St.reads (w := w) (L := L) (g := W6.heap.size) (z := PRM true + 1) (by rw [hL]; exact List.Mem.head _)
  have r1 := St.reads (w := w) (L := L) (g := W3.heap.size) (z := HALF) (by rw [hL]; exact List.Mem.tail _ (List.Mem.head _))
  clear hL
  have e1 : weq HALF HALF = true := by decide +kernel
  have e2 : weq HALF 0 = false := by decide +kernel
  go_wp2_with fail
  have S7 := S6.drew
  go_region_held3 (fun w' => St w L w') (first | (exact St.keep (by assumption) (by assumption)) | assumption)
    (first | (go_at_call 36; (with_reducible refine (CR.out _).mono ?_); rintro e w' ⟨rfl, hb⟩))
  go_wp2_with fail
  go_ret
  exact ⟨rfl, St.below (L := L) (by assumption)⟩
end Go.Proofs.Ytdobfmpngfgafaa
