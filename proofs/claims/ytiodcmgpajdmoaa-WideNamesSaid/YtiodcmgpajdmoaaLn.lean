/-
  The law WideNames: its walk.
-/
import Derived.Test.YtiodcmgpajdmoaaLa
namespace Go.Proofs.Ytiodcmgpajdmoaa
open Go.RowKit

/-- 2 to the power of 256, less 1. -/
def WALL : Nat := 115792089237316195423570985008687907853269984665640564039457584007913129639935
def WTOP : Nat := 115792089237316195423570985008687907853269984665640564039457584007913129639934

theorem of7 (W : World) : Calls Try.prog 30 #[.int .u64 7] W fun e w' => e = .returned (wv 7) ∧ Below W.heap.size W w' := by
  refine (of_c 7 (by decide) (by decide) _).mono ?_
  rintro e w' ⟨z, -, rfl, rfl, hb⟩
  exact ⟨rfl, hb⟩
theorem of1 (W : World) : Calls Try.prog 30 #[.int .u64 1] W fun e w' => e = .returned (wv 1) ∧ Below W.heap.size W w' := by
  refine (of_c 1 (by decide) (by decide) _).mono ?_
  rintro e w' ⟨z, -, rfl, rfl, hb⟩
  exact ⟨rfl, hb⟩
theorem bitsAll (W : World) : Calls Try.prog 22 #[wv WALL] W fun e w' => e = .returned (.int .i64 256) ∧ Below W.heap.size W w' := by
  refine (bits_c WALL (by decide) _).mono ?_
  rintro e w' ⟨rfl, hb⟩
  exact ⟨by rw [show blen WALL = 256 by decide +kernel]; rfl, hb⟩
theorem bitsZero (W : World) : Calls Try.prog 22 #[.agg #[.int .u64 0, .int .u64 0, .int .u64 0, .int .u64 0]] W fun e w' => e = .returned (.int .i64 0) ∧ Below W.heap.size W w' := by
  rw [← wv_zero]
  refine (bits_c 0 (by decide) _).mono ?_
  rintro e w' ⟨rfl, hb⟩
  exact ⟨rfl, hb⟩
theorem leftAll (W : World) : Calls Try.prog 24 #[wv WALL, .int .i64 256] W fun e w' => e = .returned (wv 0) ∧ Below W.heap.size W w' := by
  refine (left_c WALL (by decide) 256 (by decide) (by decide) _).mono ?_
  rintro e w' ⟨z, -, hz, rfl, hb⟩
  obtain rfl : z = 0 := hz.trans (by decide +kernel)
  exact ⟨rfl, hb⟩
theorem rightAll (W : World) : Calls Try.prog 25 #[wv WALL, .int .i64 256] W fun e w' => e = .returned (wv 0) ∧ Below W.heap.size W w' := by
  refine (right_c WALL (by decide) 256 (by decide) _).mono ?_
  rintro e w' ⟨z, -, hz, rfl, hb⟩
  obtain rfl : z = 0 := hz.trans (by decide +kernel)
  exact ⟨rfl, hb⟩
theorem leftNeg (W : World) : Calls Try.prog 24 #[wv WALL, .int .i64 (-1)] W fun e w' => e = .returned (wv WALL) ∧ Below W.heap.size W w' := by
  refine (left_n WALL (by decide) (-1) (by decide) _).mono ?_
  rintro e w' ⟨z, -, rfl, rfl, hb⟩
  exact ⟨rfl, hb⟩

set_option maxRecDepth 100000 in
set_option maxHeartbeats 4000000 in
theorem names_w (w : World) : Calls Try.prog 8 #[] w (RetB w true) := by
  have q1 := eql_wide0; have q2 := wide_guard; have q3 := eql_wide
  go_enter Try.func8, Try.ntmps8
  go_wp2_with fail
  refine (of_c 0 (by decide) (by decide) _).mono ?_
  rintro e W1 ⟨z, -, rfl, rfl, hb⟩
  have S1 := (St.nil w).keep hb
  clear hb
  go_wp2_with fail
  refine (of_c 1 (by decide) (by decide) _).mono ?_
  rintro e W2 ⟨z, -, rfl, rfl, hb⟩
  have S2 := S1.keep hb
  clear hb
  go_wp2_with fail
  refine (sub_c (Int.toNat 0) (Int.toNat 1) (by decide) (by decide) _).mono ?_
  rintro e W3 ⟨z, b, -, ⟨hz, hbb⟩, rfl, hb⟩
  obtain rfl : z = WALL := hz.trans (by decide +kernel)
  obtain rfl : b = true := hbb.trans (by decide +kernel)
  have S3 := (S2.keep hb).alloc (wrow WALL) _ rfl
  clear hb; try clear hz; try clear hbb
  go_wp2_with fail
  refine (of_c 7 (by decide) (by decide) _).mono ?_
  rintro e W4 ⟨z, -, rfl, rfl, hb⟩
  have S4 := S3.keep hb
  clear hb
  go_wp2_with fail
  refine (of_c 0 (by decide) (by decide) _).mono ?_
  rintro e W5 ⟨z, -, rfl, rfl, hb⟩
  have S5 := S4.keep hb
  clear hb
  go_wp2_with fail
  refine (div_c (Int.toNat 7) (Int.toNat 0) (by decide) (by decide) _).mono ?_
  rintro e W6 ⟨y, z, -, -, ⟨h, -⟩, rfl, hb⟩
  obtain ⟨hy, hz⟩ := h rfl
  obtain rfl : y = 0 := hy
  obtain rfl : z = 7 := hz
  have S6 := ((S5.keep hb).alloc (wrow 0) _ rfl).alloc (wrow 7) (W6.heap.size + 1) (by simp)
  clear hb; try clear hz; try clear hy; try clear h
  go_wp2_with (refine wpList_wide rfl _ rfl _ rfl S6 _ (List.Mem.tail _ (List.Mem.tail _ (List.Mem.head _))) ?_)
  refine (mul_c WALL WALL (by decide) (by decide) _).mono ?_
  rintro e W7 ⟨y, z, -, -, ⟨hy, hz⟩, rfl, hb⟩
  obtain rfl : y = 1 := hy.trans (by decide +kernel)
  obtain rfl : z = WTOP := hz.trans (by decide +kernel)
  have S7 := ((S6.keep hb).alloc (wrow 1) _ rfl).alloc (wrow WTOP) (W7.heap.size + 1) (by simp)
  clear hb; try clear hz; try clear hy
  go_wp2_with fail
  obtain ⟨L, hL⟩ : ∃ L, L = [(W7.heap.size + 1, wrow WTOP), (W7.heap.size, wrow 1), (W6.heap.size + 1, wrow 7), (W6.heap.size, wrow 0), (W3.heap.size, wrow WALL)] := ⟨_, rfl⟩
  rw [← hL] at S7
  have r0 := St.reads (w := w) (L := L) (g := W7.heap.size + 1) (z := WTOP) (by rw [hL]; exact (List.Mem.head _))
  have r1 := St.reads (w := w) (L := L) (g := W7.heap.size) (z := 1) (by rw [hL]; exact (List.Mem.tail _ (List.Mem.head _)))
  have r2 := St.reads (w := w) (L := L) (g := W6.heap.size + 1) (z := 7) (by rw [hL]; exact (List.Mem.tail _ (List.Mem.tail _ (List.Mem.head _))))
  have r3 := St.reads (w := w) (L := L) (g := W6.heap.size) (z := 0) (by rw [hL]; exact (List.Mem.tail _ (List.Mem.tail _ (List.Mem.tail _ (List.Mem.head _)))))
  have r4 := St.reads (w := w) (L := L) (g := W3.heap.size) (z := WALL) (by rw [hL]; exact (List.Mem.tail _ (List.Mem.tail _ (List.Mem.tail _ (List.Mem.tail _ (List.Mem.head _))))))
  have S8 := S7.drew
  clear hL
  have e1 : weq 0 0 = true := by decide +kernel
  have e2 : weq 7 7 = true := by decide +kernel
  have e3 : weq 1 1 = true := by decide +kernel
  have e4 : weq WALL WALL = true := by decide +kernel
  have e5 : ((limb WTOP 0 : Nat) : Int) = 18446744073709551614 := by decide +kernel
  go_region_held3 (fun w' => St w L w') (first | (exact St.keep (by assumption) (by assumption)) | assumption)
    (first | (go_at_call 10; refine (alive_c _).mono ?_; rintro e w' ⟨rfl, hb⟩) | (go_at_call 30; (with_reducible refine (of7 _).mono ?_); rintro e w' ⟨rfl, hb⟩) | (go_at_call 30; (with_reducible refine (of1 _).mono ?_); rintro e w' ⟨rfl, hb⟩) | (go_at_call 22; (with_reducible refine (bitsAll _).mono ?_); rintro e w' ⟨rfl, hb⟩) | (go_at_call 22; (with_reducible refine (bitsZero _).mono ?_); rintro e w' ⟨rfl, hb⟩) | (go_at_call 24; (with_reducible refine (leftAll _).mono ?_); rintro e w' ⟨rfl, hb⟩) | (go_at_call 24; (with_reducible refine (leftNeg _).mono ?_); rintro e w' ⟨rfl, hb⟩) | (go_at_call 25; (with_reducible refine (rightAll _).mono ?_); rintro e w' ⟨rfl, hb⟩))
  go_wp2_with fail
  go_ret
  exact ⟨rfl, St.below (L := L) (by assumption)⟩
end Go.Proofs.Ytiodcmgpajdmoaa
