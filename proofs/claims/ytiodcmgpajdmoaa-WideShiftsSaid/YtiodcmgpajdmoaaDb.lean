/-
  bynameref02.Bits: how many bits digits have.
-/
import Derived.Test.YtiodcmgpajdmoaaDm
namespace Go.Proofs.Ytiodcmgpajdmoaa
open Go.RowKit

theorem blen_half (x : Nat) (h : 0 < x) : blen x = blen (x / 2) + 1 := by
  by_cases h2 : 2 ≤ x
  · have := blen_div x 1 (by simpa using h2)
    rw [Nat.pow_one] at this; omega
  · obtain rfl : x = 1 := by omega
    decide +kernel
theorem blen_digit (ds : List Nat) (h : Digs ds) (i : Nat) (h0 : dg ds i ≠ 0) : blen (valN ds (i + 1)) = 16 * i + blen (dg ds i) := by
  have hl := valN_lt ds h i
  have hp : (65536 : Nat) ^ i = 2 ^ (16 * i) := by rw [show (65536 : Nat) = 2 ^ 16 from rfl, ← Nat.pow_mul]
  rw [hp] at hl
  have hge : 2 ^ (16 * i) ≤ dg ds i * 2 ^ (16 * i) := Nat.le_mul_of_pos_left _ (by omega)
  rw [valN, hp]
  rw [blen_div _ (16 * i) (by omega)]
  congr 2
  rw [Nat.add_mul_div_right _ _ (Nat.two_pow_pos _), Nat.div_eq_of_lt hl, Nat.zero_add]
theorem blen_nought (ds : List Nat) (i : Nat) (h0 : dg ds i = 0) : blen (valN ds (i + 1)) = blen (valN ds i) := by
  rw [valN, h0]; simp

set_option maxRecDepth 100000 in
set_option maxHeartbeats 4000000 in
theorem bits_d (b1 o1 c1 : Nat) (da : List Nat) (w : World) (h1 : Dg w b1 o1 da) (l1 : da.length ≤ 1000) (g1 : Digs da) :
    Calls Try.prog 23 #[sv b1 o1 da.length c1] w fun e w' => e = .returned (.int .i64 (blen (val da))) ∧ w = w' := by
  have H1 := Lib.hid h1; have G1 := Lib.hid g1
  have hll : (da.length : Int) ≤ 1000 := by omega
  clear h1 g1
  go_enter Try.func23, Try.ntmps23
  go_wp2
  go_loop [3, 9] (fun nv iv => ∃ i n : Nat, iv = .int .i64 i ∧ nv = .int .i64 n ∧ i ≤ da.length ∧ Hid (n = blen (valN da i))) (fun _ iv => da.length - (intOf iv).toNat)
  case atStart => exact ⟨0, 0, rfl, rfl, Nat.zero_le _, rfl⟩
  case round =>
    obtain ⟨i, n, rfl, rfl, hi, J⟩ := hrel
    by_cases h1 : i < da.length
    · have h1i : (i : Int) < da.length := by omega
      have r1 := H1.out.cell i h1
      have hx : dg da i < 65536 := digs_at da G1.out i
      have hbl : Hid (blen (dg da i) ≤ 16) := (blen_le_iff _ 16).2 (by simpa using hx)
      go_wp2
      go_loop [5, 6] (fun xv kv => ∃ x k : Nat, xv = .int .u64 x ∧ kv = .int .i64 k ∧ x < 65536 ∧ k ≤ 16 ∧ Hid (k + blen x = blen (dg da i))) (fun xv _ => (intOf xv).toNat)
      case atStart => exact ⟨dg da i, 0, rfl, rfl, hx, by decide, by simp [Hid]⟩
      case round =>
        obtain ⟨x, k, rfl, rfl, hx2, hk, I⟩ := hrel
        by_cases h0 : 0 < x
        · have h0i : (0 : Int) < x := by omega
          have hki : (k : Int) ≤ 16 := by omega
          obtain ⟨y, hy, f1⟩ : ∃ y : Nat, y = x / 2 ∧ (x : Int) / 2 = y := ⟨_, rfl, by omega⟩
          have HI : Hid (k + 1 + blen y = blen (dg da i)) := by have := I.out; rw [blen_half x h0, ← hy] at this; unfold Hid; omega
          have hk2 : k + 1 ≤ 16 := by have := HI.out; have := hbl.out; omega
          have hyl : y < x := by omega
          clear hy
          go_wp2
          go_round
          case rel => exact ⟨y, k + 1, by first | rfl | rw [f1], by go_num, by omega, hk2, HI⟩
          case measure => simp [intOf]; omega
        · obtain rfl : x = 0 := by omega
          have hke : k = blen (dg da i) := I.out
          clear h0
          by_cases hz : dg da i = 0
          · have hk0 : k = 0 := by rw [hke, hz]; rfl
            have HI : Hid (n = blen (valN da (i + 1))) := by rw [blen_nought da i hz]; exact J
            clear hke
            subst hk0
            have Hz := Lib.hid hz; clear hz
            go_wp2
            go_round
            case rel => exact ⟨i + 1, n, by go_num, rfl, by omega, HI⟩
            case measure => simp [intOf]; omega
          · have hkp : 0 < k := by rw [hke]; exact (blen_lt_iff _ 0).2 (by simp; omega)
            have hkpi : (0 : Int) < k := by omega
            have HI : Hid (16 * i + k = blen (valN da (i + 1))) := by rw [blen_digit da G1.out i hz, hke]; rfl
            clear hke hz
            go_wp2
            go_round
            case rel => exact ⟨i + 1, 16 * i + k, by go_num, by simp, by omega, HI⟩
            case measure => simp [intOf]; omega
    · have h1i : ¬ (i : Int) < da.length := by omega
      obtain rfl : i = da.length := by omega
      have HF : Hid (n = blen (val da)) := by have := J.out; rw [valN_eq da _ (Nat.le_refl _)] at this; exact this
      go_wp2
      go_ret
      exact ⟨by rw [HF.out]; rfl, rfl⟩
end Go.Proofs.Ytiodcmgpajdmoaa
