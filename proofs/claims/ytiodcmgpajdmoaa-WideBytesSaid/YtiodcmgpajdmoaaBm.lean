/-
  Bytes and numbers: there and back; which is less.
-/
import Derived.Test.YtiodcmgpajdmoaaFr
import Derived.Laws.BytesArg
import Derived.Test.YtiodcmgpajdmoaaEq
namespace Go.Proofs.Ytiodcmgpajdmoaa
open Go.RowKit
theorem beN_byteAt (a : Nat) : ∀ k, k ≤ 32 → beN (byteAt a) k = a % 256 ^ k
  | 0, _ => by simp [beN, Nat.mod_one]
  | k + 1, h => by
    rw [beN, beN_byteAt a k (by omega), byteAt, show 31 - (31 - k) = k by omega, Int.toNat_natCast, Nat.mod_pow_succ, Nat.mul_comm]
theorem beN_at (c : Nat → Int) (hc : Bytes8 c) (j : Nat) : ∀ n, j < n → beN c n / 256 ^ j % 256 = (c (31 - j)).toNat
  | 0, h => absurd h (by omega)
  | n + 1, h => by
    have hb : (c (31 - n)).toNat < 256 := by have := hc (31 - n); omega
    have hl := beN_lt c hc n
    rw [beN]
    by_cases e : j = n
    · subst e
      rw [Nat.add_mul_div_right _ _ (Nat.pow_pos (by decide)), Nat.div_eq_of_lt hl, Nat.zero_add]
      exact Nat.mod_eq_of_lt hb
    · obtain ⟨d, rfl⟩ : ∃ d, n = j + (d + 1) := ⟨n - j - 1, by omega⟩
      rw [Nat.pow_add, Nat.mul_left_comm, Nat.add_mul_div_left _ _ (Nat.pow_pos (by decide)), Nat.pow_succ, ← Nat.mul_assoc, Nat.add_mul_mod_self_right]
      exact beN_at c hc j _ (by omega)
theorem byteAt_beN (c : Nat → Int) (hc : Bytes8 c) (i : Nat) (hi : i < 32) : byteAt (beN c 32) i = c i := by
  have h := hc i
  rw [byteAt, beN_at c hc (31 - i) 32 (by omega), show 31 - (31 - i) = i by omega]
  omega
theorem cells32_congr {f g : Nat → Int} (h : ∀ i, i < 32 → f i = g i) : row32 f = row32 g := by
  unfold row32; rw [cells32_eq, cells32_eq]
  congr 1
  exact List.map_congr_left fun i hi => by rw [h i (List.mem_range.1 hi)]
theorem bytes_from (c : Nat → Int) (hc : Bytes8 c) : row32 (byteAt (beN c 32)) = row32 c := cells32_congr (byteAt_beN c hc)
theorem bytes8_byteAt (a : Nat) : Bytes8 (byteAt a) := fun i => by
  unfold byteAt
  have := Nat.mod_lt (a / 256 ^ (31 - i)) (show 0 < 256 by decide)
  omega
theorem from_bytes (a : Nat) (ha : a < W256) (W : World) : Calls Try.prog 21 #[bv (byteAt a)] W fun e w' => e = .returned (wv a) ∧ Below W.heap.size W w' := by
  refine (from_w (byteAt a) (bytes8_byteAt a) W).mono ?_
  rintro e w' ⟨z, -, rfl, rfl, hb⟩
  have hp : (256 : Nat) ^ 32 = W256 := by decide +kernel
  exact ⟨by rw [beN_byteAt a 32 (by decide), hp, Nat.mod_eq_of_lt ha], hb⟩
theorem low_byte (a : Nat) : IntKind.u8.wrap ((limb a 0 : Nat) : Int) = byteAt a 31 := by
  rw [IntKind.wrap_u8]; unfold limb byteAt
  simp only [Nat.pow_zero, Nat.sub_self, Nat.div_one]
  omega
theorem high_byte (a : Nat) (ha : a < W256) : IntKind.u8.wrap (((limb a 3 : Nat) : Int) / 72057594037927936) = byteAt a 0 := by
  rw [IntKind.wrap_u8]; unfold limb byteAt
  have h1 : a / 256 ^ (31 - 0) = a / 18446744073709551616 ^ 3 / 72057594037927936 := by rw [Nat.div_div_eq_div_mul]
  rw [h1]
  have hp : (18446744073709551616 : Nat) ^ 3 * 18446744073709551616 = W256 := by decide +kernel
  have h2 : a / 18446744073709551616 ^ 3 < 18446744073709551616 := Nat.div_lt_of_lt_mul (by rw [hp]; exact ha)
  generalize a / 18446744073709551616 ^ 3 = x at *
  omega
/-- Bytes as a number, the greatest first. -/
def beval : List UInt8 → Nat
  | [] => 0
  | x :: l => x.toNat * 256 ^ l.length + beval l
theorem beval_lt : ∀ l, beval l < 256 ^ l.length
  | [] => by simp [beval]
  | x :: l => by
    have h := beval_lt l
    have hx := x.toNat_lt
    have h2 := Nat.mul_le_mul_right (256 ^ l.length) (show x.toNat ≤ 255 by omega)
    rw [beval, List.length_cons, Nat.pow_succ]; omega
theorem bytesLess_beval : ∀ (x y : List UInt8), x.length = y.length → Op.bytesLess x y = decide (beval x < beval y)
  | [], [], _ => by simp [Op.bytesLess, beval]
  | a :: x, b :: y, h => by
    have hl : x.length = y.length := by simpa using h
    have ih := bytesLess_beval x y hl
    have hx := beval_lt x; have hy := beval_lt y
    rw [Op.bytesLess, ih, beval, beval, hl]
    rw [hl] at hx
    have hp : 0 < 256 ^ y.length := Nat.pow_pos (by decide)
    rcases Nat.lt_trichotomy a.toNat b.toNat with hlt | heq | hgt
    · have h1 : decide (a < b) = true := by simpa [UInt8.lt_iff_toNat_lt] using hlt
      have h2 := Nat.mul_le_mul_right (256 ^ y.length) (show a.toNat + 1 ≤ b.toNat from hlt)
      rw [Nat.add_mul] at h2
      rw [h1, show decide (a.toNat * 256 ^ y.length + beval x < b.toNat * 256 ^ y.length + beval y) = true by simp; omega]; rfl
    · have hab : a = b := UInt8.toNat_inj.1 heq
      subst hab
      have h1 : decide (a < a) = false := by simp
      rw [h1]; simp
    · have h1 : decide (a < b) = false := by simp [UInt8.lt_iff_toNat_lt]; omega
      have h2 := Nat.mul_le_mul_right (256 ^ y.length) (show b.toNat + 1 ≤ a.toNat from hgt)
      rw [Nat.add_mul] at h2
      have h3 : (a == b) = false := by
        simp; intro e; subst e; omega
      rw [h1, h3, show decide (a.toNat * 256 ^ y.length + beval x < b.toNat * 256 ^ y.length + beval y) = false by simp; omega]; rfl
theorem beval_range (f : Nat → Int) (hf : Bytes8 f) : ∀ n, n ≤ 32 → beval ((List.range' (32 - n) n).map fun i => UInt8.ofNat (f i).toNat) = beN f n
  | 0, _ => rfl
  | n + 1, h => by
    have ih := beval_range f hf n (by omega)
    have hb : (f (31 - n)).toNat < 256 := by have := hf (31 - n); omega
    rw [List.range'_succ, List.map_cons, beval, show 32 - (n + 1) + 1 = 32 - n by omega, ih, beN, show 32 - (n + 1) = 31 - n by omega, List.length_map, List.length_range', UInt8.toNat_ofNat', Nat.mod_eq_of_lt (by simpa using hb)]
    omega
theorem beval_str (f : Nat → Int) (hf : Bytes8 f) : beval (strOfNums ((List.range 32).map f)).data.toList = beN f 32 := by
  rw [strOfNums_data, List.map_map, List.range_eq_range']
  exact beval_range f hf 32 (by decide)
theorem str_less (a b : Nat) (ha : a < W256) (hb : b < W256) : Op.bytesLess (strOfNums ((List.range 32).map (byteAt a))).toList (strOfNums ((List.range 32).map (byteAt b))).toList = decide (a < b) := by
  have hp : (256 : Nat) ^ 32 = W256 := by decide +kernel
  rw [ByteArray.toList_eq, ByteArray.toList_eq, bytesLess_beval _ _ (by simp [strOfNums_data]), beval_str _ (bytes8_byteAt a), beval_str _ (bytes8_byteAt b), beN_byteAt a 32 (by decide), beN_byteAt b 32 (by decide), hp, Nat.mod_eq_of_lt ha, Nat.mod_eq_of_lt hb]
theorem eql_b32_same (c : Nat → Int) (W : World) : (Op.equalIn 10000 36 (bv c) (bv c)).run Try.prog W = .ok true W := by
  obtain ⟨i, hi⟩ := Option.isSome_iff_exists.1 (show (Try.prog.info? 5).isSome = true by kernel_rfl)
  have := run_eql_array (P := Try.prog) W Try.underlying36 Try.underlying5 hi (by kernel_rfl) c c (row32 c) (row32 c) (row32_get c) (row32_get c)
  rw [this, (alike_iff 32 c c).2 (fun _ _ => rfl)]
end Go.Proofs.Ytiodcmgpajdmoaa
