/-
  Rows of words; the leaves: turn, right, down, the constants.
-/
import Derived.Test.YtbjcigokimieoaaHa
import Derived.LoopTactic
import Derived.BigQuiet
import Derived.Deep.QuietTactic
import Derived.Deep.WholeRow
import Derived.Laws.Bits64
import Derived.Laws.Bits64b
namespace Go.Proofs.Ytbjcigokimieoaa
open Go.RowKit

/-- Words as cells. -/
def wcells (K : IntKind) (l : List Nat) : Array Value := (l.map fun n => Value.int K ((n : Nat) : Int)).toArray
theorem wcells_get (K : IntKind) (l : List Nat) (i : Nat) (h : i < l.length) : (wcells K l)[i]? = some (.int K ((nth l i : Nat) : Int)) := by
  simp only [wcells, List.getElem?_toArray, List.getElem?_map, nth_get l i h, Option.map_some]
theorem wcells_size (K : IntKind) (l : List Nat) : (wcells K l).size = l.length := by simp [wcells]
theorem wcells_set (K : IntKind) (l : List Nat) (i x : Nat) : (wcells K l).setIfInBounds i (.int K ((x : Nat) : Int)) = wcells K (l.set i x) := by
  simp only [wcells, List.setIfInBounds_toArray, List.map_set]
theorem cell_w {K : IntKind} {W : World} {g : Nat} {t : TypeId} {l : List Nat} (h : W.heap[g]? = some (.cells (wcells K l) t (0, 0))) (i : Nat) (hi : i < l.length) : W.cell? ⟨g, i, none⟩ = some (.int K ((nth l i : Nat) : Int)) :=
  (cell_of_row _ _ _ _ _ _ h).trans (wcells_get K l i hi)
theorem set_w {K : IntKind} {W : World} {g : Nat} {t : TypeId} {l : List Nat} (h : W.heap[g]? = some (.cells (wcells K l) t (0, 0))) (i x : Nat) : (W.setCell ⟨g, i, none⟩ (.int K ((x : Nat) : Int))).heap[g]? = some (.cells (wcells K (l.set i x)) t (0, 0)) := by
  have h0 := heap_setCell_same W g i _ _ (.int K ((x : Nat) : Int)) h
  rw [h0, wcells_set]

theorem xor32 (a b : Nat) (ha : a < 4294967296) (hb : b < 4294967296) : bits .xor .u32 (a : Int) (b : Int) = ((a ^^^ b : Nat) : Int) := by
  have hx : a ^^^ b < 2 ^ 32 := Nat.xor_lt_two_pow (n := 32) (by omega) (by omega)
  have h1 : (BitVec.ofInt 32 (a : Int)).toNat = a := by
    rw [BitVec.ofInt_natCast, BitVec.toNat_ofNat]; exact Nat.mod_eq_of_lt (by omega)
  have h2 : (BitVec.ofInt 32 (b : Int)).toNat = b := by
    rw [BitVec.ofInt_natCast, BitVec.toNat_ofNat]; exact Nat.mod_eq_of_lt (by omega)
  show IntKind.u32.wrap ((BitVec.ofInt 32 (a : Int) ^^^ BitVec.ofInt 32 (b : Int)).toNat : Int) = _
  rw [BitVec.toNat_xor, h1, h2, IntKind.wrap_u32]
  omega
theorem and32 (a b : Nat) (ha : a < 4294967296) (hb : b < 4294967296) : bits .and .u32 (a : Int) (b : Int) = ((a &&& b : Nat) : Int) := by
  have hx : a &&& b < 2 ^ 32 := Nat.and_lt_two_pow (n := 32) _ (by omega)
  have h1 : (BitVec.ofInt 32 (a : Int)).toNat = a := by
    rw [BitVec.ofInt_natCast, BitVec.toNat_ofNat]; exact Nat.mod_eq_of_lt (by omega)
  have h2 : (BitVec.ofInt 32 (b : Int)).toNat = b := by
    rw [BitVec.ofInt_natCast, BitVec.toNat_ofNat]; exact Nat.mod_eq_of_lt (by omega)
  show IntKind.u32.wrap ((BitVec.ofInt 32 (a : Int) &&& BitVec.ofInt 32 (b : Int)).toNat : Int) = _
  rw [BitVec.toNat_and, h1, h2, IntKind.wrap_u32]
  omega
theorem or32 (a b : Nat) (ha : a < 4294967296) (hb : b < 4294967296) : bits .or .u32 (a : Int) (b : Int) = ((a ||| b : Nat) : Int) := by
  have hx : a ||| b < 2 ^ 32 := Nat.or_lt_two_pow (n := 32) (by omega) (by omega)
  have h1 : (BitVec.ofInt 32 (a : Int)).toNat = a := by
    rw [BitVec.ofInt_natCast, BitVec.toNat_ofNat]; exact Nat.mod_eq_of_lt (by omega)
  have h2 : (BitVec.ofInt 32 (b : Int)).toNat = b := by
    rw [BitVec.ofInt_natCast, BitVec.toNat_ofNat]; exact Nat.mod_eq_of_lt (by omega)
  show IntKind.u32.wrap ((BitVec.ofInt 32 (a : Int) ||| BitVec.ofInt 32 (b : Int)).toNat : Int) = _
  rw [BitVec.toNat_or, h1, h2, IntKind.wrap_u32]
  omega

theorem rot_left (x n : Nat) (hx : x < 4294967296) : bits .or .u32 (IntKind.u32.wrap ((x : Int) * 2 ^ (32 - n))) ((x : Int) / 2 ^ n) = ((rotr x n : Nat) : Int) := by
  have e1 : IntKind.u32.wrap ((x : Int) * 2 ^ (32 - n)) = ((x * 2 ^ (32 - n) % 4294967296 : Nat) : Int) := by
    rw [IntKind.wrap_u32]
    have : ((x : Int) * 2 ^ (32 - n)) = ((x * 2 ^ (32 - n) : Nat) : Int) := by simp
    rw [this]; omega
  have e2 : (x : Int) / 2 ^ n = ((x / 2 ^ n : Nat) : Int) := by
    have : ((2 : Int) ^ n) = ((2 ^ n : Nat) : Int) := by simp
    rw [this]; exact (Int.natCast_ediv x (2 ^ n)).symm
  have hd : x / 2 ^ n < 4294967296 := Nat.lt_of_le_of_lt (Nat.div_le_self _ _) hx
  rw [e1, e2, or32 _ _ (Nat.mod_lt _ (by decide)) hd]
  unfold rotr
  rw [show (4294967296 : Nat) = 2 ^ 32 from rfl, Nat.or_mod_two_pow, Nat.mod_eq_of_lt (a := x / 2 ^ n) hd, Nat.or_comm]
theorem rot_right (x n : Nat) (hx : x < 4294967296) (hn : 1 ≤ n ∧ n ≤ 31) : (bits .or .u64 ((x : Int) / 2 ^ n) (IntKind.u64.wrap ((x : Int) * 2 ^ (32 - n)))).tmod 4294967296 = ((rotr x n : Nat) : Int) := by
  have hp : 2 ^ (32 - n) ≤ 2 ^ 31 := Nat.pow_le_pow_right (by decide) (by omega)
  have hm : x * 2 ^ (32 - n) < 18446744073709551616 := by
    have := Nat.mul_lt_mul_of_lt_of_le hx hp (by decide)
    omega
  have e1 : IntKind.u64.wrap ((x : Int) * 2 ^ (32 - n)) = ((x * 2 ^ (32 - n) : Nat) : Int) := by
    rw [IntKind.wrap_u64]
    have : ((x : Int) * 2 ^ (32 - n)) = ((x * 2 ^ (32 - n) : Nat) : Int) := by simp
    rw [this]; omega
  have e2 : (x : Int) / 2 ^ n = ((x / 2 ^ n : Nat) : Int) := by
    have : ((2 : Int) ^ n) = ((2 ^ n : Nat) : Int) := by simp
    rw [this]; exact (Int.natCast_ediv x (2 ^ n)).symm
  have hd : x / 2 ^ n < 18446744073709551616 := Nat.lt_of_le_of_lt (Nat.div_le_self _ _) (by omega)
  rw [e1, e2, bits_or_u64_nat _ _ hd hm, Int.tmod_eq_emod_of_nonneg (by omega)]
  rfl
theorem back32 : ∀ n : Fin 32, 1 ≤ n.val → bits .and .u64 (IntKind.u64.wrap (-(n.val : Int))) 31 = ((32 - n.val : Nat) : Int) := by decide +kernel

set_option maxHeartbeats 1000000 in
theorem turn_c (x n : Nat) (hx : x < 4294967296) (hn : 1 ≤ n ∧ n ≤ 31) (w : World) : Calls Try.prog 46 #[.int .u32 (x : Int), .int .i64 (n : Int)] w fun e w' => e = .returned (.int .u32 ((rotr x n : Nat) : Int)) ∧ w = w' := by
  have hb := back32 ⟨n, by omega⟩ hn.1
  have hr := rot_left x n hx
  have e0 : (32 - (n : Int)) = ((32 - n : Nat) : Int) := by omega
  obtain ⟨m, hm⟩ : ∃ m, m = 32 - n := ⟨_, rfl⟩
  have hmn : 32 - m = n := by omega
  have hm2 : 1 ≤ m ∧ m ≤ 31 := by omega
  rw [← hm] at hb hr e0
  have e3 : (32 - (m : Int)) = ((n : Nat) : Int) := by omega
  have hn1 : IntKind.i64.wrap (-(n : Int)) = -(n : Int) := by rw [IntKind.wrap_i64]; omega
  have HR := Lib.hid hr
  clear hr hm
  go_enter Try.func46, Try.ntmps46
  go_wp2
  go_ret
  exact ⟨by rw [← HR.out]; rfl, rfl⟩

set_option maxHeartbeats 1000000 in
theorem rright_c (x n : Nat) (hx : x < 4294967296) (hn : 1 ≤ n ∧ n ≤ 31) (w : World) : Calls Try.prog 40 #[.int .u64 (x : Int), .int .u64 (n : Int)] w fun e w' => e = .returned (.int .u64 ((rotr x n : Nat) : Int)) ∧ w = w' := by
  have hr := Lib.hid (rot_right x n hx hn)
  go_enter Try.func40, Try.ntmps40
  go_wp2
  go_ret
  exact ⟨by rw [← hr.out]; rfl, rfl⟩

set_option maxHeartbeats 1000000 in
theorem down_c (x n : Nat) (_hn : 1 ≤ n ∧ n ≤ 31) (w : World) : Calls Try.prog 41 #[.int .u64 (x : Int), .int .u64 (n : Int)] w fun e w' => e = .returned (.int .u64 ((x / 2 ^ n : Nat) : Int)) ∧ w = w' := by
  have e2 : (x : Int) / 2 ^ n = ((x / 2 ^ n : Nat) : Int) := by
    have : ((2 : Int) ^ n) = ((2 ^ n : Nat) : Int) := by simp
    rw [this]; exact (Int.natCast_ediv x (2 ^ n)).symm
  have E := Lib.hid e2
  clear e2
  go_enter Try.func41, Try.ntmps41
  go_wp2
  go_ret
  exact ⟨by rw [← E.out]; rfl, rfl⟩

theorem first_row : (.agg #[.int .u32 1779033703, .int .u32 3144134277, .int .u32 1013904242, .int .u32 2773480762, .int .u32 1359893119, .int .u32 2600822924, .int .u32 528734635, .int .u32 1541459225] : Value) = .agg (wcells .u32 HL) := by kernel_rfl
theorem k_one : (match (.agg (wcells .u32 KL) : Value) with | .agg vs => vs.size == 64 | _ => false) = true := by kernel_rfl

/-- A row of 64 words of nothing. -/
theorem zero64 (K : IntKind) : wcells K (List.replicate 64 0) = (List.replicate 64 (Value.int K 0)).toArray := by simp [wcells]
end Go.Proofs.Ytbjcigokimieoaa
