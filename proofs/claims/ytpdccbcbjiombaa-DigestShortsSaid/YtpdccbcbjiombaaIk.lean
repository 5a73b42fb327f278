/-
  bynameref01.Text: a hash in digits, as the document has it.
-/
import Derived.Test.YtpdccbcbjiombaaHt
import Derived.Test.YtpdccbcbjiombaaIj
namespace Go.Proofs.Ytpdccbcbjiombaa
open Go.RowKit

/-- The digits of the first n bytes, the last one first. -/
def txr (l : List Nat) : Nat → List UInt8
  | 0 => []
  | n + 1 => UInt8.ofNat (hx (nth l n / 16)) :: UInt8.ofNat (hx (nth l n % 16)) :: txr l n
theorem txr_txt (l : List Nat) : ∀ n, n ≤ 32 → txt l n ++ txr l (32 - n) = txr l 32
  | 0, _ => rfl
  | n + 1, h => by
    rw [← txr_txt l n (by omega), txt, show 32 - n = (32 - (n + 1)) + 1 by omega, txr, show 31 - n = 32 - (n + 1) by omega]
    simp
theorem txr_all (l : List Nat) : txr l 32 = txt l 32 := by
  have := txr_txt l 32 (Nat.le_refl _)
  rw [show 32 - 32 = 0 by rfl, txr, List.append_nil] at this
  exact this.symm
theorem txr_len (l : List Nat) : ∀ n, (txr l n).length = 2 * n
  | 0 => rfl
  | n + 1 => by rw [txr, List.length_cons, List.length_cons, txr_len l n]; omega
/-- A string of bytes. -/
def bst (l : List UInt8) : ByteArray := ⟨l.toArray⟩
theorem bst_size (l : List UInt8) : (bst l).size = l.length := by simp [bst, ByteArray.size]
theorem bst_app (a b : List UInt8) : bst a ++ bst b = bst (a ++ b) := by
  apply ByteArray.ext
  simp [bst, ByteArray.data_append]

theorem slice_h0 (w : World) : (Instr.slice 9 (.string ⟨#[48, 49, 50, 51, 52, 53, 54, 55, 56, 57, 97, 98, 99, 100, 101, 102]⟩) (some (.int .u8 ((0 : Nat) : Int))) (some (.int .u8 ((1 : Nat) : Int))) none).run Try.prog w = .ok (.string (bst [UInt8.ofNat (hx 0)])) w := by kernel_rfl
theorem slice_h1 (w : World) : (Instr.slice 9 (.string ⟨#[48, 49, 50, 51, 52, 53, 54, 55, 56, 57, 97, 98, 99, 100, 101, 102]⟩) (some (.int .u8 ((1 : Nat) : Int))) (some (.int .u8 ((2 : Nat) : Int))) none).run Try.prog w = .ok (.string (bst [UInt8.ofNat (hx 1)])) w := by kernel_rfl
theorem slice_h2 (w : World) : (Instr.slice 9 (.string ⟨#[48, 49, 50, 51, 52, 53, 54, 55, 56, 57, 97, 98, 99, 100, 101, 102]⟩) (some (.int .u8 ((2 : Nat) : Int))) (some (.int .u8 ((3 : Nat) : Int))) none).run Try.prog w = .ok (.string (bst [UInt8.ofNat (hx 2)])) w := by kernel_rfl
theorem slice_h3 (w : World) : (Instr.slice 9 (.string ⟨#[48, 49, 50, 51, 52, 53, 54, 55, 56, 57, 97, 98, 99, 100, 101, 102]⟩) (some (.int .u8 ((3 : Nat) : Int))) (some (.int .u8 ((4 : Nat) : Int))) none).run Try.prog w = .ok (.string (bst [UInt8.ofNat (hx 3)])) w := by kernel_rfl
theorem slice_h4 (w : World) : (Instr.slice 9 (.string ⟨#[48, 49, 50, 51, 52, 53, 54, 55, 56, 57, 97, 98, 99, 100, 101, 102]⟩) (some (.int .u8 ((4 : Nat) : Int))) (some (.int .u8 ((5 : Nat) : Int))) none).run Try.prog w = .ok (.string (bst [UInt8.ofNat (hx 4)])) w := by kernel_rfl
theorem slice_h5 (w : World) : (Instr.slice 9 (.string ⟨#[48, 49, 50, 51, 52, 53, 54, 55, 56, 57, 97, 98, 99, 100, 101, 102]⟩) (some (.int .u8 ((5 : Nat) : Int))) (some (.int .u8 ((6 : Nat) : Int))) none).run Try.prog w = .ok (.string (bst [UInt8.ofNat (hx 5)])) w := by kernel_rfl
theorem slice_h6 (w : World) : (Instr.slice 9 (.string ⟨#[48, 49, 50, 51, 52, 53, 54, 55, 56, 57, 97, 98, 99, 100, 101, 102]⟩) (some (.int .u8 ((6 : Nat) : Int))) (some (.int .u8 ((7 : Nat) : Int))) none).run Try.prog w = .ok (.string (bst [UInt8.ofNat (hx 6)])) w := by kernel_rfl
theorem slice_h7 (w : World) : (Instr.slice 9 (.string ⟨#[48, 49, 50, 51, 52, 53, 54, 55, 56, 57, 97, 98, 99, 100, 101, 102]⟩) (some (.int .u8 ((7 : Nat) : Int))) (some (.int .u8 ((8 : Nat) : Int))) none).run Try.prog w = .ok (.string (bst [UInt8.ofNat (hx 7)])) w := by kernel_rfl
theorem slice_h8 (w : World) : (Instr.slice 9 (.string ⟨#[48, 49, 50, 51, 52, 53, 54, 55, 56, 57, 97, 98, 99, 100, 101, 102]⟩) (some (.int .u8 ((8 : Nat) : Int))) (some (.int .u8 ((9 : Nat) : Int))) none).run Try.prog w = .ok (.string (bst [UInt8.ofNat (hx 8)])) w := by kernel_rfl
theorem slice_h9 (w : World) : (Instr.slice 9 (.string ⟨#[48, 49, 50, 51, 52, 53, 54, 55, 56, 57, 97, 98, 99, 100, 101, 102]⟩) (some (.int .u8 ((9 : Nat) : Int))) (some (.int .u8 ((10 : Nat) : Int))) none).run Try.prog w = .ok (.string (bst [UInt8.ofNat (hx 9)])) w := by kernel_rfl
theorem slice_h10 (w : World) : (Instr.slice 9 (.string ⟨#[48, 49, 50, 51, 52, 53, 54, 55, 56, 57, 97, 98, 99, 100, 101, 102]⟩) (some (.int .u8 ((10 : Nat) : Int))) (some (.int .u8 ((11 : Nat) : Int))) none).run Try.prog w = .ok (.string (bst [UInt8.ofNat (hx 10)])) w := by kernel_rfl
theorem slice_h11 (w : World) : (Instr.slice 9 (.string ⟨#[48, 49, 50, 51, 52, 53, 54, 55, 56, 57, 97, 98, 99, 100, 101, 102]⟩) (some (.int .u8 ((11 : Nat) : Int))) (some (.int .u8 ((12 : Nat) : Int))) none).run Try.prog w = .ok (.string (bst [UInt8.ofNat (hx 11)])) w := by kernel_rfl
theorem slice_h12 (w : World) : (Instr.slice 9 (.string ⟨#[48, 49, 50, 51, 52, 53, 54, 55, 56, 57, 97, 98, 99, 100, 101, 102]⟩) (some (.int .u8 ((12 : Nat) : Int))) (some (.int .u8 ((13 : Nat) : Int))) none).run Try.prog w = .ok (.string (bst [UInt8.ofNat (hx 12)])) w := by kernel_rfl
theorem slice_h13 (w : World) : (Instr.slice 9 (.string ⟨#[48, 49, 50, 51, 52, 53, 54, 55, 56, 57, 97, 98, 99, 100, 101, 102]⟩) (some (.int .u8 ((13 : Nat) : Int))) (some (.int .u8 ((14 : Nat) : Int))) none).run Try.prog w = .ok (.string (bst [UInt8.ofNat (hx 13)])) w := by kernel_rfl
theorem slice_h14 (w : World) : (Instr.slice 9 (.string ⟨#[48, 49, 50, 51, 52, 53, 54, 55, 56, 57, 97, 98, 99, 100, 101, 102]⟩) (some (.int .u8 ((14 : Nat) : Int))) (some (.int .u8 ((15 : Nat) : Int))) none).run Try.prog w = .ok (.string (bst [UInt8.ofNat (hx 14)])) w := by kernel_rfl
theorem slice_h15 (w : World) : (Instr.slice 9 (.string ⟨#[48, 49, 50, 51, 52, 53, 54, 55, 56, 57, 97, 98, 99, 100, 101, 102]⟩) (some (.int .u8 ((15 : Nat) : Int))) (some (.int .u8 ((16 : Nat) : Int))) none).run Try.prog w = .ok (.string (bst [UInt8.ofNat (hx 15)])) w := by kernel_rfl
theorem slice_hx (d : Nat) (hd : d < 16) (w : World) : (Instr.slice 9 (.string ⟨#[48, 49, 50, 51, 52, 53, 54, 55, 56, 57, 97, 98, 99, 100, 101, 102]⟩) (some (.int .u8 (d : Int))) (some (.int .u8 ((d + 1 : Nat) : Int))) none).run Try.prog w = .ok (.string (bst [UInt8.ofNat (hx d)])) w := by
  match d, hd with
  | 0, _ => exact slice_h0 w
  | 1, _ => exact slice_h1 w
  | 2, _ => exact slice_h2 w
  | 3, _ => exact slice_h3 w
  | 4, _ => exact slice_h4 w
  | 5, _ => exact slice_h5 w
  | 6, _ => exact slice_h6 w
  | 7, _ => exact slice_h7 w
  | 8, _ => exact slice_h8 w
  | 9, _ => exact slice_h9 w
  | 10, _ => exact slice_h10 w
  | 11, _ => exact slice_h11 w
  | 12, _ => exact slice_h12 w
  | 13, _ => exact slice_h13 w
  | 14, _ => exact slice_h14 w
  | 15, _ => exact slice_h15 w
  | n + 16, h => exact absurd h (by omega)
theorem index_o0 (l : List Nat) (w : World) : (Instr.index 29 (.agg (wcells .u8 [nth l 0, nth l 1, nth l 2, nth l 3, nth l 4, nth l 5, nth l 6, nth l 7, nth l 8, nth l 9, nth l 10, nth l 11, nth l 12, nth l 13, nth l 14, nth l 15, nth l 16, nth l 17, nth l 18, nth l 19, nth l 20, nth l 21, nth l 22, nth l 23, nth l 24, nth l 25, nth l 26, nth l 27, nth l 28, nth l 29, nth l 30, nth l 31])) (.int .i64 ((0 : Nat) : Int))).run Try.prog w = .ok (.int .u8 ((nth l 0 : Nat) : Int)) w := by kernel_rfl
theorem index_o1 (l : List Nat) (w : World) : (Instr.index 29 (.agg (wcells .u8 [nth l 0, nth l 1, nth l 2, nth l 3, nth l 4, nth l 5, nth l 6, nth l 7, nth l 8, nth l 9, nth l 10, nth l 11, nth l 12, nth l 13, nth l 14, nth l 15, nth l 16, nth l 17, nth l 18, nth l 19, nth l 20, nth l 21, nth l 22, nth l 23, nth l 24, nth l 25, nth l 26, nth l 27, nth l 28, nth l 29, nth l 30, nth l 31])) (.int .i64 ((1 : Nat) : Int))).run Try.prog w = .ok (.int .u8 ((nth l 1 : Nat) : Int)) w := by kernel_rfl
theorem index_o2 (l : List Nat) (w : World) : (Instr.index 29 (.agg (wcells .u8 [nth l 0, nth l 1, nth l 2, nth l 3, nth l 4, nth l 5, nth l 6, nth l 7, nth l 8, nth l 9, nth l 10, nth l 11, nth l 12, nth l 13, nth l 14, nth l 15, nth l 16, nth l 17, nth l 18, nth l 19, nth l 20, nth l 21, nth l 22, nth l 23, nth l 24, nth l 25, nth l 26, nth l 27, nth l 28, nth l 29, nth l 30, nth l 31])) (.int .i64 ((2 : Nat) : Int))).run Try.prog w = .ok (.int .u8 ((nth l 2 : Nat) : Int)) w := by kernel_rfl
theorem index_o3 (l : List Nat) (w : World) : (Instr.index 29 (.agg (wcells .u8 [nth l 0, nth l 1, nth l 2, nth l 3, nth l 4, nth l 5, nth l 6, nth l 7, nth l 8, nth l 9, nth l 10, nth l 11, nth l 12, nth l 13, nth l 14, nth l 15, nth l 16, nth l 17, nth l 18, nth l 19, nth l 20, nth l 21, nth l 22, nth l 23, nth l 24, nth l 25, nth l 26, nth l 27, nth l 28, nth l 29, nth l 30, nth l 31])) (.int .i64 ((3 : Nat) : Int))).run Try.prog w = .ok (.int .u8 ((nth l 3 : Nat) : Int)) w := by kernel_rfl
theorem index_o4 (l : List Nat) (w : World) : (Instr.index 29 (.agg (wcells .u8 [nth l 0, nth l 1, nth l 2, nth l 3, nth l 4, nth l 5, nth l 6, nth l 7, nth l 8, nth l 9, nth l 10, nth l 11, nth l 12, nth l 13, nth l 14, nth l 15, nth l 16, nth l 17, nth l 18, nth l 19, nth l 20, nth l 21, nth l 22, nth l 23, nth l 24, nth l 25, nth l 26, nth l 27, nth l 28, nth l 29, nth l 30, nth l 31])) (.int .i64 ((4 : Nat) : Int))).run Try.prog w = .ok (.int .u8 ((nth l 4 : Nat) : Int)) w := by kernel_rfl
theorem index_o5 (l : List Nat) (w : World) : (Instr.index 29 (.agg (wcells .u8 [nth l 0, nth l 1, nth l 2, nth l 3, nth l 4, nth l 5, nth l 6, nth l 7, nth l 8, nth l 9, nth l 10, nth l 11, nth l 12, nth l 13, nth l 14, nth l 15, nth l 16, nth l 17, nth l 18, nth l 19, nth l 20, nth l 21, nth l 22, nth l 23, nth l 24, nth l 25, nth l 26, nth l 27, nth l 28, nth l 29, nth l 30, nth l 31])) (.int .i64 ((5 : Nat) : Int))).run Try.prog w = .ok (.int .u8 ((nth l 5 : Nat) : Int)) w := by kernel_rfl
theorem index_o6 (l : List Nat) (w : World) : (Instr.index 29 (.agg (wcells .u8 [nth l 0, nth l 1, nth l 2, nth l 3, nth l 4, nth l 5, nth l 6, nth l 7, nth l 8, nth l 9, nth l 10, nth l 11, nth l 12, nth l 13, nth l 14, nth l 15, nth l 16, nth l 17, nth l 18, nth l 19, nth l 20, nth l 21, nth l 22, nth l 23, nth l 24, nth l 25, nth l 26, nth l 27, nth l 28, nth l 29, nth l 30, nth l 31])) (.int .i64 ((6 : Nat) : Int))).run Try.prog w = .ok (.int .u8 ((nth l 6 : Nat) : Int)) w := by kernel_rfl
theorem index_o7 (l : List Nat) (w : World) : (Instr.index 29 (.agg (wcells .u8 [nth l 0, nth l 1, nth l 2, nth l 3, nth l 4, nth l 5, nth l 6, nth l 7, nth l 8, nth l 9, nth l 10, nth l 11, nth l 12, nth l 13, nth l 14, nth l 15, nth l 16, nth l 17, nth l 18, nth l 19, nth l 20, nth l 21, nth l 22, nth l 23, nth l 24, nth l 25, nth l 26, nth l 27, nth l 28, nth l 29, nth l 30, nth l 31])) (.int .i64 ((7 : Nat) : Int))).run Try.prog w = .ok (.int .u8 ((nth l 7 : Nat) : Int)) w := by kernel_rfl
theorem index_o8 (l : List Nat) (w : World) : (Instr.index 29 (.agg (wcells .u8 [nth l 0, nth l 1, nth l 2, nth l 3, nth l 4, nth l 5, nth l 6, nth l 7, nth l 8, nth l 9, nth l 10, nth l 11, nth l 12, nth l 13, nth l 14, nth l 15, nth l 16, nth l 17, nth l 18, nth l 19, nth l 20, nth l 21, nth l 22, nth l 23, nth l 24, nth l 25, nth l 26, nth l 27, nth l 28, nth l 29, nth l 30, nth l 31])) (.int .i64 ((8 : Nat) : Int))).run Try.prog w = .ok (.int .u8 ((nth l 8 : Nat) : Int)) w := by kernel_rfl
theorem index_o9 (l : List Nat) (w : World) : (Instr.index 29 (.agg (wcells .u8 [nth l 0, nth l 1, nth l 2, nth l 3, nth l 4, nth l 5, nth l 6, nth l 7, nth l 8, nth l 9, nth l 10, nth l 11, nth l 12, nth l 13, nth l 14, nth l 15, nth l 16, nth l 17, nth l 18, nth l 19, nth l 20, nth l 21, nth l 22, nth l 23, nth l 24, nth l 25, nth l 26, nth l 27, nth l 28, nth l 29, nth l 30, nth l 31])) (.int .i64 ((9 : Nat) : Int))).run Try.prog w = .ok (.int .u8 ((nth l 9 : Nat) : Int)) w := by kernel_rfl
theorem index_o10 (l : List Nat) (w : World) : (Instr.index 29 (.agg (wcells .u8 [nth l 0, nth l 1, nth l 2, nth l 3, nth l 4, nth l 5, nth l 6, nth l 7, nth l 8, nth l 9, nth l 10, nth l 11, nth l 12, nth l 13, nth l 14, nth l 15, nth l 16, nth l 17, nth l 18, nth l 19, nth l 20, nth l 21, nth l 22, nth l 23, nth l 24, nth l 25, nth l 26, nth l 27, nth l 28, nth l 29, nth l 30, nth l 31])) (.int .i64 ((10 : Nat) : Int))).run Try.prog w = .ok (.int .u8 ((nth l 10 : Nat) : Int)) w := by kernel_rfl
theorem index_o11 (l : List Nat) (w : World) : (Instr.index 29 (.agg (wcells .u8 [nth l 0, nth l 1, nth l 2, nth l 3, nth l 4, nth l 5, nth l 6, nth l 7, nth l 8, nth l 9, nth l 10, nth l 11, nth l 12, nth l 13, nth l 14, nth l 15, nth l 16, nth l 17, nth l 18, nth l 19, nth l 20, nth l 21, nth l 22, nth l 23, nth l 24, nth l 25, nth l 26, nth l 27, nth l 28, nth l 29, nth l 30, nth l 31])) (.int .i64 ((11 : Nat) : Int))).run Try.prog w = .ok (.int .u8 ((nth l 11 : Nat) : Int)) w := by kernel_rfl
theorem index_o12 (l : List Nat) (w : World) : (Instr.index 29 (.agg (wcells .u8 [nth l 0, nth l 1, nth l 2, nth l 3, nth l 4, nth l 5, nth l 6, nth l 7, nth l 8, nth l 9, nth l 10, nth l 11, nth l 12, nth l 13, nth l 14, nth l 15, nth l 16, nth l 17, nth l 18, nth l 19, nth l 20, nth l 21, nth l 22, nth l 23, nth l 24, nth l 25, nth l 26, nth l 27, nth l 28, nth l 29, nth l 30, nth l 31])) (.int .i64 ((12 : Nat) : Int))).run Try.prog w = .ok (.int .u8 ((nth l 12 : Nat) : Int)) w := by kernel_rfl
theorem index_o13 (l : List Nat) (w : World) : (Instr.index 29 (.agg (wcells .u8 [nth l 0, nth l 1, nth l 2, nth l 3, nth l 4, nth l 5, nth l 6, nth l 7, nth l 8, nth l 9, nth l 10, nth l 11, nth l 12, nth l 13, nth l 14, nth l 15, nth l 16, nth l 17, nth l 18, nth l 19, nth l 20, nth l 21, nth l 22, nth l 23, nth l 24, nth l 25, nth l 26, nth l 27, nth l 28, nth l 29, nth l 30, nth l 31])) (.int .i64 ((13 : Nat) : Int))).run Try.prog w = .ok (.int .u8 ((nth l 13 : Nat) : Int)) w := by kernel_rfl
theorem index_o14 (l : List Nat) (w : World) : (Instr.index 29 (.agg (wcells .u8 [nth l 0, nth l 1, nth l 2, nth l 3, nth l 4, nth l 5, nth l 6, nth l 7, nth l 8, nth l 9, nth l 10, nth l 11, nth l 12, nth l 13, nth l 14, nth l 15, nth l 16, nth l 17, nth l 18, nth l 19, nth l 20, nth l 21, nth l 22, nth l 23, nth l 24, nth l 25, nth l 26, nth l 27, nth l 28, nth l 29, nth l 30, nth l 31])) (.int .i64 ((14 : Nat) : Int))).run Try.prog w = .ok (.int .u8 ((nth l 14 : Nat) : Int)) w := by kernel_rfl
theorem index_o15 (l : List Nat) (w : World) : (Instr.index 29 (.agg (wcells .u8 [nth l 0, nth l 1, nth l 2, nth l 3, nth l 4, nth l 5, nth l 6, nth l 7, nth l 8, nth l 9, nth l 10, nth l 11, nth l 12, nth l 13, nth l 14, nth l 15, nth l 16, nth l 17, nth l 18, nth l 19, nth l 20, nth l 21, nth l 22, nth l 23, nth l 24, nth l 25, nth l 26, nth l 27, nth l 28, nth l 29, nth l 30, nth l 31])) (.int .i64 ((15 : Nat) : Int))).run Try.prog w = .ok (.int .u8 ((nth l 15 : Nat) : Int)) w := by kernel_rfl
theorem index_o16 (l : List Nat) (w : World) : (Instr.index 29 (.agg (wcells .u8 [nth l 0, nth l 1, nth l 2, nth l 3, nth l 4, nth l 5, nth l 6, nth l 7, nth l 8, nth l 9, nth l 10, nth l 11, nth l 12, nth l 13, nth l 14, nth l 15, nth l 16, nth l 17, nth l 18, nth l 19, nth l 20, nth l 21, nth l 22, nth l 23, nth l 24, nth l 25, nth l 26, nth l 27, nth l 28, nth l 29, nth l 30, nth l 31])) (.int .i64 ((16 : Nat) : Int))).run Try.prog w = .ok (.int .u8 ((nth l 16 : Nat) : Int)) w := by kernel_rfl
theorem index_o17 (l : List Nat) (w : World) : (Instr.index 29 (.agg (wcells .u8 [nth l 0, nth l 1, nth l 2, nth l 3, nth l 4, nth l 5, nth l 6, nth l 7, nth l 8, nth l 9, nth l 10, nth l 11, nth l 12, nth l 13, nth l 14, nth l 15, nth l 16, nth l 17, nth l 18, nth l 19, nth l 20, nth l 21, nth l 22, nth l 23, nth l 24, nth l 25, nth l 26, nth l 27, nth l 28, nth l 29, nth l 30, nth l 31])) (.int .i64 ((17 : Nat) : Int))).run Try.prog w = .ok (.int .u8 ((nth l 17 : Nat) : Int)) w := by kernel_rfl
theorem index_o18 (l : List Nat) (w : World) : (Instr.index 29 (.agg (wcells .u8 [nth l 0, nth l 1, nth l 2, nth l 3, nth l 4, nth l 5, nth l 6, nth l 7, nth l 8, nth l 9, nth l 10, nth l 11, nth l 12, nth l 13, nth l 14, nth l 15, nth l 16, nth l 17, nth l 18, nth l 19, nth l 20, nth l 21, nth l 22, nth l 23, nth l 24, nth l 25, nth l 26, nth l 27, nth l 28, nth l 29, nth l 30, nth l 31])) (.int .i64 ((18 : Nat) : Int))).run Try.prog w = .ok (.int .u8 ((nth l 18 : Nat) : Int)) w := by kernel_rfl
theorem index_o19 (l : List Nat) (w : World) : (Instr.index 29 (.agg (wcells .u8 [nth l 0, nth l 1, nth l 2, nth l 3, nth l 4, nth l 5, nth l 6, nth l 7, nth l 8, nth l 9, nth l 10, nth l 11, nth l 12, nth l 13, nth l 14, nth l 15, nth l 16, nth l 17, nth l 18, nth l 19, nth l 20, nth l 21, nth l 22, nth l 23, nth l 24, nth l 25, nth l 26, nth l 27, nth l 28, nth l 29, nth l 30, nth l 31])) (.int .i64 ((19 : Nat) : Int))).run Try.prog w = .ok (.int .u8 ((nth l 19 : Nat) : Int)) w := by kernel_rfl
theorem index_o20 (l : List Nat) (w : World) : (Instr.index 29 (.agg (wcells .u8 [nth l 0, nth l 1, nth l 2, nth l 3, nth l 4, nth l 5, nth l 6, nth l 7, nth l 8, nth l 9, nth l 10, nth l 11, nth l 12, nth l 13, nth l 14, nth l 15, nth l 16, nth l 17, nth l 18, nth l 19, nth l 20, nth l 21, nth l 22, nth l 23, nth l 24, nth l 25, nth l 26, nth l 27, nth l 28, nth l 29, nth l 30, nth l 31])) (.int .i64 ((20 : Nat) : Int))).run Try.prog w = .ok (.int .u8 ((nth l 20 : Nat) : Int)) w := by kernel_rfl
theorem index_o21 (l : List Nat) (w : World) : (Instr.index 29 (.agg (wcells .u8 [nth l 0, nth l 1, nth l 2, nth l 3, nth l 4, nth l 5, nth l 6, nth l 7, nth l 8, nth l 9, nth l 10, nth l 11, nth l 12, nth l 13, nth l 14, nth l 15, nth l 16, nth l 17, nth l 18, nth l 19, nth l 20, nth l 21, nth l 22, nth l 23, nth l 24, nth l 25, nth l 26, nth l 27, nth l 28, nth l 29, nth l 30, nth l 31])) (.int .i64 ((21 : Nat) : Int))).run Try.prog w = .ok (.int .u8 ((nth l 21 : Nat) : Int)) w := by kernel_rfl
theorem index_o22 (l : List Nat) (w : World) : (Instr.index 29 (.agg (wcells .u8 [nth l 0, nth l 1, nth l 2, nth l 3, nth l 4, nth l 5, nth l 6, nth l 7, nth l 8, nth l 9, nth l 10, nth l 11, nth l 12, nth l 13, nth l 14, nth l 15, nth l 16, nth l 17, nth l 18, nth l 19, nth l 20, nth l 21, nth l 22, nth l 23, nth l 24, nth l 25, nth l 26, nth l 27, nth l 28, nth l 29, nth l 30, nth l 31])) (.int .i64 ((22 : Nat) : Int))).run Try.prog w = .ok (.int .u8 ((nth l 22 : Nat) : Int)) w := by kernel_rfl
theorem index_o23 (l : List Nat) (w : World) : (Instr.index 29 (.agg (wcells .u8 [nth l 0, nth l 1, nth l 2, nth l 3, nth l 4, nth l 5, nth l 6, nth l 7, nth l 8, nth l 9, nth l 10, nth l 11, nth l 12, nth l 13, nth l 14, nth l 15, nth l 16, nth l 17, nth l 18, nth l 19, nth l 20, nth l 21, nth l 22, nth l 23, nth l 24, nth l 25, nth l 26, nth l 27, nth l 28, nth l 29, nth l 30, nth l 31])) (.int .i64 ((23 : Nat) : Int))).run Try.prog w = .ok (.int .u8 ((nth l 23 : Nat) : Int)) w := by kernel_rfl
theorem index_o24 (l : List Nat) (w : World) : (Instr.index 29 (.agg (wcells .u8 [nth l 0, nth l 1, nth l 2, nth l 3, nth l 4, nth l 5, nth l 6, nth l 7, nth l 8, nth l 9, nth l 10, nth l 11, nth l 12, nth l 13, nth l 14, nth l 15, nth l 16, nth l 17, nth l 18, nth l 19, nth l 20, nth l 21, nth l 22, nth l 23, nth l 24, nth l 25, nth l 26, nth l 27, nth l 28, nth l 29, nth l 30, nth l 31])) (.int .i64 ((24 : Nat) : Int))).run Try.prog w = .ok (.int .u8 ((nth l 24 : Nat) : Int)) w := by kernel_rfl
theorem index_o25 (l : List Nat) (w : World) : (Instr.index 29 (.agg (wcells .u8 [nth l 0, nth l 1, nth l 2, nth l 3, nth l 4, nth l 5, nth l 6, nth l 7, nth l 8, nth l 9, nth l 10, nth l 11, nth l 12, nth l 13, nth l 14, nth l 15, nth l 16, nth l 17, nth l 18, nth l 19, nth l 20, nth l 21, nth l 22, nth l 23, nth l 24, nth l 25, nth l 26, nth l 27, nth l 28, nth l 29, nth l 30, nth l 31])) (.int .i64 ((25 : Nat) : Int))).run Try.prog w = .ok (.int .u8 ((nth l 25 : Nat) : Int)) w := by kernel_rfl
theorem index_o26 (l : List Nat) (w : World) : (Instr.index 29 (.agg (wcells .u8 [nth l 0, nth l 1, nth l 2, nth l 3, nth l 4, nth l 5, nth l 6, nth l 7, nth l 8, nth l 9, nth l 10, nth l 11, nth l 12, nth l 13, nth l 14, nth l 15, nth l 16, nth l 17, nth l 18, nth l 19, nth l 20, nth l 21, nth l 22, nth l 23, nth l 24, nth l 25, nth l 26, nth l 27, nth l 28, nth l 29, nth l 30, nth l 31])) (.int .i64 ((26 : Nat) : Int))).run Try.prog w = .ok (.int .u8 ((nth l 26 : Nat) : Int)) w := by kernel_rfl
theorem index_o27 (l : List Nat) (w : World) : (Instr.index 29 (.agg (wcells .u8 [nth l 0, nth l 1, nth l 2, nth l 3, nth l 4, nth l 5, nth l 6, nth l 7, nth l 8, nth l 9, nth l 10, nth l 11, nth l 12, nth l 13, nth l 14, nth l 15, nth l 16, nth l 17, nth l 18, nth l 19, nth l 20, nth l 21, nth l 22, nth l 23, nth l 24, nth l 25, nth l 26, nth l 27, nth l 28, nth l 29, nth l 30, nth l 31])) (.int .i64 ((27 : Nat) : Int))).run Try.prog w = .ok (.int .u8 ((nth l 27 : Nat) : Int)) w := by kernel_rfl
theorem index_o28 (l : List Nat) (w : World) : (Instr.index 29 (.agg (wcells .u8 [nth l 0, nth l 1, nth l 2, nth l 3, nth l 4, nth l 5, nth l 6, nth l 7, nth l 8, nth l 9, nth l 10, nth l 11, nth l 12, nth l 13, nth l 14, nth l 15, nth l 16, nth l 17, nth l 18, nth l 19, nth l 20, nth l 21, nth l 22, nth l 23, nth l 24, nth l 25, nth l 26, nth l 27, nth l 28, nth l 29, nth l 30, nth l 31])) (.int .i64 ((28 : Nat) : Int))).run Try.prog w = .ok (.int .u8 ((nth l 28 : Nat) : Int)) w := by kernel_rfl
theorem index_o29 (l : List Nat) (w : World) : (Instr.index 29 (.agg (wcells .u8 [nth l 0, nth l 1, nth l 2, nth l 3, nth l 4, nth l 5, nth l 6, nth l 7, nth l 8, nth l 9, nth l 10, nth l 11, nth l 12, nth l 13, nth l 14, nth l 15, nth l 16, nth l 17, nth l 18, nth l 19, nth l 20, nth l 21, nth l 22, nth l 23, nth l 24, nth l 25, nth l 26, nth l 27, nth l 28, nth l 29, nth l 30, nth l 31])) (.int .i64 ((29 : Nat) : Int))).run Try.prog w = .ok (.int .u8 ((nth l 29 : Nat) : Int)) w := by kernel_rfl
theorem index_o30 (l : List Nat) (w : World) : (Instr.index 29 (.agg (wcells .u8 [nth l 0, nth l 1, nth l 2, nth l 3, nth l 4, nth l 5, nth l 6, nth l 7, nth l 8, nth l 9, nth l 10, nth l 11, nth l 12, nth l 13, nth l 14, nth l 15, nth l 16, nth l 17, nth l 18, nth l 19, nth l 20, nth l 21, nth l 22, nth l 23, nth l 24, nth l 25, nth l 26, nth l 27, nth l 28, nth l 29, nth l 30, nth l 31])) (.int .i64 ((30 : Nat) : Int))).run Try.prog w = .ok (.int .u8 ((nth l 30 : Nat) : Int)) w := by kernel_rfl
theorem index_o31 (l : List Nat) (w : World) : (Instr.index 29 (.agg (wcells .u8 [nth l 0, nth l 1, nth l 2, nth l 3, nth l 4, nth l 5, nth l 6, nth l 7, nth l 8, nth l 9, nth l 10, nth l 11, nth l 12, nth l 13, nth l 14, nth l 15, nth l 16, nth l 17, nth l 18, nth l 19, nth l 20, nth l 21, nth l 22, nth l 23, nth l 24, nth l 25, nth l 26, nth l 27, nth l 28, nth l 29, nth l 30, nth l 31])) (.int .i64 ((31 : Nat) : Int))).run Try.prog w = .ok (.int .u8 ((nth l 31 : Nat) : Int)) w := by kernel_rfl
theorem list32 (l : List Nat) (h : l.length = 32) : l = [nth l 0, nth l 1, nth l 2, nth l 3, nth l 4, nth l 5, nth l 6, nth l 7, nth l 8, nth l 9, nth l 10, nth l 11, nth l 12, nth l 13, nth l 14, nth l 15, nth l 16, nth l 17, nth l 18, nth l 19, nth l 20, nth l 21, nth l 22, nth l 23, nth l 24, nth l 25, nth l 26, nth l 27, nth l 28, nth l 29, nth l 30, nth l 31] := nth_ext _ _ (by rw [h]; rfl) (fun i hi => by
  rw [h] at hi
  match i, hi with
  | 0, _ => rfl
  | 1, _ => rfl
  | 2, _ => rfl
  | 3, _ => rfl
  | 4, _ => rfl
  | 5, _ => rfl
  | 6, _ => rfl
  | 7, _ => rfl
  | 8, _ => rfl
  | 9, _ => rfl
  | 10, _ => rfl
  | 11, _ => rfl
  | 12, _ => rfl
  | 13, _ => rfl
  | 14, _ => rfl
  | 15, _ => rfl
  | 16, _ => rfl
  | 17, _ => rfl
  | 18, _ => rfl
  | 19, _ => rfl
  | 20, _ => rfl
  | 21, _ => rfl
  | 22, _ => rfl
  | 23, _ => rfl
  | 24, _ => rfl
  | 25, _ => rfl
  | 26, _ => rfl
  | 27, _ => rfl
  | 28, _ => rfl
  | 29, _ => rfl
  | 30, _ => rfl
  | 31, _ => rfl
  | n + 32, h => exact absurd h (by omega))
theorem index_hash (l : List Nat) (hl : l.length = 32) (i : Nat) (hi : i < 32) (w : World) : (Instr.index 29 (.agg (wcells .u8 l)) (.int .i64 (i : Int))).run Try.prog w = .ok (.int .u8 ((nth l i : Nat) : Int)) w := by
  rw [show wcells .u8 l = wcells .u8 [nth l 0, nth l 1, nth l 2, nth l 3, nth l 4, nth l 5, nth l 6, nth l 7, nth l 8, nth l 9, nth l 10, nth l 11, nth l 12, nth l 13, nth l 14, nth l 15, nth l 16, nth l 17, nth l 18, nth l 19, nth l 20, nth l 21, nth l 22, nth l 23, nth l 24, nth l 25, nth l 26, nth l 27, nth l 28, nth l 29, nth l 30, nth l 31] from congrArg (wcells .u8) (list32 l hl)]
  match i, hi with
  | 0, _ => exact index_o0 l w
  | 1, _ => exact index_o1 l w
  | 2, _ => exact index_o2 l w
  | 3, _ => exact index_o3 l w
  | 4, _ => exact index_o4 l w
  | 5, _ => exact index_o5 l w
  | 6, _ => exact index_o6 l w
  | 7, _ => exact index_o7 l w
  | 8, _ => exact index_o8 l w
  | 9, _ => exact index_o9 l w
  | 10, _ => exact index_o10 l w
  | 11, _ => exact index_o11 l w
  | 12, _ => exact index_o12 l w
  | 13, _ => exact index_o13 l w
  | 14, _ => exact index_o14 l w
  | 15, _ => exact index_o15 l w
  | 16, _ => exact index_o16 l w
  | 17, _ => exact index_o17 l w
  | 18, _ => exact index_o18 l w
  | 19, _ => exact index_o19 l w
  | 20, _ => exact index_o20 l w
  | 21, _ => exact index_o21 l w
  | 22, _ => exact index_o22 l w
  | 23, _ => exact index_o23 l w
  | 24, _ => exact index_o24 l w
  | 25, _ => exact index_o25 l w
  | 26, _ => exact index_o26 l w
  | 27, _ => exact index_o27 l w
  | 28, _ => exact index_o28 l w
  | 29, _ => exact index_o29 l w
  | 30, _ => exact index_o30 l w
  | 31, _ => exact index_o31 l w
  | n + 32, h => exact absurd h (by omega)

set_option maxRecDepth 100000 in
set_option maxHeartbeats 4000000 in
theorem rtext_c (l : List Nat) (hl : l.length = 32) (hb : ∀ y, y ∈ l → y < 256) (w : World) :
    Calls Try.prog 21 #[.agg (wcells .u8 l)] w fun e w' => e = .returned (.string ⟨(txt l 32).toArray⟩) ∧ Below w.heap.size w w' := by
  have HL := Lib.hid hl; have HB := Lib.hid hb
  have S0 := (St.nil w).alloc (hobj l) _ rfl
  have HG := Lib.hid (S0.get (List.Mem.head _))
  have I0 : Hid (Below w.heap.size w (w.alloc (hobj l))) := S0.below
  have hall := txr_all l
  obtain ⟨tx, htx⟩ : ∃ t : ByteArray, t = ⟨(txt l 32).toArray⟩ := ⟨_, rfl⟩
  have HTX : Hid (bst (txr l 32) = tx) := by rw [hall, htx]; exact rfl
  rw [← htx]
  clear hl hb S0 hall htx
  go_enter Try.func21, Try.ntmps21
  go_wp2_with (refine wpList_hash rfl (.tmp 1) rfl w.heap.size rfl l HL.out HG.out ?_)
  go_loopw [3, 7] (fun s3 s7 wr => ∃ k : Nat, s7 = .int .i64 (k : Int) ∧ k ≤ 32 ∧ s3 = .string (bst (txr l k)) ∧ Hid (Below w.heap.size w wr)) (fun _ s7 _ => (32 - intOf s7).toNat)
  case atStart => exact ⟨0, rfl, by omega, rfl, I0⟩
  case round =>
    obtain ⟨k, rfl, hk, rfl, HI⟩ := hrel
    by_cases h32 : k = 32
    · have hge : ¬ (k : Int) < 32 := by omega
      have hfin : bst (txr l k) = tx := by rw [h32]; exact HTX.out
      rw [hfin]
      clear h32 hfin
      go_wp2_with fail
      go_ret
      exact ⟨rfl, HI.out⟩
    · have hlt : (k : Int) < 32 := by omega
      have hix := index_hash l HL.out k (by omega)
      have hx256 := HB.out _ (nth_mem l k (by rw [HL.out]; omega))
      have htx : txr l (k + 1) = UInt8.ofNat (hx (nth l k / 16)) :: UInt8.ofNat (hx (nth l k % 16)) :: txr l k := rfl
      have hsz := bst_size (txr l k)
      have hln := txr_len l k
      obtain ⟨x, hxe⟩ : ∃ x, nth l k = x := ⟨_, rfl⟩
      rw [hxe] at hix hx256 htx
      obtain ⟨q, hq⟩ : ∃ q, x / 16 = q := ⟨_, rfl⟩
      obtain ⟨r, hr⟩ : ∃ r, x % 16 = r := ⟨_, rfl⟩
      rw [hq, hr] at htx
      have s1 := slice_hx q (by omega); have s2 := slice_hx r (by omega)
      obtain ⟨q1, hq1⟩ : ∃ q1, q + 1 = q1 := ⟨_, rfl⟩
      obtain ⟨r1, hr1⟩ : ∃ r1, r + 1 = r1 := ⟨_, rfl⟩
      rw [hq1] at s1; rw [hr1] at s2
      have w1 : (x : Int) / 16 = (q : Int) := by omega
      have w2 : (x : Int) % 16 = (r : Int) := by omega
      have w3 : (q : Int) + 1 = (q1 : Int) := by omega
      have w4 : (r : Int) + 1 = (r1 : Int) := by omega
      have w5 : (x : Int).tdiv 16 = (q : Int) := by rw [Int.tdiv_eq_ediv_of_nonneg (Int.natCast_nonneg _)]; omega
      have w6 : (x : Int).tmod 16 = (r : Int) := by rw [Int.tmod_eq_emod_of_nonneg (Int.natCast_nonneg _)]; omega
      have w7 : IntKind.u8.wrap (q : Int) = (q : Int) := by simp only [IntKind.wrap, IntKind.bits, IntKind.signed]; simp; omega
      have w8 : IntKind.u8.wrap ((q : Int) + 1) = (q1 : Int) := by simp only [IntKind.wrap, IntKind.bits, IntKind.signed]; simp; omega
      have w9 : IntKind.u8.wrap ((r : Int) + 1) = (r1 : Int) := by simp only [IntKind.wrap, IntKind.bits, IntKind.signed]; simp; omega
      have w10 : (q1 : Int) % 256 = q1 := by omega
      have w11 : (r1 : Int) % 256 = r1 := by omega
      have w12 : (q : Int) % 256 = q := by omega
      have g1 : bst [UInt8.ofNat (hx q)] ++ bst [UInt8.ofNat (hx r)] = bst [UInt8.ofNat (hx q), UInt8.ofNat (hx r)] := bst_app _ _
      have g2 : bst [UInt8.ofNat (hx q), UInt8.ofNat (hx r)] ++ bst (txr l k) = bst (txr l (k + 1)) := by rw [bst_app, htx]; rfl
      have z1 := bst_size [UInt8.ofNat (hx q)]; have z2 := bst_size [UInt8.ofNat (hx r)]; have z3 := bst_size [UInt8.ofNat (hx q), UInt8.ofNat (hx r)]
      simp only [List.length_cons, List.length_nil, Nat.zero_add] at z1 z2 z3
      rw [hln] at hsz
      obtain ⟨t1, ht1⟩ : ∃ t, bst [UInt8.ofNat (hx q)] = t := ⟨_, rfl⟩
      obtain ⟨t2, ht2⟩ : ∃ t, bst [UInt8.ofNat (hx r)] = t := ⟨_, rfl⟩
      obtain ⟨t3, ht3⟩ : ∃ t, bst [UInt8.ofNat (hx q), UInt8.ofNat (hx r)] = t := ⟨_, rfl⟩
      obtain ⟨t4, ht4⟩ : ∃ t, bst (txr l k) = t := ⟨_, rfl⟩
      rw [ht1] at s1 g1 z1; rw [ht2] at s2 g1 z2; rw [ht3] at g1 g2 z3; rw [ht4] at g2 hsz ⊢
      have HG2 := Lib.hid g2
      have o1 : ∀ W, (Op.stringOp .add t1 t2).run Try.prog W = .ok (.string t3) W := fun W => by rw [run_string_add_sum _ _ _ (by omega), g1]
      have o2 : ∀ W, (Op.stringOp .add t3 t4).run Try.prog W = .ok (.string (bst (txr l (k + 1)))) W := fun W => by rw [run_string_add_sum _ _ _ (by omega), g2]
      clear htx hxe hq hr hq1 hr1 g1 g2 ht1 ht2 ht3 hln z1 z2 z3 hsz
      go_wp2_with fail
      go_quiet (fail)
      have HI2 : Hid (Below w.heap.size w (wr.drewN nq)) := below_drewQ HI.out nq
      go_wp2_with fail
      go_roundw
      case rel => exact ⟨k + 1, by go_num, by omega, rfl, HI2⟩
      case measure => simp [intOf]; omega
end Go.Proofs.Ytpdccbcbjiombaa
