/-
  Plain arithmetic: a number of 256 bits as four limbs of 64, and the value that the model has for it. No program in sight.
-/
import Derived.WalkKit
import Derived.Handy
import Derived.Lib.Hide
namespace Go.Proofs.Ytbjcigokimieoaa
open Go.RowKit

/-- Limb i of a number. -/
def limb (n i : Nat) : Nat := n / 18446744073709551616 ^ i % 18446744073709551616

theorem limb_lt (n i : Nat) : limb n i < 18446744073709551616 := Nat.mod_lt _ (by decide)
theorem limb_nonneg (n i : Nat) : (0 : Int) ≤ (limb n i : Int) := by omega
theorem limb_bd (n i : Nat) : (0 : Int) ≤ (limb n i : Int) ∧ (limb n i : Int) < 18446744073709551616 := by
  have := limb_lt n i; omega

theorem limb0 (n : Nat) : limb n 0 = n % 18446744073709551616 := by simp [limb]
theorem limb1 (n : Nat) : limb n 1 = n / 18446744073709551616 % 18446744073709551616 := by simp [limb]
theorem limb2 (n : Nat) : limb n 2 = n / 340282366920938463463374607431768211456 % 18446744073709551616 := by simp [limb]
theorem limb3 (n : Nat) : limb n 3 = n / 6277101735386680763835789423207666416102355444464034512896 % 18446744073709551616 := by simp [limb]

/-- 2 to the power of 256. -/
def W256 : Nat := 115792089237316195423570985008687907853269984665640564039457584007913129639936
theorem W256_eq : W256 = 115792089237316195423570985008687907853269984665640564039457584007913129639936 := rfl
theorem W256_pow : W256 = 2 ^ 256 := by decide

/-- A number is its limbs. -/
theorem limbs_sum (n : Nat) (h : n < W256) : n = limb n 0 + 18446744073709551616 * limb n 1 + 340282366920938463463374607431768211456 * limb n 2 + 6277101735386680763835789423207666416102355444464034512896 * limb n 3 := by
  rw [limb0, limb1, limb2, limb3]; rw [W256_eq] at h; omega

theorem limbs_of (a b c d : Nat) (ha : a < 18446744073709551616) (hb : b < 18446744073709551616) (hc : c < 18446744073709551616) (hd : d < 18446744073709551616) :
    let n := a + 18446744073709551616 * b + 340282366920938463463374607431768211456 * c + 6277101735386680763835789423207666416102355444464034512896 * d
    limb n 0 = a ∧ limb n 1 = b ∧ limb n 2 = c ∧ limb n 3 = d ∧ n < W256 := by
  simp only [limb0, limb1, limb2, limb3, W256_eq]; omega

/-- The model's value of a number of 256 bits. -/
@[reducible] def wv (n : Nat) : Value := .agg #[.int .u64 (limb n 0 : Nat), .int .u64 (limb n 1 : Nat), .int .u64 (limb n 2 : Nat), .int .u64 (limb n 3 : Nat)]

/-- Four numbers that are a number's limbs. -/
theorem wv_of (z : Nat) (hz : z < W256) (a b c d : Int) (ha : 0 ≤ a ∧ a < 18446744073709551616) (hb : 0 ≤ b ∧ b < 18446744073709551616) (hc : 0 ≤ c ∧ c < 18446744073709551616)
    (h : (z : Int) = a + 18446744073709551616 * b + 340282366920938463463374607431768211456 * c + 6277101735386680763835789423207666416102355444464034512896 * d) :
    Value.agg #[.int .u64 a, .int .u64 b, .int .u64 c, .int .u64 d] = wv z := by
  have e0 : (limb z 0 : Int) = a := by rw [limb0]; rw [W256_eq] at hz; omega
  have e1 : (limb z 1 : Int) = b := by rw [limb1]; rw [W256_eq] at hz; omega
  have e2 : (limb z 2 : Int) = c := by rw [limb2]; rw [W256_eq] at hz; omega
  have e3 : (limb z 3 : Int) = d := by rw [limb3]; rw [W256_eq] at hz; omega
  simp only [wv, e0, e1, e2, e3]

/-- Two numbers with the same limbs are one. -/
theorem limb_ext {x y : Nat} (hx : x < W256) (hy : y < W256) (h0 : limb x 0 = limb y 0) (h1 : limb x 1 = limb y 1) (h2 : limb x 2 = limb y 2) (h3 : limb x 3 = limb y 3) : x = y := by
  rw [limbs_sum x hx, limbs_sum y hy, h0, h1, h2, h3]

/-- Below the heap of old all is as it was: the two rules that the walk uses. -/
theorem bcell {W w1 : World} (hb : Below W.heap.size W w1) : (∀ b o, b < W.heap.size → w1.cell? ⟨b, o, none⟩ = W.cell? ⟨b, o, none⟩) ∧ (∀ b o, b < W.heap.size → w1.frozen? ⟨b, o, none⟩ = W.frozen? ⟨b, o, none⟩) :=
  ⟨fun b o h => hb.cell (p := ⟨b, o, none⟩) h, fun b o h => hb.frozen (p := ⟨b, o, none⟩) h⟩

theorem heapAt (w : World) (o : Obj) (k : Nat) : (w.alloc o).heap[k]? = if k = w.heap.size then some o else w.heap[k]? := by
  show (w.heap.push o)[k]? = _
  rw [Array.getElem?_push]

/-- One step more. -/
theorem below_step {w W w' : World} (h : Below w.heap.size w W) (hb : Below W.heap.size W w') : Below w.heap.size w w' := h.trans (hb.mono h.size)

/-- What a call that answers a number says. -/
def RetW (w : World) (Q : Nat → Prop) (e : Ending) (w' : World) : Prop := ∃ z, z < W256 ∧ Q z ∧ e = .returned (wv z) ∧ Below w.heap.size w w'
/-- .. and a bool. -/
def RetWB (w : World) (Q : Nat → Bool → Prop) (e : Ending) (w' : World) : Prop := ∃ z b, z < W256 ∧ Q z b ∧ e = .returned (.tuple #[wv z, .bool b]) ∧ Below w.heap.size w w'
/-- Two numbers. -/
def RetWW (w : World) (Q : Nat → Nat → Prop) (e : Ending) (w' : World) : Prop := ∃ y z, y < W256 ∧ z < W256 ∧ Q y z ∧ e = .returned (.tuple #[wv y, wv z]) ∧ Below w.heap.size w w'
/-- A bool. -/
def RetB (w : World) (b : Bool) (e : Ending) (w' : World) : Prop := e = .returned (.bool b) ∧ Below w.heap.size w w'

end Go.Proofs.Ytbjcigokimieoaa
