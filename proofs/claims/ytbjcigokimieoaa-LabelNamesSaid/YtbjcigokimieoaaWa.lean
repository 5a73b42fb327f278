/-
  The walks of package wide: what each function computes, said of numbers below 2^256. Of, Add, Sub, Less.
-/
import Derived.Test.YtbjcigokimieoaaRows
import Derived.Test.YtbjcigokimieoaaNum
import Derived.WalkSpells
import Derived.WalkLawsBesides
import Derived.Laws.Externs
import Derived.RegionTactic
import Derived.BigRegion
import Derived.Shelf.Spec.BitsCarry
namespace Go.Proofs.Ytbjcigokimieoaa
open Go.RowKit

/-- A word. -/
def Wd (x : Int) : Prop := 0 ≤ x ∧ x < 18446744073709551616
/-- Four words as a number. -/
def sum4 (a b c d : Int) : Int := a + 18446744073709551616 * b + 340282366920938463463374607431768211456 * c + 6277101735386680763835789423207666416102355444464034512896 * d

/-- What Add and Sub leave: four words and a carry. -/
def Ret4 (w : World) (Q : Int → Int → Prop) (e : Ending) (w' : World) : Prop := ∃ s0 s1 s2 s3 c : Int, Wd s0 ∧ Wd s1 ∧ Wd s2 ∧ Wd s3 ∧ 0 ≤ c ∧ c ≤ 1 ∧ Q (sum4 s0 s1 s2 s3) c ∧
  e = .returned (.tuple #[.agg #[.int .u64 s0, .int .u64 s1, .int .u64 s2, .int .u64 s3], .bool (c == 1)]) ∧ Below w.heap.size w w'

theorem wd_limb (n i : Nat) : Wd (limb n i : Nat) := limb_bd n i
theorem sum4_limbs (n : Nat) (h : n < W256) : sum4 (limb n 0 : Nat) (limb n 1 : Nat) (limb n 2 : Nat) (limb n 3 : Nat) = n := by
  have := limbs_sum n h
  unfold sum4; omega
theorem sum4_bd {a b c d : Int} (ha : Wd a) (hb : Wd b) (hc : Wd c) (hd : Wd d) : 0 ≤ sum4 a b c d ∧ sum4 a b c d < 115792089237316195423570985008687907853269984665640564039457584007913129639936 := by
  unfold Wd at *; unfold sum4; omega

end Go.Proofs.Ytbjcigokimieoaa
