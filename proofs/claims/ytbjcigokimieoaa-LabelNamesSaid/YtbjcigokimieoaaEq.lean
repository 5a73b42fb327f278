/-
  '==' between two arrays of numbers: as the numbers are.
-/
import Derived.Test.YtbjcigokimieoaaRows
import Derived.Test.YtbjcigokimieoaaNum
import Derived.ChangeKeysEq
namespace Go.Proofs.Ytbjcigokimieoaa
open Go.RowKit

/-- Are two arrays of n numbers the same? -/
def alike (n : Nat) (f g : Nat → Int) : Bool := (List.range n).all fun i => f i == g i
theorem alike_iff (n : Nat) (f g : Nat → Int) : alike n f g = true ↔ ∀ i, i < n → f i = g i := by
  simp [alike]

theorem run_eqItems_ints {P : Program} (w : World) (d : Nat) {e : TypeId} {k : IntKind} (he : P.underlying e = some (.int k)) (f g : Nat → Int) (xs ys : Array Value) (l : List Nat)
    (hx : ∀ j, j ∈ l → xs[j]? = some (.int k (f j))) (hy : ∀ j, j ∈ l → ys[j]? = some (.int k (g j))) :
    (Op.eqItems (d + 1) e 1 xs ys l).run P w = .ok (l.all fun i => f i == g i) w := by
  induction l with
  | nil => simp [Op.eqItems]
  | cons j l ih =>
    have hxj := hx j (by simp)
    have hyj := hy j (by simp)
    obtain ⟨hxs, hxv⟩ := Array.getElem?_eq_some_iff.1 hxj
    obtain ⟨hys, hyv⟩ := Array.getElem?_eq_some_iff.1 hyj
    have hag : (isAgg e).run P w = .ok false w := by
      unfold isAgg; rw [Sem.run_bind, run_underlying he w]; rfl
    have px : (part e xs (j * 1)).run P w = .ok (.int k (f j)) w := by
      unfold part; simp [Sem.run_bind, hag, hxs, hxv]
    have py : (part e ys (j * 1)).run P w = .ok (.int k (g j)) w := by
      unfold part; simp [Sem.run_bind, hag, hys, hyv]
    have pe : (Op.equalIn (d + 1) e (.int k (f j)) (.int k (g j))).run P w = .ok (f j == g j) w := run_equalIn_int w d e k k (f j) (g j) he
    simp only [Op.eqItems, Sem.run_bind, px, py, pe, Result.andThen_ok]
    by_cases h : f j = g j
    · simp [h]
      simpa using ih (fun j hj => hx j (by simp [hj])) (fun j hj => hy j (by simp [hj]))
    · have : (f j == g j) = false := by simpa using h
      simp [this]

theorem run_eql_array {P : Program} (w : World) {t e : TypeId} {n : Nat} {k : IntKind} {i : TypeInfo} (hu : P.underlying t = some (.array n e)) (he : P.underlying e = some (.int k)) (hi : P.info? e = some i) (hc : P.cellsOf e = 1)
    (f g : Nat → Int) (xs ys : Array Value) (hx : ∀ j, j < n → xs[j]? = some (.int k (f j))) (hy : ∀ j, j < n → ys[j]? = some (.int k (g j))) :
    (Op.equalIn 10000 t (.agg xs) (.agg ys)).run P w = .ok (alike n f g) w := by
  rw [run_equalIn_array w 9999 xs ys hu hi, hc]
  exact run_eqItems_ints w 9998 he f g xs ys _ (fun j hj => hx j (by simpa using hj)) (fun j hj => hy j (by simpa using hj))

/-- Are two numbers the same? (As the program asks it: limb by limb.) -/
def weq (x y : Nat) : Bool := alike 4 (fun i => ((limb x i : Nat) : Int)) (fun i => ((limb y i : Nat) : Int))
theorem weq_iff {x y : Nat} (hx : x < W256) (hy : y < W256) : weq x y = true ↔ x = y := by
  unfold weq
  rw [alike_iff]
  constructor
  · intro h
    have h0 := h 0 (by decide); have h1 := h 1 (by decide); have h2 := h 2 (by decide); have h3 := h 3 (by decide)
    exact limb_ext hx hy (by omega) (by omega) (by omega) (by omega)
  · rintro rfl i _; rfl
theorem weq_decide {x y : Nat} (hx : x < W256) (hy : y < W256) : weq x y = decide (x = y) := by
  rw [Bool.eq_iff_iff, weq_iff hx hy]; simp

theorem get_wv (x j : Nat) (h : j < 4) : (#[Value.int .u64 (limb x 0 : Nat), .int .u64 (limb x 1 : Nat), .int .u64 (limb x 2 : Nat), .int .u64 (limb x 3 : Nat)])[j]? = some (.int .u64 ((fun i => ((limb x i : Nat) : Int)) j)) := by
  match j, h with
  | 0, _ => rfl
  | 1, _ => rfl
  | 2, _ => rfl
  | 3, _ => rfl
theorem get_w0 (j : Nat) (h : j < 4) : (#[Value.int .u64 0, .int .u64 0, .int .u64 0, .int .u64 0])[j]? = some (.int .u64 ((fun i => ((limb 0 i : Nat) : Int)) j)) := by
  match j, h with
  | 0, _ => rfl
  | 1, _ => rfl
  | 2, _ => rfl
  | 3, _ => rfl

/-- The type's row, said once. -/
theorem wide_info : (Try.prog.info? 69).isSome = true := by kernel_rfl
theorem wide_cells : Try.prog.cellsOf 69 = 1 := by kernel_rfl
end Go.Proofs.Ytbjcigokimieoaa
