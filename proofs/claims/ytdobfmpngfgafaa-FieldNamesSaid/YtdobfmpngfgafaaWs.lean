/-
  The walks of wide.Left and Right: the loops unrolled, one theorem for each number of whole words. (Printed by gen_shift.py.)
-/
import Derived.Test.YtdobfmpngfgafaaWb
import Derived.Test.YtdobfmpngfgafaaSh
import Derived.BigQuiet
namespace Go.Proofs.Ytdobfmpngfgafaa
open Go.RowKit

/-- Four words that are a number. -/
def RetV (w : World) (s0 s1 s2 s3 : Int) (e : Ending) (w' : World) : Prop := e = .returned (.agg #[.int .u64 s0, .int .u64 s1, .int .u64 s2, .int .u64 s3]) ∧ Below w.heap.size w w'

set_option maxHeartbeats 1000000 in
theorem right_wn (a0 a1 a2 a3 n : Int) (w : World) (hn : n < 1) :
    Calls Try.prog 36 #[.agg #[.int .u64 a0, .int .u64 a1, .int .u64 a2, .int .u64 a3], .int .i64 n] w (RetV w a0 a1 a2 a3) := by
  go_enter Try.func36, Try.ntmps36
  go_wp2
  go_returns
  exact ⟨rfl, by go_grown⟩
set_option maxHeartbeats 1000000 in
theorem right_w4 (a0 a1 a2 a3 n : Int) (w : World) (hn : 256 ≤ n) :
    Calls Try.prog 36 #[.agg #[.int .u64 a0, .int .u64 a1, .int .u64 a2, .int .u64 a3], .int .i64 n] w (RetV w 0 0 0 0) := by
  have hn' : 1 ≤ n := by omega
  go_enter Try.func36, Try.ntmps36
  go_wp2
  go_returns
  exact ⟨rfl, by go_grown⟩

set_option maxHeartbeats 1000000 in
theorem right_w0 (a0 a1 a2 a3 n r : Int) (w : World) (h0 : Wd a0) (h1 : Wd a1) (h2 : Wd a2) (h3 : Wd a3) (hq : n / 64 = 0) (hr : n % 64 = r) (hn : 1 ≤ n) (hn1 : n < 256) (hr0 : 0 ≤ r) (hr1 : r < 64) :
    Calls Try.prog 36 #[.agg #[.int .u64 a0, .int .u64 a1, .int .u64 a2, .int .u64 a3], .int .i64 n] w (RetV w (bits BinOp.or IntKind.u64 (a0 / 2 ^ r.toNat) (IntKind.u64.wrap (a1 * 2 ^ (64 - r).toNat))) (bits BinOp.or IntKind.u64 (a1 / 2 ^ r.toNat) (IntKind.u64.wrap (a2 * 2 ^ (64 - r).toNat))) (bits BinOp.or IntKind.u64 (a2 / 2 ^ r.toNat) (IntKind.u64.wrap (a3 * 2 ^ (64 - r).toNat))) (a3 / 2 ^ r.toNat)) := by
  obtain ⟨h0, h0'⟩ := h0; obtain ⟨h1, h1'⟩ := h1; obtain ⟨h2, h2'⟩ := h2; obtain ⟨h3, h3'⟩ := h3
  have _k := And.intro hn (And.intro hn1 (And.intro hr0 hr1)); clear _k
  go_enter Try.func36, Try.ntmps36
  go_wp2
  refine wp_loop_rounds 5 ?_
  rw [rounds_succ]; go_wp2
  go_region
  go_wp2
  rw [rounds_succ]; go_wp2
  go_region
  go_wp2
  rw [rounds_succ]; go_wp2
  go_region
  go_wp2
  rw [rounds_succ]; go_wp2
  rw [rounds_succ]; go_wp2
  go_returns
  exact ⟨rfl, by go_grown⟩
set_option maxHeartbeats 1000000 in
theorem right_w1 (a0 a1 a2 a3 n r : Int) (w : World) (h0 : Wd a0) (h1 : Wd a1) (h2 : Wd a2) (h3 : Wd a3) (hq : n / 64 = 1) (hr : n % 64 = r) (hn : 1 ≤ n) (hn1 : n < 256) (hr0 : 0 ≤ r) (hr1 : r < 64) :
    Calls Try.prog 36 #[.agg #[.int .u64 a0, .int .u64 a1, .int .u64 a2, .int .u64 a3], .int .i64 n] w (RetV w (bits BinOp.or IntKind.u64 (a1 / 2 ^ r.toNat) (IntKind.u64.wrap (a2 * 2 ^ (64 - r).toNat))) (bits BinOp.or IntKind.u64 (a2 / 2 ^ r.toNat) (IntKind.u64.wrap (a3 * 2 ^ (64 - r).toNat))) (a3 / 2 ^ r.toNat) 0) := by
  obtain ⟨h0, h0'⟩ := h0; obtain ⟨h1, h1'⟩ := h1; obtain ⟨h2, h2'⟩ := h2; obtain ⟨h3, h3'⟩ := h3
  have _k := And.intro hn (And.intro hn1 (And.intro hr0 hr1)); clear _k
  go_enter Try.func36, Try.ntmps36
  go_wp2
  refine wp_loop_rounds 5 ?_
  rw [rounds_succ]; go_wp2
  go_region
  go_wp2
  rw [rounds_succ]; go_wp2
  go_region
  go_wp2
  rw [rounds_succ]; go_wp2
  rw [rounds_succ]; go_wp2
  go_returns
  exact ⟨rfl, by go_grown⟩
set_option maxHeartbeats 1000000 in
theorem right_w2 (a0 a1 a2 a3 n r : Int) (w : World) (h0 : Wd a0) (h1 : Wd a1) (h2 : Wd a2) (h3 : Wd a3) (hq : n / 64 = 2) (hr : n % 64 = r) (hn : 1 ≤ n) (hn1 : n < 256) (hr0 : 0 ≤ r) (hr1 : r < 64) :
    Calls Try.prog 36 #[.agg #[.int .u64 a0, .int .u64 a1, .int .u64 a2, .int .u64 a3], .int .i64 n] w (RetV w (bits BinOp.or IntKind.u64 (a2 / 2 ^ r.toNat) (IntKind.u64.wrap (a3 * 2 ^ (64 - r).toNat))) (a3 / 2 ^ r.toNat) 0 0) := by
  obtain ⟨h0, h0'⟩ := h0; obtain ⟨h1, h1'⟩ := h1; obtain ⟨h2, h2'⟩ := h2; obtain ⟨h3, h3'⟩ := h3
  have _k := And.intro hn (And.intro hn1 (And.intro hr0 hr1)); clear _k
  go_enter Try.func36, Try.ntmps36
  go_wp2
  refine wp_loop_rounds 5 ?_
  rw [rounds_succ]; go_wp2
  go_region
  go_wp2
  rw [rounds_succ]; go_wp2
  rw [rounds_succ]; go_wp2
  go_returns
  exact ⟨rfl, by go_grown⟩
set_option maxHeartbeats 1000000 in
theorem right_w3 (a0 a1 a2 a3 n r : Int) (w : World) (h0 : Wd a0) (h1 : Wd a1) (h2 : Wd a2) (h3 : Wd a3) (hq : n / 64 = 3) (hr : n % 64 = r) (hn : 1 ≤ n) (hn1 : n < 256) (hr0 : 0 ≤ r) (hr1 : r < 64) :
    Calls Try.prog 36 #[.agg #[.int .u64 a0, .int .u64 a1, .int .u64 a2, .int .u64 a3], .int .i64 n] w (RetV w (a3 / 2 ^ r.toNat) 0 0 0) := by
  obtain ⟨h0, h0'⟩ := h0; obtain ⟨h1, h1'⟩ := h1; obtain ⟨h2, h2'⟩ := h2; obtain ⟨h3, h3'⟩ := h3
  have _k := And.intro hn (And.intro hn1 (And.intro hr0 hr1)); clear _k
  go_enter Try.func36, Try.ntmps36
  go_wp2
  refine wp_loop_rounds 5 ?_
  rw [rounds_succ]; go_wp2
  rw [rounds_succ]; go_wp2
  go_returns
  exact ⟨rfl, by go_grown⟩

end Go.Proofs.Ytdobfmpngfgafaa
