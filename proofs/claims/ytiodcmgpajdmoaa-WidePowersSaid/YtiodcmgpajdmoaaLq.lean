/-
  The law WidePowers: outside 0 to 255 it answers true at once; both together.
-/
import Derived.Test.YtiodcmgpajdmoaaLp
namespace Go.Proofs.Ytiodcmgpajdmoaa
open Go.RowKit

set_option maxRecDepth 100000 in
set_option maxHeartbeats 1000000 in
theorem powers_low (a : Nat) (n : Int) (hn : n < 0) (w : World) : Calls Try.prog 9 #[wv a, .int .i64 n] w (RetB w true) := by
  go_enter Try.func9, Try.ntmps9
  have S0 := (St.nil w).alloc (wrow a) _ rfl
  go_wp2_with fail
  refine (alive_c _).mono ?_
  rintro e W1 ⟨rfl, hb⟩
  have S1 := S0.keep hb
  clear hb
  go_wp2
  go_ret
  exact ⟨rfl, S1.below⟩

set_option maxRecDepth 100000 in
set_option maxHeartbeats 1000000 in
theorem powers_high (a : Nat) (n : Int) (hn : 255 < n) (w : World) : Calls Try.prog 9 #[wv a, .int .i64 n] w (RetB w true) := by
  have hn0 : ¬ n < 0 := by omega
  go_enter Try.func9, Try.ntmps9
  have S0 := (St.nil w).alloc (wrow a) _ rfl
  go_wp2_with fail
  refine (alive_c _).mono ?_
  rintro e W1 ⟨rfl, hb⟩
  have S1 := S0.keep hb
  clear hb
  go_wp2
  go_ret
  exact ⟨rfl, S1.below⟩

theorem powers_all (a : Nat) (n : Int) (ha : a < W256) (_ : -9223372036854775808 ≤ n ∧ n ≤ 9223372036854775807) (w : World) : Calls Try.prog 9 #[wv a, .int .i64 n] w (RetB w true) := by
  by_cases h0 : n < 0
  · exact powers_low a n h0 w
  · by_cases h1 : 255 < n
    · exact powers_high a n h1 w
    · exact powers_w a n ha (by omega) (by omega) w

end Go.Proofs.Ytiodcmgpajdmoaa
