/-
  bynameref03.Inv.
-/
import Derived.Test.YtdobfmpngfgafaaRp
namespace Go.Proofs.Ytdobfmpngfgafaa
open Go.RowKit

theorem drow_two : DRow [2] (.cells #[.int .u64 2] 22) := ⟨_, rfl, fun i hi => by
  obtain rfl : i = 0 := by simpa using hi
  rfl⟩
theorem digs_two : Digs [2] := fun d hd => by
  obtain rfl : d = 2 := by simpa using hd
  decide

set_option maxRecDepth 100000 in
set_option maxHeartbeats 1000000 in
theorem rinv_c (gx cx : Nat) (x : List Nat) (ox : Obj) (p : Bool) (w : World) (hx : w.heap[gx]? = some ox) (rx : DRow x ox) (dx : Digs x) (lx : x.length ≤ 16) (kx : x.length ≤ cx) :
    Calls Try.prog 20 #[sv gx 0 x.length cx, .bool p] w (RetT w fun z => val z = val x ^ (PRM p - 2) % PRM p ∧ Digs z ∧ z.length ≤ 16 ∧ Trimmed z) := by
  have HX := Lib.hid hx; have RX := Lib.hid rx; have DX := Lib.hid dx; have KX := Lib.hid kx
  clear hx rx dx kx
  go_enter Try.func20, Try.ntmps20
  go_wp2_with fail
  refine (prime_c p _).mono ?_
  rintro e W0 ⟨g0, c0, d0, o0, H0, rfl, K0, R0, T0, hb⟩
  have S0 := ((((St.nil w).cons HX.out).keep hb).cons T0.out).alloc (.cells #[.int .u64 2] 22) _ rfl
  clear hb
  go_wp2_with fail
  refine ((sub_d g0 0 c0 _ 0 1 d0 [2] _ (dg_of (S0.get (List.Mem.tail _ (List.Mem.head _))) R0) (dg_of (S0.get (List.Mem.head _)) drow_two) (by rw [H0.out.2.2]; decide) (by decide) H0.out.2.1 digs_two (by rw [H0.out.1]; exact Nat.le_trans (by decide : val [2] ≤ 115792089237316195423570985008687907852837564279074904382605163141518161494336) (Nat.le_of_lt (prm_big p)))).mono fun _ _ h => h.t).mono ?_
  rintro e W1 ⟨g1, c1, d1, o1, H1, rfl, K1, R1, T1, hb⟩
  have S1 := (S0.keep hb).cons T1.out
  clear hb
  go_wp2_with fail
  refine (rpow_c gx cx g1 c1 x d1 ox o1 p _ (S1.get (List.Mem.tail _ (List.Mem.tail _ (List.Mem.tail _ (List.Mem.head _))))) RX.out DX.out lx KX.out (S1.get (List.Mem.head _)) R1 H1.out.2.1 (by rw [H1.out.2.2, H0.out.2.2]; decide)).mono ?_
  rintro e W2 ⟨g2, c2, d2, o2, H2, rfl, K2, R2, T2, hb⟩
  have S2 := S1.keep hb
  clear hb
  go_wp2_with fail
  go_ret
  exact ⟨g2, c2, d2, o2, by rw [H1.out.1, H0.out.1] at H2; exact H2, rfl, K2, R2, T2, S2.below⟩
end Go.Proofs.Ytdobfmpngfgafaa
