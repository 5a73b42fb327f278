/-
  bynameref02.Power: the digits of a power of 2.
-/
import Derived.Test.YtdobfmpngfgafaaDs
namespace Go.Proofs.Ytdobfmpngfgafaa
open Go.RowKit

theorem set_dcells (ds : List Nat) (j d : Nat) : (dcells ds).set j (.int .u64 ((d : Nat) : Int)) = dcells (ds.set j d) := by
  simp [dcells, List.map_set]
/-- A digit is written. -/
theorem OwnD.store {W : World} {B g n c : Nat} {ds : List Nat} (h : OwnD W B g n c ds) (j d : Nat) : OwnD (W.setCell ⟨g, j, none⟩ (.int .u64 ((d : Nat) : Int))) B g n c (ds.set j d) :=
  ⟨by rw [← set_dcells]; exact (h.own.stored j _).1, by rw [List.length_set]; exact h.len⟩
theorem OwnD.frozen {W : World} {B g n c : Nat} {ds : List Nat} (h : OwnD W B g n c ds) (j : Nat) : W.frozen? ⟨g, j, none⟩ = false := h.own.frozenAt j
theorem OwnD.at_ {W : World} {B g n c : Nat} {ds : List Nat} (h : OwnD W B g n c ds) (j : Nat) (hj : j < n) : W.cell? ⟨g, j, none⟩ = some (.int .u64 ((Go.Proofs.Ytdobfmpngfgafaa.dg ds j : Nat) : Int)) := by
  have := h.dg.cell j (by rw [h.len]; exact hj)
  rwa [Nat.zero_add] at this

theorem pow_digit (r : Nat) (h : r < 16) : 2 ^ r < 65536 := by
  have : 2 ^ r < 2 ^ 16 := Nat.pow_lt_pow_right (by decide) h
  exact this

theorem RetD.mk {w W : World} {Q : List Nat → Prop} {g n c : Nat} {ds : List Nat} (hQ : Q ds) (h : OwnD W w.heap.size g n c ds) (hb : Below w.heap.size w W) : RetD w Q (.returned (sv g 0 n c)) W := by
  obtain rfl := h.len
  exact ⟨g, c, ds, hQ, rfl, h, hb⟩

/-- make(Digits, n). -/
theorem wpList_noughts {ops : Array Oper} {rest : List Oper} {o : Oper} {a : Act} {Q : Exit → Act → World → Prop} {W : World} (hgd : o.guard = none) (l c : Operand)
    (ho : o.op = Op.makeSlice 27 l c) (B n : Nat) (L C : Int) (hl : a.eval l = .int .i64 L) (hc : a.eval c = .int .i64 C) (hL : L = (n : Int)) (hC : C = (n : Int)) (hn : n ≤ 1000000) (hB : B ≤ W.heap.size)
    (h : ∀ W', OwnD W' B W.heap.size n n (List.replicate n 0) → Below B W W' → wpList Try.prog ops Q rest (a.put o.dst (sv W.heap.size 0 n n)) W') : wpList Try.prog ops Q (o :: rest) a W := by
  obtain ⟨i0, hi, hz0, hz1, hz2⟩ := info_parts u64_row
  refine wpList_make_full W hgd l c 27 ho B 22 i0 (.int .u64 0) 1 Try.underlying27 hi hz0 hz1 .i64 .i64 L C n hl hc hL hC ?_ ?_ hB ?_
  · rw [hz2]; omega
  · simp only [maxLen]; omega
  · intro W' ho' hg
    refine h W' ⟨?_, by simp⟩ ((Below.refl B W).grown hg hB (fun k hk => by cases hk))
    have e : (madeCells (Value.int .u64 0).cells (n * 1)).toList = dcells (List.replicate n 0) := by
      rw [show (Value.int .u64 0).cells = #[Value.int .u64 0] from rfl, toList_madeCells_one, Nat.mul_one]; simp [dcells]
    rw [← e]; exact ho'

theorem val_noughts (n : Nat) : val (List.replicate n 0) = 0 := by
  induction n with
  | zero => rfl
  | succ n ih => rw [List.replicate_succ, val, ih]
theorem digs_noughts (n : Nat) : Digs (List.replicate n 0) := fun d hd => by rw [(List.mem_replicate.1 hd).2]; decide
theorem digs_set (ds : List Nat) (h : Digs ds) (i d : Nat) (hd : d < 65536) : Digs (ds.set i d) := by
  intro x hx
  rcases List.mem_or_eq_of_mem_set hx with hx | rfl
  · exact h x hx
  · exact hd
theorem val_set : ∀ (ds : List Nat) (i d : Nat), i < ds.length → val (ds.set i d) + 65536 ^ i * dg ds i = val ds + 65536 ^ i * d
  | [], _, _, h => absurd h (by simp)
  | x :: ds, 0, d, _ => by simp [val, dg]; omega
  | x :: ds, i + 1, d, h => by
    have ih := val_set ds i d (by simpa using h)
    have e : dg (x :: ds) (i + 1) = dg ds i := by simp [dg]
    rw [List.set_cons_succ, val, val, e, Nat.pow_succ, Nat.mul_comm (65536 ^ i) 65536, Nat.mul_assoc, Nat.mul_assoc]
    omega

set_option maxRecDepth 100000 in
set_option maxHeartbeats 1000000 in
theorem power_w (n q r p : Nat) (w : World) (hn : n ≤ 1000) (hq : n / 16 = q) (hr : n % 16 = r) (hp : 2 ^ r = p) :
    Calls Try.prog 41 #[.int .i64 n] w (RetD w fun ds => ds = (List.replicate (q + 1) 0).set q p) := by
  have hn' : (n : Int) ≤ 1000 := by omega
  have hq' : (n : Int) / 16 = q := by omega
  have hr' : (n : Int) % 16 = r := by omega
  have hq1 : (q : Int) ≤ 100 := by omega
  have hr1 : (r : Int) < 16 := by omega
  have hr2 : r < 16 := by omega
  have hp' : IntKind.u64.wrap (2 ^ r) = (p : Int) := by
    have h2 : p < 65536 := by rw [← hp]; exact pow_digit r hr2
    have h3 : ((2 : Int) ^ r) = (p : Int) := by rw [← hp]; simp
    rw [IntKind.wrap_u64, h3]; omega
  clear hq hr hp hn
  go_enter Try.func41, Try.ntmps41
  go_wp2_with (at_make; go_loud (refine wpList_noughts (by rfl) _ _ (by rfl) w.heap.size (q + 1) _ _ (by rfl) (by rfl) (by simp) (by simp) (by omega) (Nat.le_refl _) ?_; intro W1 ho hb; have O1 := Lib.hid ho; have B1 := Lib.hid hb; have fr := ho.frozen q; have ce := ho.at_ q (by omega); clear ho hb))
  go_ret
  exact RetD.mk rfl (O1.out.store q p) (B1.out.setCell (Nat.le_refl _) _)

theorem power_d (n : Nat) (w : World) (hn : n ≤ 1000) :
    Calls Try.prog 41 #[.int .i64 n] w (RetD w fun ds => val ds = 2 ^ n ∧ Digs ds ∧ ds.length = n / 16 + 1) := by
  refine (power_w n _ _ _ w hn rfl rfl rfl).mono ?_
  rintro e w' ⟨g, c, ds, hds, rest⟩
  refine ⟨g, c, ds, ?_, rest⟩
  have hp : 2 ^ (n % 16) < 65536 := pow_digit _ (by omega)
  subst hds
  refine ⟨?_, digs_set _ (digs_noughts _) _ _ hp, by simp⟩
  have e := val_set (List.replicate (n / 16 + 1) 0) (n / 16) (2 ^ (n % 16)) (by simp)
  have z : dg (List.replicate (n / 16 + 1) 0) (n / 16) = 0 := by simp [dg, List.getD_eq_getElem?_getD]
  rw [z, val_noughts, show (65536 : Nat) = 2 ^ 16 from rfl, ← Nat.pow_mul, ← Nat.pow_add] at e
  rw [show 16 * (n / 16) + n % 16 = n by omega] at e
  omega
end Go.Proofs.Ytdobfmpngfgafaa
