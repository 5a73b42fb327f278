/-
  Numbers as digits to the base 65536, in a slice: what a slice reads as, and the number that it is.
-/
import Derived.Test.YtdobfmpngfgafaaSt
import Derived.LoopTactic
namespace Go.Proofs.Ytdobfmpngfgafaa
open Go.RowKit

/-- The number of digits to the base 65536, the lowest first. -/
def val : List Nat → Nat
  | [] => 0
  | d :: ds => d + 65536 * val ds
/-- Each digit is one. -/
def Digs (ds : List Nat) : Prop := ∀ d, d ∈ ds → d < 65536

theorem val_append (a b : List Nat) : val (a ++ b) = val a + 65536 ^ a.length * val b := by
  induction a with
  | nil => simp [val]
  | cons d a ih =>
    simp only [List.cons_append, val, ih, List.length_cons, Nat.pow_succ]
    have e : 65536 ^ a.length * 65536 * val b = 65536 * (65536 ^ a.length * val b) := by rw [Nat.mul_comm (65536 ^ a.length), Nat.mul_assoc]
    rw [e]; omega
theorem val_snoc (a : List Nat) (d : Nat) : val (a ++ [d]) = val a + 65536 ^ a.length * d := by simp [val_append, val]
theorem val_lt (a : List Nat) (h : Digs a) : val a < 65536 ^ a.length := by
  induction a with
  | nil => simp [val]
  | cons d a ih =>
    have h1 := h d (by simp)
    have h2 := ih (fun x hx => h x (by simp [hx]))
    simp only [val, List.length_cons, Nat.pow_succ]; omega
/-- A digit; 0 behind the last one. (Closed to simp.) -/
def dg (ds : List Nat) (i : Nat) : Nat := ds.getD i 0
theorem dg_end (ds : List Nat) (i : Nat) (h : ds.length ≤ i) : dg ds i = 0 := by
  unfold dg; rw [List.getD_eq_getElem?_getD, List.getElem?_eq_none h]; rfl
theorem digs_at (a : List Nat) (h : Digs a) (i : Nat) : dg a i < 65536 := by
  unfold dg; rw [List.getD_eq_getElem?_getD]
  cases hi : a[i]? with
  | none => simp
  | some d => exact h d (List.mem_of_getElem? hi)

/-- The cells of block b from o on read as these digits. -/
structure Dg (W : World) (b o : Nat) (ds : List Nat) : Prop where
  lt : b < W.heap.size
  cell : ∀ i, i < ds.length → W.cell? ⟨b, o + i, none⟩ = some (.int .u64 ((dg ds i : Nat) : Int))

theorem Dg.keep {W W' : World} {b o : Nat} {ds : List Nat} (h : Dg W b o ds) (hb : Below W.heap.size W W') : Dg W' b o ds :=
  ⟨Nat.lt_of_lt_of_le h.lt hb.size, fun i hi => (hb.cell (p := ⟨b, o + i, none⟩) h.lt).trans (h.cell i hi)⟩

/-- The value of a slice. -/
@[reducible] def sv (b o n c : Nat) : Value := .slice (some ⟨b, o, none⟩) n c

set_option maxHeartbeats 400000 in
theorem at_c (b o c : Nat) (ds : List Nat) (i : Int) (w : World) (h : Dg w b o ds) (hl : ds.length ≤ 1000000) (h0 : 0 ≤ i) :
    Calls Try.prog 47 #[sv b o ds.length c, .int .i64 i] w fun e w' => e = .returned (.int .u64 ((dg ds i.toNat : Nat) : Int)) ∧ w = w' := by
  obtain ⟨k, rfl⟩ := Int.eq_ofNat_of_zero_le h0
  have hd := Lib.hid h
  have hll : (ds.length : Int) ≤ 1000000 := by omega
  by_cases hk : k < ds.length
  · have hc := hd.out.cell k hk
    have hki : (k : Int) < ds.length := by omega
    clear h
    go_enter Try.func47, Try.ntmps47
    go_wp2
    go_ret
    exact ⟨rfl, rfl⟩
  · have hki : ¬ (k : Int) < ds.length := by omega
    have hz : dg ds k = 0 := dg_end ds k (by omega)
    have Hz := Lib.hid hz
    clear h hz
    go_enter Try.func47, Try.ntmps47
    go_wp2
    go_ret
    refine ⟨?_, rfl⟩
    show _ = Ending.returned (.int .u64 ((dg ds k : Nat) : Int))
    rw [Hz.out]; rfl

/-- The number of the lowest n digits. -/
def valN (ds : List Nat) : Nat → Nat
  | 0 => 0
  | n + 1 => valN ds n + dg ds n * 65536 ^ n
theorem valN_nil (n : Nat) : valN [] n = 0 := by
  induction n with
  | zero => rfl
  | succ n ih => rw [valN, ih, dg_end [] n (by simp)]; simp
theorem valN_cons (d : Nat) (ds : List Nat) (n : Nat) : valN (d :: ds) (n + 1) = d + 65536 * valN ds n := by
  induction n with
  | zero => simp [valN, dg]
  | succ n ih =>
    rw [valN, ih, valN]
    have e : dg (d :: ds) (n + 1) = dg ds n := by simp [dg]
    rw [e, Nat.mul_add, Nat.pow_succ, Nat.mul_comm (65536 ^ n) 65536, Nat.mul_left_comm (dg ds n), Nat.add_assoc]
theorem valN_eq (ds : List Nat) : ∀ n, ds.length ≤ n → valN ds n = val ds := by
  induction ds with
  | nil => intro n _; rw [valN_nil]; rfl
  | cons d ds ih =>
    intro n hn
    obtain ⟨m, rfl⟩ : ∃ m, n = m + 1 := ⟨n - 1, by simp at hn; omega⟩
    rw [valN_cons, ih m (by simp at hn; omega)]; rfl
theorem valN_lt (ds : List Nat) (h : Digs ds) : ∀ n, valN ds n < 65536 ^ n
  | 0 => by simp [valN]
  | n + 1 => by
    have h1 := digs_at ds h n
    have h2 := valN_lt ds h n
    have h3 := Nat.mul_le_mul_right (65536 ^ n) (show dg ds n ≤ 65535 by omega)
    rw [valN, Nat.pow_succ]; omega

/-- Which one is greater: as the document's Compare answers. -/
def cmp (x y : Nat) : Int := if x < y then -1 else if y < x then 1 else 0
theorem cmp_lt {x y : Nat} (h : x < y) : cmp x y = -1 := by simp [cmp, h]
theorem cmp_gt {x y : Nat} (h : y < x) : cmp x y = 1 := by unfold cmp; rw [if_neg (by omega), if_pos h]
theorem cmp_eq (x : Nat) : cmp x x = 0 := by simp [cmp]

theorem valN_high (a b : List Nat) (k : Nat) : ∀ n, k ≤ n → (∀ j, k ≤ j → j < n → dg a j = dg b j) → (valN a k < valN b k → valN a n < valN b n) ∧ (valN a k = valN b k → valN a n = valN b n) := by
  intro n
  induction n with
  | zero =>
    intro h _
    obtain rfl : k = 0 := by omega
    exact ⟨fun h => h, fun h => h⟩
  | succ n ih =>
    intro hk h
    by_cases e : k = n + 1
    · subst e; exact ⟨fun h => h, fun h => h⟩
    · obtain ⟨h1, h2⟩ := ih (by omega) (fun j hj hl => h j hj (by omega))
      have h3 := h n (by omega) (by omega)
      simp only [valN, h3]
      exact ⟨fun hh => by have := h1 hh; omega, fun hh => by rw [h2 hh]⟩
theorem cmp_step (a b : List Nat) (ha : Digs a) (hb : Digs b) (k n : Nat) (hk : k < n) (hn : a.length ≤ n) (hn' : b.length ≤ n) (h : ∀ j, k < j → j < n → dg a j = dg b j) :
    (dg a k < dg b k → cmp (val a) (val b) = -1) ∧ (dg b k < dg a k → cmp (val a) (val b) = 1) := by
  have ea := valN_eq a n hn; have eb := valN_eq b n hn'
  have la := valN_lt a ha k; have lb := valN_lt b hb k
  constructor
  · intro hlt
    have h3 := Nat.mul_le_mul_right (65536 ^ k) (show dg a k + 1 ≤ dg b k by omega)
    have := (valN_high a b (k + 1) n (by omega) (fun j hj hl => h j (by omega) hl)).1 (by rw [Nat.add_mul] at h3; simp only [valN]; omega)
    exact cmp_lt (by rw [← ea, ← eb]; exact this)
  · intro hlt
    have h3 := Nat.mul_le_mul_right (65536 ^ k) (show dg b k + 1 ≤ dg a k by omega)
    have := (valN_high b a (k + 1) n (by omega) (fun j hj hl => (h j (by omega) hl).symm)).1 (by rw [Nat.add_mul] at h3; simp only [valN]; omega)
    exact cmp_gt (by rw [← ea, ← eb]; exact this)
theorem cmp_same (a b : List Nat) (n : Nat) (hn : a.length ≤ n) (hn' : b.length ≤ n) (h : ∀ j, j < n → dg a j = dg b j) : cmp (val a) (val b) = 0 := by
  have := (valN_high a b 0 n (by omega) (fun j _ hl => h j hl)).2 rfl
  rw [← valN_eq a n hn, ← valN_eq b n hn', this, cmp_eq]

set_option maxHeartbeats 1000000 in
theorem compare_c (b1 o1 c1 b2 o2 c2 : Nat) (da db : List Nat) (w : World) (h1 : Dg w b1 o1 da) (h2 : Dg w b2 o2 db) (l1 : da.length ≤ 1000000) (l2 : db.length ≤ 1000000) (g1 : Digs da) (g2 : Digs db) :
    Calls Try.prog 28 #[sv b1 o1 da.length c1, sv b2 o2 db.length c2] w fun e w' => e = .returned (.int .i64 (cmp (val da) (val db))) ∧ w = w' := by
  obtain ⟨n, hn, hna, hnb, hnm⟩ : ∃ n : Nat, (n : Int) = max (da.length : Int) db.length ∧ da.length ≤ n ∧ db.length ≤ n ∧ n ≤ 1000000 := ⟨max da.length db.length, by omega, by omega, by omega, by omega⟩
  have hll : (da.length : Int) ≤ 1000000 := by omega
  have hll2 : (db.length : Int) ≤ 1000000 := by omega
  have H1 := Lib.hid h1; have H2 := Lib.hid h2; have G1 := Lib.hid g1; have G2 := Lib.hid g2; have HN := Lib.hid hn
  clear h1 h2 g1 g2 hn
  go_enter Try.func28, Try.ntmps28
  go_wp2
  go_loop [5] (fun v => ∃ k : Nat, v = .int .i64 ((k : Int) - 1) ∧ k ≤ n ∧ Hid (∀ j, k ≤ j → j < n → dg da j = dg db j)) (fun v => (intOf v + 1).toNat)
  case atStart => exact ⟨n, by rw [HN.out], Nat.le_refl _, fun j h1 h2 => by omega⟩
  case round =>
    obtain ⟨k, rfl, hk, hE⟩ := hrel
    by_cases hk0 : k = 0
    · subst hk0
      have hfin := Lib.hid (cmp_same da db n hna hnb (fun j hj => hE.out j (by omega) hj))
      go_wp2
      go_ret
      exact ⟨by rw [hfin.out]; rfl, rfl⟩
    · obtain ⟨m, rfl⟩ : ∃ m, k = m + 1 := ⟨k - 1, by omega⟩
      have em : (((m + 1 : Nat) : Int) - 1) = m := by omega
      rw [em]
      obtain ⟨hs1, hs2⟩ := cmp_step da db G1.out G2.out m n (by omega) hna hnb (fun j h1 h2 => hE.out j (by omega) h2)
      have HS1 := Lib.hid hs1; have HS2 := Lib.hid hs2
      have hm : (m : Int) ≤ 1000000 := by omega
      have hm0 : (0 : Int) ≤ m := by omega
      have A1 := Lib.hid (show Calls Try.prog 47 #[sv b1 o1 da.length c1, .int .i64 (m : Int)] w fun e w' => e = .returned (.int .u64 ((dg da m : Nat) : Int)) ∧ w = w' from at_c b1 o1 c1 da (m : Int) w H1.out l1 hm0)
      have A2 := Lib.hid (show Calls Try.prog 47 #[sv b2 o2 db.length c2, .int .i64 (m : Int)] w fun e w' => e = .returned (.int .u64 ((dg db m : Nat) : Int)) ∧ w = w' from at_c b2 o2 c2 db (m : Int) w H2.out l2 hm0)
      clear em hk0 hs1 hs2
      by_cases hlt : dg da m < dg db m
      · have hlt' : (dg da m : Int) < dg db m := by omega
        have hr := Lib.hid (HS1.out hlt)
        go_wp2_with (go_at_call 47; (first | (with_reducible refine A1.out.mono ?_) | (with_reducible refine A2.out.mono ?_)); rintro e w' ⟨rfl, rfl⟩)
        go_ret
        exact ⟨by rw [hr.out]; rfl, rfl⟩
      · have hlt' : ¬ (dg da m : Int) < dg db m := by omega
        by_cases hgt : dg db m < dg da m
        · have hgt' : (dg db m : Int) < dg da m := by omega
          have hr := Lib.hid (HS2.out hgt)
          go_wp2_with (go_at_call 47; (first | (with_reducible refine A1.out.mono ?_) | (with_reducible refine A2.out.mono ?_)); rintro e w' ⟨rfl, rfl⟩)
          go_ret
          exact ⟨by rw [hr.out]; rfl, rfl⟩
        · have hgt' : ¬ (dg db m : Int) < dg da m := by omega
          go_wp2_with (go_at_call 47; (first | (with_reducible refine A1.out.mono ?_) | (with_reducible refine A2.out.mono ?_)); rintro e w' ⟨rfl, rfl⟩)
          go_round
          case rel =>
            refine ⟨m, rfl, by omega, fun j h1 h2 => ?_⟩
            by_cases e : j = m
            · subst e; omega
            · exact hE.out j (by omega) h2
          case measure => simp [intOf]
end Go.Proofs.Ytdobfmpngfgafaa
