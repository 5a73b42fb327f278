/-
  The two primes are prime, and what follows: plain Lean, no program.
-/
import Derived.Test.YtdobfmpngfgafaaMp
namespace Go.Proofs.Ytdobfmpngfgafaa

/-- A prime number. -/
def Pr (p : Nat) : Prop := 2 ≤ p ∧ ∀ d, d ∣ p → d = 1 ∨ d = p

theorem pr_mul {p a b : Nat} (hp : Pr p) (h : p ∣ a * b) : p ∣ a ∨ p ∣ b := by
  rcases hp.2 _ (Nat.gcd_dvd_left p a) with h1 | h1
  · exact Or.inr (Nat.Coprime.dvd_of_dvd_mul_left h1 h)
  · exact Or.inl (by have := Nat.gcd_dvd_right p a; rwa [h1] at this)
theorem pr_pow {p a : Nat} (hp : Pr p) : ∀ {k}, p ∣ a ^ k → p ∣ a
  | 0, h => by
    have := Nat.le_of_dvd (by simp) h
    have := hp.1
    simp at *; omega
  | k + 1, h => by
    rw [Nat.pow_succ] at h
    rcases pr_mul hp h with h | h
    · exact pr_pow hp h
    · exact h
theorem exists_pr (n : Nat) : 2 ≤ n → ∃ p, Pr p ∧ p ∣ n := by
  induction n using Nat.strongRecOn with
  | ind n ih =>
    intro hn
    by_cases h : ∀ d, d ∣ n → d = 1 ∨ d = n
    · exact ⟨n, ⟨hn, h⟩, Nat.dvd_refl n⟩
    · have ⟨d, hd⟩ := Classical.not_forall.1 h
      have ⟨h1, h2⟩ : d ∣ n ∧ ¬ (d = 1 ∨ d = n) := Classical.not_imp.1 hd
      have h3 := Nat.le_of_dvd (by omega) h1
      have h4 : 0 < d := Nat.pos_of_dvd_of_pos h1 (by omega)
      obtain ⟨p, hp, hpd⟩ := ih d (by omega) (by omega)
      exact ⟨p, hp, Nat.dvd_trans hpd h1⟩

/-- Binomials. -/
def ch : Nat → Nat → Nat
  | _, 0 => 1
  | 0, _ + 1 => 0
  | n + 1, k + 1 => ch n k + ch n (k + 1)
theorem ch_zero (n : Nat) : ch n 0 = 1 := by cases n <;> rfl
theorem ch_above : ∀ n k, n < k → ch n k = 0
  | _, 0, h => by omega
  | 0, _ + 1, _ => rfl
  | n + 1, k + 1, h => by rw [ch, ch_above n k (by omega), ch_above n (k + 1) (by omega)]
theorem ch_self : ∀ n, ch n n = 1
  | 0 => rfl
  | n + 1 => by rw [ch, ch_self n, ch_above n (n + 1) (by omega)]
theorem ch_mul : ∀ n k, (k + 1) * ch (n + 1) (k + 1) = (n + 1) * ch n k
  | 0, 0 => rfl
  | 0, k + 1 => by simp [ch]
  | n + 1, 0 => by
    have h := ch_mul n 0
    rw [ch_zero] at h ⊢
    rw [ch, ch_zero]
    omega
  | n + 1, k + 1 => by
    have h1 := ch_mul n k
    have h2 := ch_mul n (k + 1)
    have e1 : ch (n + 1 + 1) (k + 1 + 1) = ch (n + 1) (k + 1) + ch (n + 1) (k + 1 + 1) := rfl
    have e2 : ch (n + 1) (k + 1) = ch n k + ch n (k + 1) := rfl
    rw [e1]
    generalize ch (n + 1) (k + 1 + 1) = x at *
    generalize ch (n + 1) (k + 1) = y at *
    generalize ch n k = u at *
    generalize ch n (k + 1) = v at *
    subst e2
    have e3 : (k + 1 + 1) * (u + v + x) = (k + 1) * (u + v) + (u + v) + (k + 1 + 1) * x := by simp only [Nat.add_mul, Nat.mul_add, Nat.one_mul]; omega
    rw [e3, h1, h2]
    simp only [Nat.add_mul, Nat.mul_add, Nat.one_mul]; omega

/-- The first m summands of (a+1)^n. -/
def bs (n a : Nat) : Nat → Nat
  | 0 => 0
  | m + 1 => bs n a m + ch n m * a ^ m
theorem bs_succ (n a : Nat) : ∀ m, bs (n + 1) a (m + 1) = bs n a (m + 1) + a * bs n a m
  | 0 => by simp [bs, ch_zero]
  | m + 1 => by
    have h := bs_succ n a m
    rw [bs, h]
    show _ = bs n a (m + 1) + ch n (m + 1) * a ^ (m + 1) + a * (bs n a m + ch n m * a ^ m)
    have e : ch (n + 1) (m + 1) = ch n m + ch n (m + 1) := rfl
    have e2 : a * (ch n m * a ^ m) = ch n m * a ^ (m + 1) := by rw [Nat.pow_succ, Nat.mul_left_comm, Nat.mul_comm a]
    rw [e, Nat.add_mul, Nat.mul_add, e2]
    omega
theorem bs_all (a : Nat) : ∀ n, bs n a (n + 1) = (a + 1) ^ n
  | 0 => by simp [bs, ch]
  | n + 1 => by
    rw [bs_succ, show bs n a (n + 1 + 1) = bs n a (n + 1) by rw [bs, ch_above n (n + 1) (by omega)]; simp, bs_all a n, Nat.pow_succ, Nat.mul_comm a, Nat.mul_add, Nat.mul_one, Nat.add_comm]
theorem ch_dvd {p k : Nat} (hp : Pr p) (h0 : 0 < k) (hk : k < p) : p ∣ ch p k := by
  obtain ⟨n, rfl⟩ : ∃ n, p = n + 1 := ⟨p - 1, by omega⟩
  obtain ⟨j, rfl⟩ : ∃ j, k = j + 1 := ⟨k - 1, by omega⟩
  have h : n + 1 ∣ (j + 1) * ch (n + 1) (j + 1) := by rw [ch_mul]; exact Nat.dvd_mul_right _ _
  rcases pr_mul hp h with h | h
  · have := Nat.le_of_dvd (by omega) h
    omega
  · exact h
theorem bs_mod {p a : Nat} (hp : Pr p) : ∀ m, 0 < m → m ≤ p → bs p a m % p = 1 % p
  | 0, h, _ => by omega
  | 1, _, _ => by simp [bs, ch_zero]
  | m + 2, _, h => by
    have ih := bs_mod (a := a) hp (m + 1) (by omega) (by omega)
    rw [bs, Nat.add_mod, ih, Nat.mod_eq_zero_of_dvd (Nat.dvd_trans (ch_dvd hp (by omega) (by omega)) (Nat.dvd_mul_right _ _)), Nat.add_zero, Nat.mod_mod]

theorem fermat {p : Nat} (hp : Pr p) : ∀ a, a ^ p % p = a % p
  | 0 => by have := hp.1; rw [Nat.zero_pow (by omega)]
  | a + 1 => by
    have ih := fermat hp a
    have := hp.1
    rw [← bs_all, bs, ch_self, Nat.one_mul, Nat.add_mod, bs_mod hp p (by omega) (Nat.le_refl _), ih, ← Nat.add_mod, Nat.add_comm]
theorem fermat1 {p : Nat} (hp : Pr p) {a : Nat} (h : ¬ p ∣ a) : a ^ (p - 1) % p = 1 := by
  have h2 := hp.1
  have h1 := fermat hp a
  have e : a ^ p = a * a ^ (p - 1) := by rw [Nat.mul_comm, ← Nat.pow_succ, show (p - 1).succ = p by omega]
  have ha : 0 < a := Nat.pos_of_ne_zero (fun e => h (by rw [e]; exact Nat.dvd_zero p))
  have hq : 1 ≤ a ^ (p - 1) := Nat.pow_pos ha
  rw [e] at h1
  have hd : p ∣ a * (a ^ (p - 1) - 1) := by
    rw [Nat.mul_sub, Nat.mul_one]
    exact Nat.dvd_of_mod_eq_zero (Nat.sub_mod_eq_zero_of_mod_eq h1)
  rcases pr_mul hp hd with h3 | h3
  · exact absurd h3 h
  · obtain ⟨k, hk⟩ := h3
    rw [show a ^ (p - 1) = 1 + p * k by omega, Nat.add_mul_mod_self_left, Nat.mod_eq_of_lt (by omega)]

theorem pow_gcd (b r m n : Nat) : b ^ m % r = 1 % r → b ^ n % r = 1 % r → b ^ Nat.gcd m n % r = 1 % r := by
  induction m, n using Nat.gcd.induction with
  | H0 n => intro _ h; rwa [Nat.gcd_zero_left]
  | H1 m n hm ih =>
    intro h1 h2
    rw [Nat.gcd_rec]
    refine ih ?_ h1
    rw [← Nat.mod_add_div n m, Nat.pow_add, Nat.pow_mul, Nat.mul_mod, Nat.pow_mod (b ^ m), h1, ← Nat.pow_mod, Nat.one_pow, ← Nat.mul_mod, Nat.mul_one] at h2
    exact h2

/-- Pocklington's test. -/
theorem pock (N A B a : Nat) (hN : N = A * B + 1) (hA : 1 < A) (hB : 0 < B) (big : N < (A + 1) * (A + 1)) (h1 : a ^ (N - 1) % N = 1) (h2 : ∀ q, Pr q → q ∣ A → Nat.gcd (a ^ ((N - 1) / q) % N + N - 1) N = 1) : Pr N := by
  have hAB : 1 < A * B := Nat.lt_of_lt_of_le hA (Nat.le_mul_of_pos_right A hB)
  have key : ∀ r, Pr r → r ∣ N → A + 1 ≤ r := by
    intro r hr hrN
    have hr2 := hr.1
    have h1r : a ^ (A * B) % r = 1 % r := by
      have : a ^ (N - 1) % N % r = 1 % r := by rw [h1]
      rw [Nat.mod_mod_of_dvd _ hrN, show N - 1 = A * B by omega] at this
      exact this
    have hb : (a ^ B) ^ A % r = 1 % r := by rw [← Nat.pow_mul, Nat.mul_comm]; exact h1r
    have hra : ¬ r ∣ a ^ B := by
      intro hd
      have : r ∣ (a ^ B) ^ A := Nat.dvd_trans hd ⟨(a ^ B) ^ (A - 1), by rw [Nat.mul_comm, ← Nat.pow_succ, show (A - 1).succ = A by omega]⟩
      rw [Nat.mod_eq_zero_of_dvd this, Nat.mod_eq_of_lt (by omega)] at hb
      omega
    have hf := fermat1 hr hra
    have hg := pow_gcd (a ^ B) r A (r - 1) hb (by rw [hf, Nat.mod_eq_of_lt (by omega)])
    by_cases hgA : Nat.gcd A (r - 1) = A
    · have h := Nat.gcd_dvd_right A (r - 1)
      rw [hgA] at h
      have := Nat.le_of_dvd (by omega) h
      omega
    · exfalso
      obtain ⟨c, hc⟩ := Nat.gcd_dvd_left A (r - 1)
      generalize Nat.gcd A (r - 1) = g at hg hgA hc
      have hg0 : 0 < g := by exact Nat.pos_of_ne_zero (fun h => by rw [h, Nat.zero_mul] at hc; omega)
      have hc2 : 2 ≤ c := by
        rcases c with _ | _ | c
        · omega
        · omega
        · omega
      obtain ⟨q, hq, d, hd⟩ := exists_pr c hc2
      have hqA : q ∣ A := ⟨g * d, by rw [hc, hd, Nat.mul_left_comm]⟩
      have hq2 := hq.1
      have := h2 q hq hqA
      have e : (N - 1) / q = B * (g * d) := by
        rw [show N - 1 = A * B by omega, hc, hd]
        apply Nat.div_eq_of_eq_mul_right (by omega)
        simp only [Nat.mul_comm, Nat.mul_left_comm]
      have h3 : a ^ ((N - 1) / q) % r = 1 := by
        rw [e, Nat.pow_mul, Nat.pow_mul, Nat.pow_mod, hg, ← Nat.pow_mod, Nat.one_pow, Nat.mod_eq_of_lt (by omega)]
      have h4 : r ∣ a ^ ((N - 1) / q) % N + N - 1 := by
        have h5 : a ^ ((N - 1) / q) % N % r = 1 := by rw [Nat.mod_mod_of_dvd _ hrN]; exact h3
        obtain ⟨k, hk⟩ := hrN
        have h6 := Nat.mod_add_div (a ^ ((N - 1) / q) % N) r
        rw [h5] at h6
        exact ⟨a ^ ((N - 1) / q) % N / r + k, by rw [Nat.mul_add, ← hk]; omega⟩
      have h7 := Nat.dvd_gcd h4 hrN
      rw [this] at h7
      have := Nat.le_of_dvd (by omega) h7
      omega
  refine ⟨by omega, fun d hd => ?_⟩
  obtain ⟨c, hc⟩ := hd
  by_cases hd1 : d = 1
  · exact Or.inl hd1
  by_cases hdN : d = N
  · exact Or.inr hdN
  exfalso
  have hd0 : d ≠ 0 := fun e => by rw [e, Nat.zero_mul] at hc; omega
  have hc0 : c ≠ 0 := fun e => by rw [e, Nat.mul_zero] at hc; omega
  have hc1 : c ≠ 1 := fun e => by rw [e, Nat.mul_one] at hc; omega
  obtain ⟨r, hr, hrd⟩ := exists_pr d (by omega)
  obtain ⟨s, hs, hsc⟩ := exists_pr c (by omega)
  have k1 := key r hr (Nat.dvd_trans hrd ⟨c, hc⟩)
  have k2 := key s hs (Nat.dvd_trans hsc ⟨d, by rw [hc, Nat.mul_comm]⟩)
  have k3 := Nat.le_of_dvd (by omega) hrd
  have k4 := Nat.le_of_dvd (by omega) hsc
  have := Nat.mul_le_mul (Nat.le_trans k1 k3) (Nat.le_trans k2 k4)
  omega

theorem pock_m (N A B a k : Nat) (hk : N < 2 ^ k) (hN : N = A * B + 1) (hA : 1 < A) (hB : 0 < B) (big : N < (A + 1) * (A + 1)) (h1 : mpow N k a (N - 1) = 1) (h2 : ∀ q, Pr q → q ∣ A → Nat.gcd (mpow N k a ((N - 1) / q) + N - 1) N = 1) : Pr N := by
  refine pock N A B a hN hA hB big ?_ fun q hq hd => ?_
  · rw [← mpow_eq N k a _ (by omega)]; exact h1
  · rw [← mpow_eq N k a _ (Nat.lt_of_le_of_lt (Nat.div_le_self _ _) (by omega))]; exact h2 q hq hd

/-- Small primes, by trial. -/
def trial (n : Nat) : Nat → Nat → Bool
  | 0, d => n % (2 * d + 3) != 0
  | k + 1, d => trial n k d && trial n k (d + 2 ^ k)
theorem trial_all (n : Nat) : ∀ k d, trial n k d = true → ∀ i, d ≤ i → i < d + 2 ^ k → n % (2 * i + 3) ≠ 0
  | 0, d, h, i, h1, h2 => by
    obtain rfl : i = d := by simp at h2; omega
    simpa [trial] using h
  | k + 1, d, h, i, h1, h2 => by
    rw [trial, Bool.and_eq_true] at h
    rw [Nat.pow_succ] at h2
    by_cases hi : i < d + 2 ^ k
    · exact trial_all n k d h.1 i h1 hi
    · exact trial_all n k (d + 2 ^ k) h.2 i (by omega) (by omega)
theorem pr_small (n k : Nat) (h2 : 2 ≤ n) (ho : n % 2 = 1) (ht : trial n k 0 = true) (hb : n < (2 * 2 ^ k + 3) * (2 * 2 ^ k + 3)) : Pr n := by
  have key : ∀ r, Pr r → r ∣ n → 2 * 2 ^ k + 3 ≤ r := by
    intro r hr hd
    have hr2 := hr.1
    have e := Nat.mod_eq_zero_of_dvd hd
    have ho2 : r % 2 = 1 := by
      obtain ⟨c, hc⟩ := hd
      rcases Nat.mod_two_eq_zero_or_one r with h | h
      · rw [hc, Nat.mul_mod, h, Nat.zero_mul] at ho; simp at ho
      · exact h
    rcases Nat.lt_or_ge r (2 * 2 ^ k + 3) with h | h
    · exfalso
      refine trial_all n k 0 ht ((r - 3) / 2) (Nat.zero_le _) (by omega) ?_
      rw [show 2 * ((r - 3) / 2) + 3 = r by omega]
      exact e
    · exact h
  refine ⟨h2, fun d hd => ?_⟩
  obtain ⟨c, hc⟩ := hd
  by_cases hd1 : d = 1
  · exact Or.inl hd1
  by_cases hdN : d = n
  · exact Or.inr hdN
  exfalso
  have hd0 : d ≠ 0 := fun e => by rw [e, Nat.zero_mul] at hc; omega
  have hc0 : c ≠ 0 := fun e => by rw [e, Nat.mul_zero] at hc; omega
  have hc1 : c ≠ 1 := fun e => by rw [e, Nat.mul_one] at hc; omega
  obtain ⟨r, hr, hrd⟩ := exists_pr d (by omega)
  obtain ⟨s, hs, hsc⟩ := exists_pr c (by omega)
  have k1 := key r hr (Nat.dvd_trans hrd ⟨c, hc⟩)
  have k2 := key s hs (Nat.dvd_trans hsc ⟨d, by rw [hc, Nat.mul_comm]⟩)
  have k3 := Nat.le_of_dvd (by omega) hrd
  have k4 := Nat.le_of_dvd (by omega) hsc
  have := Nat.mul_le_mul (Nat.le_trans k1 k3) (Nat.le_trans k2 k4)
  omega
theorem pr_of_pr {p q : Nat} (hp : Pr p) (hq : Pr q) (h : q ∣ p) : q = p := (hp.2 q h).resolve_left (fun e => by have := hq.1; omega)

/-- What is not nought has an inverse. -/
theorem pr_inv {p a : Nat} (hp : Pr p) (h : a % p ≠ 0) : a * a ^ (p - 2) % p = 1 := by
  have h2 := hp.1
  have := fermat1 hp (fun hd => h (Nat.mod_eq_zero_of_dvd hd))
  rw [Nat.mul_comm, ← Nat.pow_succ, show (p - 2).succ = p - 1 by omega]
  exact this
end Go.Proofs.Ytdobfmpngfgafaa
