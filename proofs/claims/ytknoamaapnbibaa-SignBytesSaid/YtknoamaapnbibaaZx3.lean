/-
  Texts Em, Pp, En, Es, Ek, Ja, Jb, Jc, Rh, Dm, Db, Dd, Rt, Rm, Ro, Rp, Rv, Jd, Je, Jf, Jg, Jh, Ji of the claim, merged. (Printed by shake.py.)
-/
import Derived.Test.YtknoamaapnbibaaZx2
namespace Go.Proofs.Ytknoamaapnbibaa
namespace Ec
section
variable {α : Type} [CR α]
/-- A point so many times. -/
noncomputable def mul (K : Fld α) : Nat → Pt α → Pt α
  | 0, _ => .none
  | k + 1, A => add K (mul K k A) A
theorem on_mul (K : Fld α) {A : Pt α} (h : On A) : ∀ k, On (mul K k A)
  | 0 => trivial
  | k + 1 => on_add K (on_mul K h k) h
theorem mul_add (K : Fld α) {A : Pt α} (h : On A) (j : Nat) : ∀ k, mul K (j + k) A = add K (mul K j A) (mul K k A)
  | 0 => (add_none_right K _).symm
  | k + 1 => by
    show add K (mul K (j + k) A) A = add K (mul K j A) (add K (mul K k A) A)
    rw [mul_add K h j k, assoc K (on_mul K h j) (on_mul K h k) h]
theorem mul_none (K : Fld α) : ∀ k, mul K k .none = .none
  | 0 => rfl
  | k + 1 => by show add K (mul K k .none) .none = _; rw [mul_none K k]; rfl
theorem mul_mul (K : Fld α) {A : Pt α} (h : On A) (j : Nat) : ∀ k, mul K (j * k) A = mul K k (mul K j A)
  | 0 => rfl
  | k + 1 => by
    rw [Nat.mul_succ, mul_add K h, mul_mul K h j k]; rfl
theorem mul_one (K : Fld α) (A : Pt α) : mul K 1 A = A := rfl
theorem mul_two (K : Fld α) {A : Pt α} (h : On A) (k : Nat) : mul K (2 * k) A = add K (mul K k A) (mul K k A) := by
  rw [show 2 * k = k + k from by omega, mul_add K h]
theorem add4 (K : Fld α) {A B C D : Pt α} (hA : On A) (hB : On B) (hC : On C) (hD : On D) : add K (add K A B) (add K C D) = add K (add K A C) (add K B D) := by
  rw [assoc K hA hB (on_add K hC hD), ← assoc K hB hC hD, add_comm K hB hC, assoc K hC hB hD, ← assoc K hA hC (on_add K hB hD)]
/-- The program's spots. -/
def Jac (X Y Z : α) : Pt α → Prop
  | .none => Z = 0
  | .af x y => Z ≠ 0 ∧ X = x * (Z * Z) ∧ Y = y * (Z * Z * Z)
def twX (X Y : α) : α := (X*X+X*X+X*X)*(X*X+X*X+X*X) - ((((X+Y*Y)*(X+Y*Y)-X*X-Y*Y*(Y*Y))+((X+Y*Y)*(X+Y*Y)-X*X-Y*Y*(Y*Y)))+(((X+Y*Y)*(X+Y*Y)-X*X-Y*Y*(Y*Y))+((X+Y*Y)*(X+Y*Y)-X*X-Y*Y*(Y*Y))))
def twY (X Y X3 : α) : α := (X*X+X*X+X*X)*((((X+Y*Y)*(X+Y*Y)-X*X-Y*Y*(Y*Y))+((X+Y*Y)*(X+Y*Y)-X*X-Y*Y*(Y*Y)))-X3) - ((((Y*Y*(Y*Y))+(Y*Y*(Y*Y)))+((Y*Y*(Y*Y))+(Y*Y*(Y*Y))))+(((Y*Y*(Y*Y))+(Y*Y*(Y*Y)))+((Y*Y*(Y*Y))+(Y*Y*(Y*Y)))))
def twZ (Y Z : α) : α := Y*Z+Y*Z
theorem jac_twice (K : Fld α) {X Y Z : α} {A : Pt α} (hA : On A) (h : Jac X Y Z A) : Jac (twX X Y) (twY X Y (twX X Y)) (twZ Y Z) (add K A A) := by
  cases A with
  | none =>
    have hz : Z = 0 := h
    show Y*Z+Y*Z = 0
    rw [hz]; clear h hz; grind
  | af x y =>
    obtain ⟨hz, hX, hY⟩ := h
    have hn : ¬ (x = x ∧ y + y = 0) := fun h => two_y K hA (by have := h.2; clear h; grind)
    have s := sl_lam K hA hA hn
    obtain ⟨l, el⟩ : ∃ l, l = lam K x y x y := ⟨_, rfl⟩
    rw [← el] at s
    rw [add_at K hA hA hn s]
    have t := s.t
    have e0 : twZ Y Z = 2 * y * (Z * Z * (Z * Z)) := by rw [hY]; unfold twZ; clear hX hY hn s t el hz hA; grind
    have e1 : X*X+X*X+X*X = l * twZ Y Z := by
      rw [e0, hX]
      have t2 : l * (2 * y) = 3 * (x * x) := by clear hX hY hn s el hz hA e0; grind
      have : l * (2 * y * (Z * Z * (Z * Z))) = l * (2 * y) * (Z * Z * (Z * Z)) := by clear hX hY hn s el hz hA e0 t t2; grind
      rw [this, t2]; clear hX hY hn s el hz hA e0 t t2 this; grind
    have e2 : (((X+Y*Y)*(X+Y*Y)-X*X-Y*Y*(Y*Y))+((X+Y*Y)*(X+Y*Y)-X*X-Y*Y*(Y*Y))) = x * (twZ Y Z * twZ Y Z) := by
      rw [e0, hX, hY]; clear hX hY hn s el hz hA e0 t e1; grind
    have e3 : ((((Y*Y*(Y*Y))+(Y*Y*(Y*Y)))+((Y*Y*(Y*Y))+(Y*Y*(Y*Y))))+(((Y*Y*(Y*Y))+(Y*Y*(Y*Y)))+((Y*Y*(Y*Y))+(Y*Y*(Y*Y))))) = y * (twZ Y Z * twZ Y Z * twZ Y Z) := by
      rw [e0, hY]; clear hX hY hn s el hz hA e0 t e1 e2; grind
    have e4 : twX X Y = (l * l - x - x) * (twZ Y Z * twZ Y Z) := by
      unfold twX; rw [e1, e2]; clear hX hY hn s el hz hA e0 t e1 e2 e3; grind
    refine ⟨?_, e4, ?_⟩
    · rw [e0]; exact ne_mul K (two_y K hA) (ne_mul K (ne_mul K hz hz) (ne_mul K hz hz))
    · unfold twY; rw [e1, e2, e3, e4]; clear hX hY hn s el hz hA e0 t e1 e2 e3 e4; grind
/-- The sum of a spot and a point: H, R as the program has them. -/
def plX (X H R : α) : α := R*R - H*(H*H) - (X*(H*H) + X*(H*H))
def plY (X Y H R X3 : α) : α := R*(X*(H*H) - X3) - Y*(H*(H*H))
theorem jac_plus (K : Fld α) {X Y Z x2 y2 H R : α} {A : Pt α} (hA : On A) (hB : On (.af x2 y2)) (h : Jac X Y Z A) (hz : Z ≠ 0) (hH : H = x2 * (Z*Z) - X) (hR : R = y2 * (Z*Z*Z) - Y) (h0 : H ≠ 0) : Jac (plX X H R) (plY X Y H R (plX X H R)) (Z*H) (add K A (.af x2 y2)) := by
  cases A with
  | none => exact absurd h hz
  | af x y =>
    obtain ⟨_, hX, hY⟩ := h
    have e1 : H = (x2 - x) * (Z * Z) := by rw [hH, hX]; clear hH hR h0 hX hY hz; grind
    have hn : ¬ (x = x2 ∧ y + y2 = 0) := fun h => h0 (by rw [e1, h.1]; clear e1 h hH hR h0 hX hY hz; grind)
    have s := sl_lam K hA hB hn
    obtain ⟨l, el⟩ : ∃ l, l = lam K x y x2 y2 := ⟨_, rfl⟩
    rw [← el] at s
    rw [add_at K hA hB hn s]
    have c := s.c
    have e2 : R = l * (Z * H) := by
      rw [hR, hY, e1]
      have : l * (Z * ((x2 - x) * (Z * Z))) = l * (x2 - x) * (Z * Z * Z) := by clear hX hY hn s el hz hA c e1 h0 hH hR; grind
      rw [this, c]; clear hX hY hn s el hz hA c e1 h0 hH hR this; grind
    have e3 : X * (H*H) = x * (Z*H*(Z*H)) := by rw [hX]; clear hX hY hn s el hz hA c e1 h0 hH hR e2; grind
    have e4 : H*(H*H) = (x2 - x) * (Z*H*(Z*H)) := by
      have : H * (H*H) = (x2 - x) * (Z * Z) * (H * H) := by rw [← e1]
      rw [this]; clear hX hY hn s el hz hA c e1 h0 hH hR e2 e3 this; grind
    have e5 : Y * (H*(H*H)) = y * (Z*H*(Z*H)*(Z*H)) := by rw [hY]; clear hX hY hn s el hz hA c e1 h0 hH hR e2 e3 e4; grind
    have e6 : plX X H R = (l * l - x - x2) * (Z*H*(Z*H)) := by
      unfold plX; rw [e3, e4, e2]; clear hX hY hn s el hz hA c e1 h0 hH hR e2 e3 e4 e5; grind
    refine ⟨ne_mul K hz h0, e6, ?_⟩
    unfold plY; rw [e6, e5, e3, e2]
    clear hX hY hn s el hz hA c e1 h0 hH hR e2 e3 e4 e5 e6; grind
/-- Where H is nought: the same point, or the one across. -/
theorem jac_same (K : Fld α) {X Y Z x2 y2 : α} {A : Pt α} (hA : On A) (hB : On (.af x2 y2)) (h : Jac X Y Z A) (hz : Z ≠ 0) (hH : x2 * (Z*Z) - X = 0) : (y2 * (Z*Z*Z) - Y = 0 → A = .af x2 y2) ∧ (y2 * (Z*Z*Z) - Y ≠ 0 → add K A (.af x2 y2) = .none) := by
  cases A with
  | none => exact absurd h hz
  | af x y =>
    obtain ⟨_, hX, hY⟩ := h
    have hx : x = x2 := by
      have : (Z * Z) * (x2 - x) = 0 := by rw [hX] at hH; clear hX hY hz; grind
      rcases zero_or K this with e | e
      · exact absurd e (ne_mul K hz hz)
      · exact eq_sub e
    subst hx
    constructor
    · intro hR
      have : (Z * Z * Z) * (y2 - y) = 0 := by rw [hY] at hR; clear hX hY hz hH; grind
      rcases zero_or K this with e | e
      · exact absurd e (ne_mul K (ne_mul K hz hz) hz)
      · rw [eq_sub e]
    · intro hR
      refine add_inv K ⟨rfl, ?_⟩
      by_cases e : y + y2 = 0
      · exact e
      · have := same_x K hA hB e
        subst this
        exact absurd (by rw [hY]; clear hX hY hz hH hR e; grind) hR
theorem jac_at (x y : α) (h1 : (1 : α) ≠ 0) : Jac x y 1 (.af x y) := ⟨h1, by grind, by grind⟩
/-- A spot's point: i is the inverse of Z. -/
theorem jac_point {X Y Z i : α} {A : Pt α} (h : Jac X Y Z A) (hi : Z * i = 1) (hz : Z ≠ 0) : A = .af (X * (i * i)) (Y * (i * i * i)) := by
  cases A with
  | none => exact absurd h hz
  | af x y =>
    obtain ⟨_, hX, hY⟩ := h
    have e1 : X * (i * i) = x := by rw [hX, show x * (Z*Z) * (i*i) = x * ((Z * i) * (Z * i)) from by clear hX hY hi hz; grind, hi]; clear hX hY hi hz; grind
    have e2 : Y * (i * i * i) = y := by rw [hY, show y * (Z*Z*Z) * (i*i*i) = y * ((Z * i) * (Z * i) * (Z * i)) from by clear hX hY hi hz e1; grind, hi]; clear hX hY hi hz e1; grind
    rw [e1, e2]
/-- The document's spots. -/
def Proj (X Y Z : α) : Pt α → Prop
  | .none => X = 0 ∧ Y ≠ 0 ∧ Z = 0
  | .af x y => Z ≠ 0 ∧ X = x * Z ∧ Y = y * Z
def sX (b X1 Y1 Z1 X2 Y2 Z2 : α) : α := (X1*Y2+X2*Y1)*(Y1*Y2-b*(Z1*Z2)) - (Y1*Z2+Y2*Z1)*(b*(X1*Z2+X2*Z1))
def sY (b X1 Y1 Z1 X2 Y2 Z2 : α) : α := (Y1*Y2+b*(Z1*Z2))*(Y1*Y2-b*(Z1*Z2)) + (b*(X1*Z2+X2*Z1))*(X1*X2+X1*X2+X1*X2)
def sZ (b X1 Y1 Z1 X2 Y2 Z2 : α) : α := (Y1*Z2+Y2*Z1)*(Y1*Y2+b*(Z1*Z2)) + (X1*X2+X1*X2+X1*X2)*(X1*Y2+X2*Y1)
theorem sX_scale (b x1 y1 Z1 x2 y2 Z2 : α) : sX b (x1*Z1) (y1*Z1) Z1 (x2*Z2) (y2*Z2) Z2 = sX b x1 y1 1 x2 y2 1 * (Z1*Z2*(Z1*Z2)) := by unfold sX; grind
theorem sY_scale (b x1 y1 Z1 x2 y2 Z2 : α) : sY b (x1*Z1) (y1*Z1) Z1 (x2*Z2) (y2*Z2) Z2 = sY b x1 y1 1 x2 y2 1 * (Z1*Z2*(Z1*Z2)) := by unfold sY; grind
theorem sZ_scale (b x1 y1 Z1 x2 y2 Z2 : α) : sZ b (x1*Z1) (y1*Z1) Z1 (x2*Z2) (y2*Z2) Z2 = sZ b x1 y1 1 x2 y2 1 * (Z1*Z2*(Z1*Z2)) := by unfold sZ; grind
/-- The one formula at two points, by the slope l. -/
theorem s_slope {b x1 y1 x2 y2 l d : α} (hx : x2 = x1 + d) (hy : y2 = y1 + l * d) (T : 2*l*y1+l^2*d-3*x1^2-3*x1*d-d^2 = 0) (hb : b = 3 * (y1^2 - x1^3)) :
    sX b x1 y1 1 x2 y2 1 = (l*l - x1 - x2) * sZ b x1 y1 1 x2 y2 1 ∧ sY b x1 y1 1 x2 y2 1 = (l * (x1 - (l*l - x1 - x2)) - y1) * sZ b x1 y1 1 x2 y2 1 := by
  have h1 : sX b x1 y1 1 x2 y2 1 - (l*l - x1 - x2) * sZ b x1 y1 1 x2 y2 1 = (-d*l^2*y1 - 3*d*l*x1^2 - 3*d*x1*y1 - 4*l*y1^2 - 6*x1^2*y1) * (2*l*y1+l^2*d-3*x1^2-3*x1*d-d^2) := by
    clear T; subst hb hx hy; unfold sX sZ; grind
  have h2 : sY b x1 y1 1 x2 y2 1 - (l * (x1 - (l*l - x1 - x2)) - y1) * sZ b x1 y1 1 x2 y2 1 = (d*l^3*y1 + 3*d*l^2*x1^2 + 3*d*l*x1*y1 + 4*l^2*y1^2 + 6*l*x1^2*y1 + 9*x1^4 - 12*x1*y1^2) * (2*l*y1+l^2*d-3*x1^2-3*x1*d-d^2) := by
    clear T h1; subst hb hx hy; unfold sY sZ; grind
  rw [T] at h1 h2
  clear hx hy T hb
  exact ⟨by clear h2; grind, by clear h1; grind⟩
theorem s_z {b x1 y1 x2 y2 l d m : α} (hx : x2 = x1 + d) (hy : y2 = y1 + l * d) (T : 2*l*y1+l^2*d-3*x1^2-3*x1*d-d^2 = 0) (hb : b = 3 * (y1^2 - x1^3)) (hm : m * d = -(y1 + y2)) :
    sZ b x1 y1 1 x2 y2 1 = (m * (x1 - (m*m - x1 - x2)) - y1) * (d * d * d) := by
  have h0 : (m * (x1 - (m*m - x1 - x2)) - y1) * (d * d * d) = (m * d) * (x1 * d^2 - ((m*d)^2 - (x1+x2)*d^2)) - y1*d^3 := by
    clear hx hy T hb hm; grind
  rw [h0, hm]
  have h1 : sZ b x1 y1 1 x2 y2 1 - ((-(y1+y2)) * (x1 * d^2 - ((-(y1+y2))^2 - (x1+x2)*d^2)) - y1*d^3) = (-d^2*l - 3*d*y1) * (2*l*y1+l^2*d-3*x1^2-3*x1*d-d^2) := by
    clear T h0 hm; subst hb hx hy; unfold sZ; grind
  rw [T] at h1
  clear hx hy T hb h0 hm
  grind
theorem s_twice {b x y : α} (hb : b = 3 * (y^2 - x^3)) : sZ b x y 1 x y 1 = 2 * y * (2 * y) * (2 * y) := by unfold sZ; subst hb; grind
theorem s_across {b x y l : α} (hb : b = 3 * (y^2 - x^3)) (t : l * (2 * y) = 3 * (x * x)) : sX b x y 1 x (-y) 1 = 0 ∧ sZ b x y 1 x (-y) 1 = 0 ∧ sY b x y 1 x (-y) 1 = 2 * y * (2 * y) * (2 * y) * (l * (x - (l * l - x - x)) - y) := by
  refine ⟨by unfold sX; clear hb t; grind, by unfold sZ; clear hb t; grind, ?_⟩
  have h0 : 2 * y * (2 * y) * (2 * y) * (l * (x - (l * l - x - x)) - y) = 3 * x * (l * (2 * y)) * (2 * y) * (2 * y) - (l * (2 * y)) * (l * (2 * y)) * (l * (2 * y)) - y * (2 * y * (2 * y) * (2 * y)) := by clear hb t; grind
  rw [h0, t]; clear h0 t; unfold sY; subst hb; grind
theorem proj_scale (K : Fld α) {X Y Z c : α} {A : Pt α} (h : Proj X Y Z A) (hc : c ≠ 0) : Proj (X * c) (Y * c) (Z * c) A := by
  cases A with
  | none =>
    obtain ⟨h1, h2, h3⟩ := h
    exact ⟨by rw [h1]; clear h1 h2 h3 hc; grind, ne_mul K h2 hc, by rw [h3]; clear h1 h2 h3 hc; grind⟩
  | af x y =>
    obtain ⟨h1, h2, h3⟩ := h
    exact ⟨ne_mul K h1 hc, by rw [h2]; clear h1 h2 h3 hc; grind, by rw [h3]; clear h1 h2 h3 hc; grind⟩
theorem proj_y (K : Fld α) {X Y Z : α} {A : Pt α} (hA : On A) (h : Proj X Y Z A) : Y ≠ 0 := by
  cases A with
  | none => exact h.2.1
  | af x y => rw [h.2.2]; exact ne_mul K (y_ne K hA) h.1
/-- Two points that aren't nowhere. -/
theorem proj_at (K : Fld α) {x1 y1 x2 y2 : α} (h1 : On (.af x1 y1)) (h2 : On (.af x2 y2)) : Proj (sX 21 x1 y1 1 x2 y2 1) (sY 21 x1 y1 1 x2 y2 1) (sZ 21 x1 y1 1 x2 y2 1) (add K (.af x1 y1) (.af x2 y2)) := by
  have c1 : y1 * y1 = x1 * x1 * x1 + 7 := h1
  have hb : (21 : α) = 3 * (y1^2 - x1^3) := by
    have e : y1^2 - x1^3 = 7 := by rw [show y1^2 = y1 * y1 from by clear c1; grind, c1]; clear c1; grind
    rw [e]; clear c1 e; grind
  by_cases hn : x1 = x2 ∧ y1 + y2 = 0
  · rw [add_inv K hn]
    have e2 : y2 = -y1 := by have := hn.2; clear hb c1 hn; grind
    obtain ⟨rfl, _⟩ := hn
    subst e2
    have hm : ¬ (x1 = x1 ∧ y1 + y1 = 0) := fun h => two_y K h1 (by have := h.2; clear h hb c1; grind)
    have s := sl_lam K h1 h1 hm
    have o := sl_on h1 s
    obtain ⟨l, el⟩ : ∃ l, l = lam K x1 y1 x1 y1 := ⟨_, rfl⟩
    rw [← el] at s o
    have t : l * (2 * y1) = 3 * (x1 * x1) := by have := s.t; clear hb c1 hm s o el; grind
    obtain ⟨a, b, c⟩ := s_across hb t
    have w := two_y K h1
    exact ⟨a, by rw [c]; exact ne_mul K (ne_mul K (ne_mul K w w) w) (y_ne K o), b⟩
  · have s := sl_lam K h1 h2 hn
    obtain ⟨l, el⟩ : ∃ l, l = lam K x1 y1 x2 y2 := ⟨_, rfl⟩
    rw [← el] at s
    rw [add_at K h1 h2 hn s]
    have hx : x2 = x1 + (x2 - x1) := by clear hb c1 s el; grind
    have hy : y2 = y1 + l * (x2 - x1) := by have := s.c; clear hb c1 s el hx; grind
    have T : 2*l*y1+l^2*(x2-x1)-3*x1^2-3*x1*(x2-x1)-(x2-x1)^2 = 0 := by
      have := s.t
      rw [show y1 + y2 = 2 * y1 + l * (x2 - x1) from by have := hy; clear hb c1 s el hx this; grind] at this
      clear hb c1 s el hx hy; grind
    obtain ⟨a, b⟩ := s_slope hx hy T hb
    refine ⟨?_, a, b⟩
    by_cases e : x1 = x2
    · subst e
      have e2 : y1 = y2 := same_x K h1 h2 (fun h => hn ⟨rfl, h⟩)
      subst e2
      have w := two_y K h1
      rw [s_twice hb]; exact ne_mul K (ne_mul K w w) w
    · have hm : ¬ (x1 = x2 ∧ y1 + -y2 = 0) := fun h => e h.1
      have o2 : On (.af x2 (-y2)) := on_neg h2
      have s' := sl_lam K h1 o2 hm
      have o := sl_on o2 s'
      obtain ⟨m, em⟩ : ∃ m, m = lam K x1 y1 x2 (-y2) := ⟨_, rfl⟩
      rw [← em] at s' o
      have hmm : m * (x2 - x1) = -(y1 + y2) := by rw [s'.c]; clear hb c1 s el hx hy T a b s' o em; grind
      rw [s_z hx hy T hb hmm]
      have hd : x2 - x1 ≠ 0 := fun h => e (eq_sub h)
      exact ne_mul K (y_ne K o) (ne_mul K (ne_mul K hd hd) hd)
theorem proj_sum (K : Fld α) {X1 Y1 Z1 X2 Y2 Z2 : α} {A B : Pt α} (hA : On A) (hB : On B) (hP : Proj X1 Y1 Z1 A) (hQ : Proj X2 Y2 Z2 B) : Proj (sX 21 X1 Y1 Z1 X2 Y2 Z2) (sY 21 X1 Y1 Z1 X2 Y2 Z2) (sZ 21 X1 Y1 Z1 X2 Y2 Z2) (add K A B) := by
  match A, B, hA, hB, hP, hQ with
  | .none, B, hA, hB, hP, hQ =>
    obtain ⟨p1, p2, p3⟩ := hP
    have hy := proj_y K hB hQ
    subst p1 p3
    have e1 : sX 21 0 Y1 0 X2 Y2 Z2 = X2 * (Y1 * Y1 * Y2) := by unfold sX; clear hA hB hQ p2 hy; grind
    have e2 : sY 21 0 Y1 0 X2 Y2 Z2 = Y2 * (Y1 * Y1 * Y2) := by unfold sY; clear hA hB hQ p2 hy; grind
    have e3 : sZ 21 0 Y1 0 X2 Y2 Z2 = Z2 * (Y1 * Y1 * Y2) := by unfold sZ; clear hA hB hQ p2 hy; grind
    rw [e1, e2, e3]
    exact proj_scale K hQ (ne_mul K (ne_mul K p2 p2) hy)
  | .af x1 y1, .none, hA, hB, hP, hQ =>
    obtain ⟨p1, p2, p3⟩ := hQ
    have hy := proj_y K hA hP
    subst p1 p3
    have e1 : sX 21 X1 Y1 Z1 0 Y2 0 = X1 * (Y2 * Y2 * Y1) := by unfold sX; clear hA hB hP p2 hy; grind
    have e2 : sY 21 X1 Y1 Z1 0 Y2 0 = Y1 * (Y2 * Y2 * Y1) := by unfold sY; clear hA hB hP p2 hy; grind
    have e3 : sZ 21 X1 Y1 Z1 0 Y2 0 = Z1 * (Y2 * Y2 * Y1) := by unfold sZ; clear hA hB hP p2 hy; grind
    rw [e1, e2, e3]
    exact proj_scale K hP (ne_mul K (ne_mul K p2 p2) hy)
  | .af x1 y1, .af x2 y2, hA, hB, hP, hQ =>
    obtain ⟨p1, p2, p3⟩ := hP
    obtain ⟨q1, q2, q3⟩ := hQ
    rw [p2, p3, q2, q3, sX_scale, sY_scale, sZ_scale]
    exact proj_scale K (proj_at K hA hB) (ne_mul K (ne_mul K p1 q1) (ne_mul K p1 q1))
/-- A spot's point. -/
theorem proj_point {X Y Z i : α} {A : Pt α} (h : Proj X Y Z A) (hi : Z * i = 1) (hz : Z ≠ 0) : A = .af (X * i) (Y * i) := by
  cases A with
  | none => exact absurd h.2.2 hz
  | af x y =>
    obtain ⟨_, hX, hY⟩ := h
    rw [show X * i = x from by rw [hX, show x * Z * i = x * (Z * i) from by clear hX hY hi hz; grind, hi]; clear hX hY hi hz; grind, show Y * i = y from by rw [hY, show y * Z * i = y * (Z * i) from by clear hX hY hi hz; grind, hi]; clear hX hY hi hz; grind]
end
end Ec
end Go.Proofs.Ytknoamaapnbibaa
namespace Go.Proofs.Ytknoamaapnbibaa
theorem pr_107590001 : Pr 107590001 := pr_small 107590001 13 (by decide) (by decide) (by decide +kernel) (by decide)
theorem pr_7240687 : Pr 7240687 := pr_small 7240687 11 (by decide) (by decide) (by decide +kernel) (by decide)
theorem pr_96557 : Pr 96557 := pr_small 96557 8 (by decide) (by decide) (by decide +kernel) (by decide)
theorem pr_255515944373312847190720520512484175977 : Pr 255515944373312847190720520512484175977 := by
  refine pock_m 255515944373312847190720520512484175977 75220367286300824659 3396898387916374264 2 128 (by decide) (by decide) (by decide) (by decide) (by decide) (by decide +kernel) ?_
  · intro q hq hd
    rw [show 75220367286300824659 = 107590001 * 7240687 * 96557 from by decide] at hd
    rcases pr_mul hq hd with hd | hd
    rotate_left
    · obtain rfl := pr_of_pr pr_96557 hq hd
      decide +kernel
    rcases pr_mul hq hd with hd | hd
    rotate_left
    · obtain rfl := pr_of_pr pr_7240687 hq hd
      decide +kernel
    obtain rfl := pr_of_pr pr_107590001 hq hd
    decide +kernel
theorem pr_205115282021455665897114700593932402728804164701536103180137503955397371 : Pr 205115282021455665897114700593932402728804164701536103180137503955397371 := by
  refine pock_m 205115282021455665897114700593932402728804164701536103180137503955397371 255515944373312847190720520512484175977 802749442992798076634733441528810 2 237 (by decide) (by decide) (by decide) (by decide) (by decide) (by decide +kernel) ?_
  · intro q hq hd
    obtain rfl := pr_of_pr pr_255515944373312847190720520512484175977 hq hd
    decide +kernel
theorem pr_115792089237316195423570985008687907853269984665640564039457584007908834671663 : Pr 115792089237316195423570985008687907853269984665640564039457584007908834671663 := by
  refine pock_m 115792089237316195423570985008687907853269984665640564039457584007908834671663 205115282021455665897114700593932402728804164701536103180137503955397371 564522 2 256 (by decide) (by decide) (by decide) (by decide) (by decide) (by decide +kernel) ?_
  · intro q hq hd
    obtain rfl := pr_of_pr pr_205115282021455665897114700593932402728804164701536103180137503955397371 hq hd
    decide +kernel
theorem pr_545358713 : Pr 545358713 := pr_small 545358713 14 (by decide) (by decide) (by decide +kernel) (by decide)
theorem pr_305873 : Pr 305873 := pr_small 305873 9 (by decide) (by decide) (by decide +kernel) (by decide)
theorem pr_293 : Pr 293 := pr_small 293 3 (by decide) (by decide) (by decide +kernel) (by decide)
theorem pr_29047611873442575647497758179 : Pr 29047611873442575647497758179 := by
  refine pock_m 29047611873442575647497758179 48875478147084557 594318725354 2 95 (by decide) (by decide) (by decide) (by decide) (by decide) (by decide +kernel) ?_
  · intro q hq hd
    rw [show 48875478147084557 = 545358713 * 305873 * 293 from by decide] at hd
    rcases pr_mul hq hd with hd | hd
    rotate_left
    · obtain rfl := pr_of_pr pr_293 hq hd
      decide +kernel
    rcases pr_mul hq hd with hd | hd
    rotate_left
    · obtain rfl := pr_of_pr pr_305873 hq hd
      decide +kernel
    obtain rfl := pr_of_pr pr_545358713 hq hd
    decide +kernel
theorem pr_341948486974166000522343609283189 : Pr 341948486974166000522343609283189 := by
  refine pock_m 341948486974166000522343609283189 29047611873442575647497758179 11772 2 109 (by decide) (by decide) (by decide) (by decide) (by decide) (by decide +kernel) ?_
  · intro q hq hd
    obtain rfl := pr_of_pr pr_29047611873442575647497758179 hq hd
    decide +kernel
theorem pr_4681609 : Pr 4681609 := pr_small 4681609 11 (by decide) (by decide) (by decide +kernel) (by decide)
theorem pr_85831 : Pr 85831 := pr_small 85831 8 (by decide) (by decide) (by decide +kernel) (by decide)
theorem pr_107361793816595537 : Pr 107361793816595537 := by
  refine pock_m 107361793816595537 401827182079 267184 2 57 (by decide) (by decide) (by decide) (by decide) (by decide) (by decide +kernel) ?_
  · intro q hq hd
    rw [show 401827182079 = 4681609 * 85831 from by decide] at hd
    rcases pr_mul hq hd with hd | hd
    rotate_left
    · obtain rfl := pr_of_pr pr_85831 hq hd
      decide +kernel
    obtain rfl := pr_of_pr pr_4681609 hq hd
    decide +kernel
theorem pr_115792089237316195423570985008687907852837564279074904382605163141518161494337 : Pr 115792089237316195423570985008687907852837564279074904382605163141518161494337 := by
  refine pock_m 115792089237316195423570985008687907852837564279074904382605163141518161494337 36712202954417214842724336778420075919000906527493 3154049060501396119538597952 2 256 (by decide) (by decide) (by decide) (by decide) (by decide) (by decide +kernel) ?_
  · intro q hq hd
    rw [show 36712202954417214842724336778420075919000906527493 = 341948486974166000522343609283189 * 107361793816595537 from by decide] at hd
    rcases pr_mul hq hd with hd | hd
    rotate_left
    · obtain rfl := pr_of_pr pr_107361793816595537 hq hd
      decide +kernel
    obtain rfl := pr_of_pr pr_341948486974166000522343609283189 hq hd
    decide +kernel
theorem pr_PRM : ∀ p : Bool, Pr (match p with | true => 115792089237316195423570985008687907853269984665640564039457584007908834671663 | false => 115792089237316195423570985008687907852837564279074904382605163141518161494337)
  | true => pr_115792089237316195423570985008687907853269984665640564039457584007908834671663
  | false => pr_115792089237316195423570985008687907852837564279074904382605163141518161494337
end Go.Proofs.Ytknoamaapnbibaa
namespace Go.Proofs.Ytknoamaapnbibaa
namespace Ec
theorem cube_no {p m : Nat} (hp : Pr p) (h7 : 7 < p) (h3 : p - 1 = 3 * m) (hm : (p - 7) ^ m % p ≠ 1) (x : Nat) : (x * x * x + 7) % p ≠ 0 := by
  intro h
  have hx : ¬ p ∣ x := by
    rintro ⟨c, rfl⟩
    rw [show p * c * (p * c) * (p * c) + 7 = 7 + p * (c * (p * c) * (p * c)) from by simp only [Nat.mul_assoc]; omega, Nat.add_mul_mod_self_left, Nat.mod_eq_of_lt h7] at h
    omega
  have h1 := fermat1 hp hx
  rw [h3, Nat.pow_mul, show x ^ 3 = x * x * x from by rw [Nat.pow_succ, Nat.pow_succ, Nat.pow_one], Nat.pow_mod] at h1
  have h2 : x * x * x % p = (p - 7) % p := by
    have h4 : (x * x * x + 7 + (p - 7)) % p = (p - 7) % p := by rw [Nat.add_mod, h, Nat.zero_add, Nat.mod_mod]
    rw [← h4, show x * x * x + 7 + (p - 7) = x * x * x + p from by omega, Nat.add_mod_right]
  rw [h2, ← Nat.pow_mod] at h1
  exact hm h1
section
variable (n : Nat) [NeZero n]
def fofn (a : Nat) : Fin n := Fin.ofNat n a
theorem fofn_val (a : Nat) : (fofn n a).val = a % n := rfl
theorem fofn_small {a : Nat} (h : a < n) : (fofn n a).val = a := Nat.mod_eq_of_lt h
theorem fofn_mod (a : Nat) : fofn n (a % n) = fofn n a := Fin.ext (Nat.mod_mod a n)
theorem fofn_add (a b : Nat) : fofn n ((a + b) % n) = fofn n a + fofn n b := by
  apply Fin.ext; rw [fofn_mod, Fin.val_add, fofn_val, fofn_val, fofn_val, ← Nat.add_mod]
theorem fofn_mul (a b : Nat) : fofn n (a * b % n) = fofn n a * fofn n b := by
  apply Fin.ext; rw [fofn_mod, Fin.val_mul, fofn_val, fofn_val, fofn_val, ← Nat.mul_mod]
theorem fofn_sub (a b : Nat) : fofn n ((a % n + n - b % n) % n) = fofn n a - fofn n b := by
  have hb : b % n < n := Nat.mod_lt _ (Nat.pos_of_ne_zero (NeZero.ne n))
  apply Fin.ext; rw [fofn_mod, Fin.sub_def]
  show _ = (n - b % n + a % n) % n
  rw [fofn_val]; congr 1; omega
theorem fofn_inj {a b : Nat} (ha : a < n) (hb : b < n) (h : fofn n a = fofn n b) : a = b := by
  have := congrArg Fin.val h
  rwa [fofn_small n ha, fofn_small n hb] at this
theorem fofn_self (a : Fin n) : fofn n a.val = a := Fin.ext (Nat.mod_eq_of_lt a.isLt)
theorem fofn_zero {a : Nat} : fofn n a = 0 ↔ a % n = 0 := by
  constructor
  · intro h
    have := congrArg Fin.val h
    rw [fofn_val] at this
    rw [this]; rfl
  · intro h
    apply Fin.ext; rw [fofn_val, h]; rfl
/-- The field of a prime. -/
def fldOf (hp : Pr n) (h2 : 7 < n) (h7 : ∀ x, (x * x * x + 7) % n ≠ 0) : Fld (Fin n) where
  inv a := fofn n (a.val ^ (n - 2))
  mul_inv a ha := by
    have h0 : a.val % n ≠ 0 := fun h => ha (by rw [← fofn_self n a]; exact (fofn_zero n).2 h)
    have := pr_inv hp h0
    apply Fin.ext
    rw [Fin.val_mul, fofn_val, Nat.mul_mod_mod, this]
    show 1 = 1 % n
    exact (Nat.mod_eq_of_lt (by omega)).symm
  two h := by
    have h1 : (2 % n) = 0 := congrArg Fin.val h
    rw [Nat.mod_eq_of_lt (by omega)] at h1; omega
  seven x h := by
    have h1 : ((x.val * x.val % n) * x.val % n + 7 % n) % n = 0 := congrArg Fin.val h
    apply h7 x.val
    rw [← h1, Nat.mod_mul_mod, ← Nat.add_mod]
end
end Ec
end Go.Proofs.Ytknoamaapnbibaa
namespace Go.Proofs.Ytknoamaapnbibaa
namespace Ec
section
variable (n : Nat) [NeZero n]
def fm (a b : Nat) : Nat := a * b % n
def fa (a b : Nat) : Nat := (a + b) % n
def fs (a b : Nat) : Nat := (a % n + n - b % n) % n
theorem n_pos : 0 < n := Nat.pos_of_ne_zero (NeZero.ne n)
theorem fm_lt (a b : Nat) : fm n a b < n := Nat.mod_lt _ (n_pos n)
theorem fa_lt (a b : Nat) : fa n a b < n := Nat.mod_lt _ (n_pos n)
theorem fs_lt (a b : Nat) : fs n a b < n := Nat.mod_lt _ (n_pos n)
theorem tp_fm (a b : Nat) : fofn n (fm n a b) = fofn n a * fofn n b := fofn_mul _ a b
theorem tp_fa (a b : Nat) : fofn n (fa n a b) = fofn n a + fofn n b := fofn_add _ a b
theorem tp_fs (a b : Nat) : fofn n (fs n a b) = fofn n a - fofn n b := fofn_sub _ a b
theorem tp_zero {a : Nat} (ha : a < n) : fofn n a = 0 ↔ a = 0 := by
  rw [fofn_zero, Nat.mod_eq_of_lt ha]
theorem one_ne (h1 : 1 < n) : (1 : Fin n) ≠ 0 := fun h => by
  have h2 : 1 % n = 0 := congrArg Fin.val h
  rw [Nat.mod_eq_of_lt h1] at h2; omega
theorem tp_none : fofn n 0 = 0 := Fin.ext (Nat.mod_eq_of_lt (n_pos n) |>.trans rfl)
theorem tp_one : fofn n 1 = 1 := Fin.ext rfl
theorem tp_seven : fofn n 7 = 7 := Fin.ext rfl
/-- A spot of numbers. -/
structure Spt where
  x : Nat
  y : Nat
  z : Nat
deriving DecidableEq
def SpOk (s : Spt) : Prop := s.x < n ∧ s.y < n ∧ s.z < n
def JacN (s : Spt) (A : Pt (Fin n)) : Prop := Jac (fofn n s.x) (fofn n s.y) (fofn n s.z) A
def twN (s : Spt) : Spt :=
  let a := fm n s.x s.x
  let b := fm n s.y s.y
  let c := fm n b b
  let t := fa n s.x b
  let d := fs n (fs n (fm n t t) a) c
  let d2 := fa n d d
  let e := fa n (fa n a a) a
  let x := fs n (fm n e e) (fa n d2 d2)
  let c2 := fa n c c
  let c4 := fa n c2 c2
  ⟨x, fs n (fm n e (fs n d2 x)) (fa n c4 c4), fa n (fm n s.y s.z) (fm n s.y s.z)⟩
theorem twN_ok (s : Spt) : SpOk n (twN n s) := ⟨fs_lt n _ _, fs_lt n _ _, fa_lt n _ _⟩
theorem twN_jac (K : Fld (Fin n)) {s : Spt} {A : Pt (Fin n)} (hA : On A) (h : JacN n s A) : JacN n (twN n s) (add K A A) := by
  have := jac_twice K hA h
  unfold JacN twN
  simp only [tp_fm, tp_fa, tp_fs]
  exact this
def plN (s : Spt) (x2 y2 : Nat) : Spt :=
  if s.z = 0 then ⟨x2, y2, 1⟩ else
  let zz := fm n s.z s.z
  let h := fs n (fm n x2 zz) s.x
  let r := fs n (fm n y2 (fm n zz s.z)) s.y
  if h = 0 then (if r = 0 then twN n s else ⟨0, 0, 0⟩) else
  let hh := fm n h h
  let hhh := fm n h hh
  let v := fm n s.x hh
  let x := fs n (fs n (fm n r r) hhh) (fa n v v)
  ⟨x, fs n (fm n r (fs n v x)) (fm n s.y hhh), fm n s.z h⟩
theorem plN_ok (h1 : 1 < n) (s : Spt) {x2 y2 : Nat} (hx : x2 < n) (hy : y2 < n) : SpOk n (plN n s x2 y2) := by
  unfold plN
  split
  · exact ⟨hx, hy, h1⟩
  · dsimp only
    split
    · split
      · exact twN_ok n s
      · exact ⟨n_pos n, n_pos n, n_pos n⟩
    · exact ⟨fs_lt n _ _, fs_lt n _ _, fm_lt n _ _⟩
theorem plN_jac (K : Fld (Fin n)) (h11 : 1 < n) {s : Spt} {x2 y2 : Nat} {A : Pt (Fin n)} (hs : SpOk n s) (hA : On A) (hB : On (.af (fofn n x2) (fofn n y2))) (h : JacN n s A) : JacN n (plN n s x2 y2) (add K A (.af (fofn n x2) (fofn n y2))) := by
  unfold plN
  split
  · rename_i h0
    have hn : A = .none := by
      cases A with
      | none => rfl
      | af x y => exact absurd (by rw [h0]; exact tp_none n) h.1
    rw [hn, add_none_left]
    have := jac_at (fofn n x2) (fofn n y2) (one_ne n h11)
    unfold JacN
    rw [show fofn n (Spt.mk x2 y2 1).z = 1 from tp_one n]
    exact this
  · rename_i h0
    have hz : fofn n s.z ≠ 0 := fun e => h0 ((tp_zero n hs.2.2).1 e)
    have eH : fofn n (fs n (fm n x2 (fm n s.z s.z)) s.x) = fofn n x2 * (fofn n s.z * fofn n s.z) - fofn n s.x := by simp only [tp_fs, tp_fm]
    have eR : fofn n (fs n (fm n y2 (fm n (fm n s.z s.z) s.z)) s.y) = fofn n y2 * (fofn n s.z * fofn n s.z * fofn n s.z) - fofn n s.y := by simp only [tp_fs, tp_fm]
    dsimp only
    split
    · rename_i h1
      have h1' : fofn n x2 * (fofn n s.z * fofn n s.z) - fofn n s.x = 0 := by rw [← eH, h1]; exact tp_none n
      have sm := jac_same K hA hB h hz h1'
      split
      · rename_i h2
        have := sm.1 (by rw [← eR, h2]; exact tp_none n)
        rw [← this]; exact twN_jac n K hA h
      · rename_i h2
        rw [sm.2 (fun e => h2 ((tp_zero n (fs_lt n _ _)).1 (by rw [eR]; exact e)))]
        exact tp_none n
    · rename_i h1
      have := jac_plus K hA hB h hz eH eR (fun e => h1 ((tp_zero n (fs_lt n _ _)).1 e))
      unfold JacN
      simp only [tp_fm, tp_fa, tp_fs] at this ⊢
      exact this
def stepN (gx gy : Nat) (s : Spt) (b : Bool) : Spt := if b then plN n (twN n s) gx gy else twN n s
def stepK (k : Nat) (b : Bool) : Nat := if b then 2 * k + 1 else 2 * k
/-- A spot of so many times the base. -/
def Rep (K : Fld (Fin n)) (G : Pt (Fin n)) (s : Spt) (k : Nat) : Prop := JacN n s (mul K k G) ∧ SpOk n s
theorem step_rep (K : Fld (Fin n)) (h1 : 1 < n) {gx gy : Nat} (hx : gx < n) (hy : gy < n) (hG : On (.af (fofn n gx) (fofn n gy))) {s : Spt} {k : Nat} (h : Rep n K (.af (fofn n gx) (fofn n gy)) s k) (b : Bool) : Rep n K (.af (fofn n gx) (fofn n gy)) (stepN n gx gy s b) (stepK k b) := by
  have t := twN_jac n K (on_mul K hG k) h.1
  rw [← mul_two K hG] at t
  cases b with
  | false => exact ⟨t, twN_ok n s⟩
  | true => exact ⟨plN_jac n K h1 (twN_ok n s) (on_mul K hG (2 * k)) hG t, plN_ok n h1 _ hx hy⟩
theorem fold_rep (K : Fld (Fin n)) (h1 : 1 < n) {gx gy : Nat} (hx : gx < n) (hy : gy < n) (hG : On (.af (fofn n gx) (fofn n gy))) : ∀ (l : List Bool) {s : Spt} {k : Nat}, Rep n K (.af (fofn n gx) (fofn n gy)) s k → Rep n K (.af (fofn n gx) (fofn n gy)) (l.foldl (stepN n gx gy) s) (l.foldl stepK k)
  | [], _, _, h => h
  | b :: l, _, _, h => fold_rep K h1 hx hy hG l (step_rep n K h1 hx hy hG h b)
theorem fold_to (K : Fld (Fin n)) (h1 : 1 < n) {gx gy : Nat} (hx : gx < n) (hy : gy < n) (hG : On (.af (fofn n gx) (fofn n gy))) (l : List Bool) {s s' : Spt} {k k' : Nat} (h : Rep n K (.af (fofn n gx) (fofn n gy)) s k) (e1 : l.foldl (stepN n gx gy) s = s') (e2 : l.foldl stepK k = k') : Rep n K (.af (fofn n gx) (fofn n gy)) s' k' := by
  rw [← e1, ← e2]; exact fold_rep n K h1 hx hy hG l h
theorem rep_zero (K : Fld (Fin n)) (G : Pt (Fin n)) : Rep n K G ⟨0, 0, 0⟩ 0 := ⟨tp_none n, n_pos n, n_pos n, n_pos n⟩
theorem rep_none {K : Fld (Fin n)} {G : Pt (Fin n)} {x y k : Nat} (h : Rep n K G ⟨x, y, 0⟩ k) : mul K k G = .none := by
  have h1 := h.1
  cases e : mul K k G with
  | none => rfl
  | af x y =>
    rw [e] at h1
    exact absurd (tp_none n) h1.1
end
end Ec
end Go.Proofs.Ytknoamaapnbibaa
namespace Go.Proofs.Ytknoamaapnbibaa
namespace Ec
theorem prm_pos : 0 < PRM true := by have := prm_big true; omega
instance neZeroPrm : NeZero (PRM true) := ⟨Nat.pos_iff_ne_zero.1 prm_pos⟩
def CUB : Nat := 38597363079105398474523661669562635951089994888546854679819194669302944890554
theorem cub_reckoned : mpow (PRM true) 256 (PRM true - 7) CUB ≠ 1 := by decide +kernel
theorem cub_fits : CUB < 2 ^ 256 := by decide +kernel
theorem prm_cube : (PRM true - 7) ^ CUB % PRM true ≠ 1 := fun h => cub_reckoned ((mpow_eq _ _ _ _ cub_fits).trans h)
theorem prm_seven : 7 < PRM true := by decide +kernel
theorem prm_one : 1 < PRM true := by decide +kernel
theorem prm_three : PRM true - 1 = 3 * CUB := by decide +kernel
theorem prm_pr : Pr (PRM true) := pr_PRM true
theorem prm_cubes (x : Nat) : (x * x * x + 7) % PRM true ≠ 0 := cube_no (p := PRM true) (m := CUB) prm_pr prm_seven prm_three prm_cube x
abbrev FP := Fin (PRM true)
/-- The field of the curve. -/
def KP : Fld (Fin (PRM true)) := fldOf (PRM true) prm_pr prm_seven prm_cubes
/-- The base. -/
def GX : Nat := 55066263022277343669578718895168534326250603453777594175500187360389116729240
def GY : Nat := 32670510020758816978083085130507043184471273380659243275938904335757337482424
def GB : Pt (Fin (PRM true)) := .af (fofn (PRM true) GX) (fofn (PRM true) GY)
theorem gx_lt : GX < PRM true := by decide +kernel
theorem gy_lt : GY < PRM true := by decide +kernel
theorem base_nums : fm (PRM true) GY GY = fa (PRM true) (fm (PRM true) (fm (PRM true) GX GX) GX) 7 := by decide +kernel
theorem on_of_nums (n : Nat) [NeZero n] {x y : Nat} (h : fm n y y = fa n (fm n (fm n x x) x) 7) : On (.af (fofn n x) (fofn n y)) := by
  show fofn n y * fofn n y = fofn n x * fofn n x * fofn n x + 7
  rw [← tp_seven, ← tp_fm, ← tp_fm, ← tp_fm, ← tp_fa, h]
theorem on_base : On GB := on_of_nums _ base_nums
/-- A spot of so many times the base. -/
def RepG (s : Spt) (k : Nat) : Prop := Rep (PRM true) KP GB s k
theorem repg_to (l : List Bool) {s s' : Spt} {k k' : Nat} (h : RepG s k) (e1 : l.foldl (stepN (PRM true) GX GY) s = s') (e2 : l.foldl stepK k = k') : RepG s' k' := fold_to (PRM true) KP prm_one gx_lt gy_lt on_base l h e1 e2
theorem ord_0 : RepG ⟨0, 0, 0⟩ 0 := rep_zero _ _ _
theorem ord_1 : RepG ⟨17555327119553341811667800677056997536571092582461654239259749133688685236885, 71713619862238820109907663425404031110806930673960614256365760130797470020072, 91809746143455834956027902052196787265204167571967067417343821898442196040245⟩ 15 := repg_to [true, true, true, true] ord_0 (by decide +kernel) (by decide +kernel)
theorem ord_2 : RepG ⟨50266580735000569359657168890373088524513488199062332356388584639771645994188, 33781321742972227710382707880691555482110710581666782969967164013102574297774, 25352681719540994144014107919372240548815250088640458687759682941868023650946⟩ 255 := repg_to [true, true, true, true] ord_1 (by decide +kernel) (by decide +kernel)
theorem ord_3 : RepG ⟨69195640528873359911436477340144187631757680660310751290711130286249654799444, 24197057059602856904293750114628338931616100722284058905204266965189464639966, 44972957135563315077580661323340981484190924182606029745896678826974855137547⟩ 4095 := repg_to [true, true, true, true] ord_2 (by decide +kernel) (by decide +kernel)
theorem ord_4 : RepG ⟨20615289901169110551870680976060786970527407131220637215665270163181410268928, 26544356157483545431286805102135118327832908214302970444099596941014416959596, 26274429000862157908054316132600288153756937081221724822908903768037776600946⟩ 65535 := repg_to [true, true, true, true] ord_3 (by decide +kernel) (by decide +kernel)
theorem ord_5 : RepG ⟨46594580646158823242838531302161258846268694181616984550060892440704589943848, 8426135978638066213935557661711219093908048527996308985665334937284903157345, 70788966238003417852272224605518601341178058329211641463571452624302475443388⟩ 1048575 := repg_to [true, true, true, true] ord_4 (by decide +kernel) (by decide +kernel)
theorem ord_6 : RepG ⟨97084289091974429207477366298999811040891918505033340736575052911523357748327, 87782294401629527476775056449701677780421456316144937704369972351421978879512, 859957117869533153489863034531594596088609815668756138899000272291595252919⟩ 16777215 := repg_to [true, true, true, true] ord_5 (by decide +kernel) (by decide +kernel)
theorem ord_7 : RepG ⟨41978506256574230294523099325570138841347608490127182688848336190628723812290, 42576406867989022253823844436428234602732370422386148738096091067971267337166, 36732319291063968658819421590505894527649240865483019714983564737131995574472⟩ 268435455 := repg_to [true, true, true, true] ord_6 (by decide +kernel) (by decide +kernel)
theorem ord_8 : RepG ⟨47850635520784275567954454544784760848881066823409488448735548230763286694203, 93819935194781330815433756813794005446310741363086092816291474762361880521385, 97115856964596430594413283758527355423191250266282211051293021792540003861230⟩ 4294967295 := repg_to [true, true, true, true] ord_7 (by decide +kernel) (by decide +kernel)
theorem ord_9 : RepG ⟨26329547382925577879331126124843061468867213710341246379616559938440816442187, 91723940087972731458943893325178519403789882288180214275688713953247263298262, 17487327003953071106563483348328374167162690908370411922384106496377094697145⟩ 68719476735 := repg_to [true, true, true, true] ord_8 (by decide +kernel) (by decide +kernel)
theorem ord_10 : RepG ⟨42222175193773494564625552235129484025115968194456730939138236340002374037322, 43136839693162828295933210622560657852454158225423463550642880493927660665249, 103136747632684717821859280714098673161936964056517798474344675691936432485081⟩ 1099511627775 := repg_to [true, true, true, true] ord_9 (by decide +kernel) (by decide +kernel)
theorem ord_11 : RepG ⟨115090447175444661811952209214833490193541017061900091097486536316262865810236, 27604428038947400690552416659836055141405210140250133493499236542075893190466, 56555885167255486341583504442732250785669305253851404258552697810793017897760⟩ 17592186044415 := repg_to [true, true, true, true] ord_10 (by decide +kernel) (by decide +kernel)
theorem ord_12 : RepG ⟨67674265873462460006260527066892726840905120787415415036532147932456601998514, 36867697934265072464811801130898904968972185614458807989585498966071800777030, 68388201086063320703577712499284922314137047464457203952896789547756630352811⟩ 281474976710655 := repg_to [true, true, true, true] ord_11 (by decide +kernel) (by decide +kernel)
theorem ord_13 : RepG ⟨39416855301526722528269152127303767284573913525924713389890206232188572283372, 34277222708283835635353157249767519185630032012828978810226375542593373701966, 23243366413696869097785818044226808304192640238591054873205085857984748330639⟩ 4503599627370495 := repg_to [true, true, true, true] ord_12 (by decide +kernel) (by decide +kernel)
theorem ord_14 : RepG ⟨73217325171755420737530811214982943667381032093107660645660045601993379674863, 6550791885672265554613112060782779183481463707528035744977468707521280093910, 34538974660560978197200423903005809981298264851286073647736006291918427458357⟩ 72057594037927935 := repg_to [true, true, true, true] ord_13 (by decide +kernel) (by decide +kernel)
theorem ord_15 : RepG ⟨37290997310970428581390639093372044916512603415485319663638660247142796820601, 3389536216926892002285343097034622843859623566115233010493516347095453846789, 43485757589898353810267375362475113712949288944864151540102371369972745811480⟩ 1152921504606846975 := repg_to [true, true, true, true] ord_14 (by decide +kernel) (by decide +kernel)
theorem ord_16 : RepG ⟨64579366475869651558900165266501954248691684545955134250833719132083697293161, 17410617546471807716801342264335755041670941777309122675578263844008232991374, 41452111945659813672717365499698994735690216437346368706532317517338920054495⟩ 18446744073709551615 := repg_to [true, true, true, true] ord_15 (by decide +kernel) (by decide +kernel)
theorem ord_17 : RepG ⟨86383099606155376963188409978083247434611161539494858537833935683641312002652, 66209094175392225089660548503939921607616092729815247453069806934225112198961, 98080971364988272582012868927229592526129173597096403907201856326372271844755⟩ 295147905179352825855 := repg_to [true, true, true, true] ord_16 (by decide +kernel) (by decide +kernel)
theorem ord_18 : RepG ⟨91825167704271863770940482740804381065606710410491076318265935813696050315669, 110254906330250449359149227945733931964187306778586320519113207587325221802617, 55572657769630343073968328146588079898324690068156901605857344014730319104580⟩ 4722366482869645213695 := repg_to [true, true, true, true] ord_17 (by decide +kernel) (by decide +kernel)
theorem ord_19 : RepG ⟨77989006729730544021564228204253254070317741538092991648700651770766122272844, 27826318504697777655538227876642391389943487285590242087794374685526591275297, 107753043230899327866171094189490845459829479323909920901394745165035673079242⟩ 75557863725914323419135 := repg_to [true, true, true, true] ord_18 (by decide +kernel) (by decide +kernel)
theorem ord_20 : RepG ⟨22459756281983081131652481325119073304579328707804856356653950107196316623898, 85334498065162330358306593183827892864574866367490189001415536461653602301559, 59720104486780659864649865837149680815764448249408341590148752122661367972354⟩ 1208925819614629174706175 := repg_to [true, true, true, true] ord_19 (by decide +kernel) (by decide +kernel)
theorem ord_21 : RepG ⟨110190421415520856156307709578649739362393419721079928223449946458821444102416, 74758979739088364029438831774078086922676689963564138858858372297217840199950, 104960573857788201357402911876802347524484263432207731074857649147824921076298⟩ 19342813113834066795298815 := repg_to [true, true, true, true] ord_20 (by decide +kernel) (by decide +kernel)
theorem ord_22 : RepG ⟨50831106120739669081252077715209415250258457174791525103133936322289162279655, 19435277649657120104332613576951036156080630117315570632702449948141505327844, 99870942269599866336269277268715892132979687557578035628864028398065287174544⟩ 309485009821345068724781055 := repg_to [true, true, true, true] ord_21 (by decide +kernel) (by decide +kernel)
theorem ord_23 : RepG ⟨50905276003581741774440274059797846323594691536019548716950925502721217115755, 12606989269066069645691169670088108782278364335201631258700391213637738920292, 71267978600014484992221167244378176261843234398032195466761242706279843765600⟩ 4951760157141521099596496895 := repg_to [true, true, true, true] ord_22 (by decide +kernel) (by decide +kernel)
theorem ord_24 : RepG ⟨5215267292975397788301241550243447847653220862243480951701522362967388441324, 48962251812536654293410537515351655322888436543424267342650337297168342411658, 89680353018566262916129317786224598859018716227362298236836718372656621027537⟩ 79228162514264337593543950335 := repg_to [true, true, true, true] ord_23 (by decide +kernel) (by decide +kernel)
theorem ord_25 : RepG ⟨63408532578045485620622972456506975546478828300203900936622548629389016346226, 24130012943620187450553093589670184629604328680777507204161620051811934492114, 93302796692807310313319770887933568282786759780931412634824814817868015446200⟩ 1267650600228229401496703205375 := repg_to [true, true, true, true] ord_24 (by decide +kernel) (by decide +kernel)
theorem ord_26 : RepG ⟨86367007378866115085576850661435564509139042284456662212217547335021571584844, 31045885429451236335198194033656044580919494145472369214486744077522764905804, 29986084928968830689895776560803906625368413420121625723672753583371862695122⟩ 20282409603651670423947251286015 := repg_to [true, true, true, true] ord_25 (by decide +kernel) (by decide +kernel)
theorem ord_27 : RepG ⟨29940927701551011894129468325572008495257438360652492909563647573380505560444, 29199254976567498554207899654922473360458881355128278889670391783602563609886, 8717887176782656637608617771208364063786924390278916226898617509862915303684⟩ 324518553658426726783156020576255 := repg_to [true, true, true, true] ord_26 (by decide +kernel) (by decide +kernel)
theorem ord_28 : RepG ⟨66055686673349713326479203730027720966407994516668115888318318199124901038715, 51650333150236113733101484427917533072199804561469749573814419484691277634833, 21820002556271353434667167162476465486469734054841003774365777170670083385270⟩ 5192296858534827628530496329220095 := repg_to [true, true, true, true] ord_27 (by decide +kernel) (by decide +kernel)
theorem ord_29 : RepG ⟨73377974099349907196327746874703435399019718708531370045231885827707429910247, 104505748986558051597609274162576171238750373436433717240381071303714633005434, 10482742484206805830227535435883613840789279260608772117545319142032372315460⟩ 83076749736557242056487941267521535 := repg_to [true, true, true, true] ord_28 (by decide +kernel) (by decide +kernel)
theorem ord_30 : RepG ⟨23763805884844247069789437364416574195381016653485129885920648960079912440925, 106719756105187683983191701667663691369843655987907166978867911871480229158661, 9130406994281286093047471694826786592254536743673353812327002520065990711458⟩ 1329227995784915872903807060280344575 := repg_to [true, true, true, true] ord_29 (by decide +kernel) (by decide +kernel)
theorem ord_31 : RepG ⟨33955559898131131919020978624622640829414528821629461621993282910308537519801, 61730568721435559018611135677183695338424773688629793459934226558844244233172, 115622624680936789935716280992966932865466785294605440208867652470051216083196⟩ 21267647932558653966460912964485513215 := repg_to [true, true, true, true] ord_30 (by decide +kernel) (by decide +kernel)
theorem ord_32 : RepG ⟨56369713041338357990884004317508561086434145731119320400334383530011137607539, 105245168437925709145994399066117592443203106474068944792041863325672208699073, 66685748808735955552758177086309973159192498395489432964789881912409301844919⟩ 340282366920938463463374607431768211454 := repg_to [true, true, true, false] ord_31 (by decide +kernel) (by decide +kernel)
theorem ord_33 : RepG ⟨101646282157796963959196160489272865366155329459684874930954473234746261621667, 80049423705236702533920712612298299383915593094594421265929928294110331513287, 14458972184157724235990952703451902091615900486191161009925314623775000212530⟩ 5444517870735015415413993718908291383275 := repg_to [true, false, true, true] ord_32 (by decide +kernel) (by decide +kernel)
theorem ord_34 : RepG ⟨6924248973234141291887965140130569916033273131677798081688655234641204931278, 114460852497805002793274847374115467446967498940797492411852173207339075275181, 108762735914264851063498596996172431400933374866210546579329002436486214402448⟩ 87112285931760246646623899502532662132410 := repg_to [true, false, true, false] ord_33 (by decide +kernel) (by decide +kernel)
theorem ord_35 : RepG ⟨27739332389811953481064557979749752868920142458089800386870971591912641454788, 672695411134011315422990597512789558562841033454840342964848435007760746950, 26753099171431024676647860614327008091872151884316617271659386137199937228054⟩ 1393796574908163946345982392040522594118570 := repg_to [true, false, true, false] ord_34 (by decide +kernel) (by decide +kernel)
theorem ord_36 : RepG ⟨56715876589555352402325445253815821982256596340175287086144039083160355219789, 108278877629789199605601435325832072809730658851427882917013789178058868246547, 90975901576351727661405519847960120560992963127917413697891296930574914759010⟩ 22300745198530623141535718272648361505897134 := repg_to [true, true, true, false] ord_35 (by decide +kernel) (by decide +kernel)
theorem ord_37 : RepG ⟨88999068626835387043976650429763354665796136651707959251747080365735686465798, 35000787618757717652863401846271000098722832349939509115181465989661898196861, 36939989046954480175976767090451569076225346243034958482676885641779522789438⟩ 356811923176489970264571492362373784094354157 := repg_to [true, true, false, true] ord_36 (by decide +kernel) (by decide +kernel)
theorem ord_38 : RepG ⟨25419915087272734010247888350982584451714147809622824326031891307737970010468, 10658957281974294636369261536910962589249108935266985285608718598919388774120, 27402002708354604664665726633559546553374369392009469419856962014729974524832⟩ 5708990770823839524233143877797980545509666524 := repg_to [true, true, false, false] ord_37 (by decide +kernel) (by decide +kernel)
theorem ord_39 : RepG ⟨24531980223589028108330431006621141899838006720951446389635693145597116669796, 59508770603110126142956626649727837644325378231478655645404877096655091261445, 29893344017841479217691905631425454316954306782884126080861498370319616412020⟩ 91343852333181432387730302044767688728154664398 := repg_to [true, true, true, false] ord_38 (by decide +kernel) (by decide +kernel)
theorem ord_40 : RepG ⟨28582797481525630212336068430379825316300190215339912044264751708945965337995, 1748122704436546361248432681635461984628136707077943377440980103992509357326, 14511532726561283976976980306611085275896346125084049573684179116608363522851⟩ 1461501637330902918203684832716283019650474630374 := repg_to [false, true, true, false] ord_39 (by decide +kernel) (by decide +kernel)
theorem ord_41 : RepG ⟨27565261857822319837696584657388316845715365801759099942507765102160112965747, 68641297575338542498531316223183882540720596967676072278517827245999078358154, 63970590239281394084712231803672596128249947362160747033275757780301964416712⟩ 23384026197294446691258957323460528314407594085994 := repg_to [true, false, true, false] ord_40 (by decide +kernel) (by decide +kernel)
theorem ord_42 : RepG ⟨77449502994695266502121863688042904806208440899679772025190774219178391107857, 73495976618474174197871895810623710295707664211075070910563720214971303709530, 79054457522662276882501579326274675696630122025678840708848802891782682944457⟩ 374144419156711147060143317175368453030521505375919 := repg_to [true, true, true, true] ord_41 (by decide +kernel) (by decide +kernel)
theorem ord_43 : RepG ⟨80611755463801097249010620858417331089712133534681212329185694513060592272633, 38807402296118824548809133016737685303484773354044970818786635893864609151377, 89826486727614768158060912809391864973944610764415928039384299666889024848672⟩ 5986310706507378352962293074805895248488344086014708 := repg_to [false, true, false, false] ord_42 (by decide +kernel) (by decide +kernel)
theorem ord_44 : RepG ⟨64765401021007152518070331158604494367544815165583285896602477564966687054924, 26413698628425452269577378212982077564786629807492987455086984404199253893854, 28537856041152848557196147355279713675020840368969879085983276227494555287782⟩ 95780971304118053647396689196894323975813505376235336 := repg_to [true, false, false, false] ord_43 (by decide +kernel) (by decide +kernel)
theorem ord_45 : RepG ⟨11757786134736995556024505517692904632608784065340156468836155375122511405718, 4348321836493422393905161106766166003525378440599814462051154059299735593219, 44665925548312335263591367758893357421405225719769323841973439242693960679060⟩ 1532495540865888858358347027150309183613016086019765386 := repg_to [true, false, true, false] ord_44 (by decide +kernel) (by decide +kernel)
theorem ord_46 : RepG ⟨75224598275597334626838117272766521071143273376991701422408029275957363748521, 36121632081324490016490453434265533001823995162198025208598621745060276451804, 89979025784653323046321963494435345716895682928399837626804017350808276642339⟩ 24519928653854221733733552434404946937808257376316246176 := repg_to [false, false, false, false] ord_45 (by decide +kernel) (by decide +kernel)
theorem ord_47 : RepG ⟨20245977084747660884900795358606620267281177072475960842233649908922001903870, 27649673347235819060911186803242789093641614935981781458175145519023299722298, 23979698395912774867888947978834394543686699802821239288480146665917329274740⟩ 392318858461667547739736838950479151004932118021059938819 := repg_to [false, false, true, true] ord_46 (by decide +kernel) (by decide +kernel)
theorem ord_48 : RepG ⟨39728933411044610813695708931503623868781264243521836127164031710703722218822, 37289750232136454225687927934200279680487353364793934736066510882712417780143, 26542172997625569306627056615309923458256593411805327491368718637889561701945⟩ 6277101735386680763835789423207666416078913888336959021115 := repg_to [true, false, true, true] ord_47 (by decide +kernel) (by decide +kernel)
theorem ord_49 : RepG ⟨106838287851219408870505809879943988396223332421526501485035999854549913785768, 45902209025529382890046759547107023811713293483869478763497437303981124308986, 73994438820394746382498381164414726429219708604119284590123860736771159919161⟩ 100433627766186892221372630771322662657262622213391344337851 := repg_to [true, false, true, true] ord_48 (by decide +kernel) (by decide +kernel)
theorem ord_50 : RepG ⟨26968516281582810495097702219244418321149876048761751352999397521947145145760, 14887274296287804636505925487343819268011339860658117215574000254960048269004, 98216222618889054480719077886031941957702979380063018939337160817808536062180⟩ 1606938044258990275541962092341162602516201955414261509405631 := repg_to [true, true, true, true] ord_49 (by decide +kernel) (by decide +kernel)
theorem ord_51 : RepG ⟨91896143000405041088274293074297246336480520786177412982263424849457670802948, 113399481896416064869891245067779623391611888077050011514039724179655408525072, 49797394286684382311261591365434346832991563189291859643595951100294055601447⟩ 25711008708143844408671393477458601640259231286628184150490109 := repg_to [true, true, false, true] ord_50 (by decide +kernel) (by decide +kernel)
theorem ord_52 : RepG ⟨45658516013367744355521601078672063567145940757382758549315136493651651915920, 99688681036233890785491957406675697969050220579604793710222208501749481038026, 44700814402717211295133303860716038747533786110011006833034510940141298873776⟩ 411376139330301510538742295639337626244147700586050946407841746 := repg_to [false, false, true, false] ord_51 (by decide +kernel) (by decide +kernel)
theorem ord_53 : RepG ⟨20783552927054404243174075400767401619574250206973849421047615976637184150743, 114899611225666744958634198009845952363052462122353661337732049686981321882921, 99539131492406824143101132871267793507333236772728895582163212643490287490940⟩ 6582018229284824168619876730229402019906363209376815142525467941 := repg_to [false, true, false, true] ord_52 (by decide +kernel) (by decide +kernel)
theorem ord_54 : RepG ⟨5638421377943331874457072396210218503290824914957962929664846171609324500434, 58287402917797638002271012572817637506745396183008217920115632281150515739667, 74200619544051727136535461039617398055766529508315285657218391771239704887493⟩ 105312291668557186697918027683670432318501811350029042280407487070 := repg_to [true, true, true, false] ord_53 (by decide +kernel) (by decide +kernel)
theorem ord_55 : RepG ⟨56553796173195616150353927358186786081839124601982795528429046406844994891500, 49432455232521478989987126812554874450982283811758195286639568760400255006616, 55788850550872278989884185441612129665290423927049339545997864395890585108112⟩ 1684996666696914987166688442938726917096028981600464676486519793128 := repg_to [true, false, false, false] ord_54 (by decide +kernel) (by decide +kernel)
theorem ord_56 : RepG ⟨97320255224839805028002901866976559606533675173969854549746820045240956931735, 53374149755408376024171962502010874650101334878707971505612334686872292891617, 52012452562272498566719358547439183443208107140083680193059131870385183946214⟩ 26959946667150639794667015087019630673536463705607434823784316690060 := repg_to [true, true, false, false] ord_55 (by decide +kernel) (by decide +kernel)
theorem ord_57 : RepG ⟨47489739888056308529293778942915609299719464367299377540853573353768616807949, 49576195771890139331395044357645424079229966133964550025510009962254027248110, 43253424109109925867803287093535728398938135275260867524466104744811298198472⟩ 431359146674410236714672241392314090776583419289718957180549067040973 := repg_to [true, true, false, true] ord_56 (by decide +kernel) (by decide +kernel)
theorem ord_58 : RepG ⟨63825296879022026476566164069416722197109313945674489835056184026112461054103, 97156313332834426342534498598861327035620044287723501198115087464424079371409, 81040064403489010179236597310813676711232468796940140609612845258221458746175⟩ 6901746346790563787434755862277025452425334708635503314888785072655568 := repg_to [false, false, false, false] ord_57 (by decide +kernel) (by decide +kernel)
theorem ord_59 : RepG ⟨61000433385533197934909574273275096476669025669683593254956649887919614097666, 47088379645425255371323403225412911801223532860143506331823878342153990968690, 89720883053607410677799317084293407608210068207558270507448162401670518204025⟩ 110427941548649020598956093796432407238805355338168053038220561162489091 := repg_to [false, false, true, true] ord_58 (by decide +kernel) (by decide +kernel)
theorem ord_60 : RepG ⟨69085274013243033719434563087530414250892400603496285514813940695758214160184, 49799994730575204366657807516661235262925852541882427698970698115354242791295, 92427930790130191312278185908546995708953095932711664136407461389427013496753⟩ 1766847064778384329583297500742918515820885685410688848611528978599825462 := repg_to [false, true, true, false] ord_59 (by decide +kernel) (by decide +kernel)
theorem ord_61 : RepG ⟨8242335288193713970350454461048509105338915815885399792592061453817856007672, 113432374450712221022990917159782051744834331846303719742205776827363648802054, 62879671085447940089612740685207255962272113312140147277029348812500735408719⟩ 28269553036454149273332760011886696253134170966571021577784463657597207396 := repg_to [false, true, false, false] ord_60 (by decide +kernel) (by decide +kernel)
theorem ord_62 : RepG ⟨32063271005589016665546314843505345184769122999027524958194261835068284954481, 64945666980178750350273677075626732993875501633000268963013855522760350470130, 46830672095688773079715706477869298713701035631893898253119115046294774801001⟩ 452312848583266388373324160190187140050146735465136345244551418521555318337 := repg_to [false, false, false, true] ord_61 (by decide +kernel) (by decide +kernel)
theorem ord_63 : RepG ⟨111343359269486859656194080301040364092012842803899218481377788217441392583237, 106346076083795588983463320473690841223910193684197802386686134147599997416676, 12364283353956777351311306269614474241153942132435167331758224047501176555630⟩ 7237005577332262213973186563042994240802347767442181523912822696344885093396 := repg_to [false, true, false, false] ord_62 (by decide +kernel) (by decide +kernel)
theorem ord_64 : RepG ⟨0, 0, 0⟩ 115792089237316195423570985008687907852837564279074904382605163141518161494337 := repg_to [false, false, false, true] ord_63 (by decide +kernel) (by decide +kernel)
/-- So many times the base is nowhere. -/
theorem order_num : PRM false = 115792089237316195423570985008687907852837564279074904382605163141518161494337 := rfl
theorem base_order : mul KP (PRM false) GB = .none := by
  rw [order_num]
  exact rep_none _ ord_64
end Ec
end Go.Proofs.Ytknoamaapnbibaa
namespace Go.Proofs.Ytknoamaapnbibaa
open Go.RowKit
/-- A point's cells. -/
def pcs (x y : Nat) (b : Bool) : Array Value := limbs4 x ++ limbs4 y ++ #[.bool b]
/-- A spot's. -/
def scs (g x y z : Nat) : Array Value := #[pt g] ++ limbs4 x ++ limbs4 y ++ limbs4 z
/-- A point as numbers; o: nowhere. -/
structure Pn where
  x : Nat
  y : Nat
  o : Bool
deriving DecidableEq
@[reducible] def pnv (a : Pn) : Value := .agg (pcs a.x a.y a.o)
namespace Ec
/-- What Y times Y is. -/
def sdN (n x : Nat) : Nat := fa n (fm n (fm n x x) x) 7
/-- What the other one is, so that both are one. -/
def ivN (p : Bool) (a : Nat) : Nat := if a % PRM p = 0 then 0 else a ^ (PRM p - 2) % PRM p
/-- A spot's point. -/
def ptN (s : Spt) : Pn := if s.z % PRM true = 0 then ⟨0, 0, true⟩ else
  ⟨fm (PRM true) s.x (fm (PRM true) (ivN true s.z) (ivN true s.z)), fm (PRM true) s.y (fm (PRM true) (fm (PRM true) (ivN true s.z) (ivN true s.z)) (ivN true s.z)), false⟩
end Ec
def ierr (p : Bool) (a : Nat) : Int := if a % PRM p = 0 then 31 else 0
section field
variable {p : Bool} {g a b z : Nat}
theorem prm_w {x : Nat} (h : x < PRM p) : x < W256 := Nat.lt_trans h (prm_lt p)
theorem mod_w (x : Nat) : x % PRM p < W256 := prm_w (Nat.mod_lt _ (by have := prm_big p; omega))
theorem zfm (h : z = Ec.fm (PRM p) a b) : z < W256 := h ▸ mod_w _
theorem zfa (h : z = Ec.fa (PRM p) a b) : z < W256 := h ▸ mod_w _
theorem zfs (h : z = Ec.fs (PRM p) a b) : z < W256 := h ▸ mod_w _
theorem zsd (h : z = Ec.sdN (PRM p) a) : z < W256 := h ▸ mod_w _
theorem ziv (h : z = Ec.ivN p a) : z < W256 := by
  rw [h]; unfold Ec.ivN; split
  · decide
  · exact mod_w _
theorem mul_z (h : z = Ec.fm (PRM p) a b) (ha : a < W256) (hb : b < W256) (W : World) (hr : W.heap[g]? = some (rrow p)) : Calls Try.prog 31 #[pt g, wv a, wv b] W fun e w' => e = .returned (wv z) ∧ Below W.heap.size W w' := h ▸ mul_rc g a b p ha hb W hr
theorem add_z (h : z = Ec.fa (PRM p) a b) (ha : a < W256) (hb : b < W256) (W : World) (hr : W.heap[g]? = some (rrow p)) : Calls Try.prog 32 #[pt g, wv a, wv b] W fun e w' => e = .returned (wv z) ∧ Below W.heap.size W w' := h ▸ add_rc g a b p ha hb W hr
theorem sub_z (h : z = Ec.fs (PRM p) a b) (ha : a < W256) (hb : b < W256) (W : World) (hr : W.heap[g]? = some (rrow p)) : Calls Try.prog 35 #[pt g, wv a, wv b] W fun e w' => e = .returned (wv z) ∧ Below W.heap.size W w' := h ▸ sub_rc g a b p ha hb W hr
theorem inv_z (h : z = Ec.ivN p a) (ha : a < W256) (W : World) (hr : W.heap[g]? = some (rrow p)) : Calls Try.prog 30 #[pt g, wv a] W fun e w' => e = .returned (.tuple #[wv z, .int .i64 (ierr p a)]) ∧ Below W.heap.size W w' := h ▸ inv_rc g a p ha W hr
end field
theorem P_x {w : World} {L : List (Nat × Obj)} {X : List Xt} (hL : rowsNot 93 L = true) (hX : (X.all fun q => !q.ex) = true) (W : World) (S : Sx w L X W) : Calls Try.prog 74 #[] W fun e w' => ∃ g, e = .returned (pt g) ∧ Sx w L (xrow g (rrow true) :: X) w' :=
  (P_c W).mono fun _ _ ⟨g, he, hg, hb⟩ => ⟨g, he, (S.keep hb).addR hg.out hL hX⟩
theorem Sx.oneX {w : World} {g : Nat} {o : Obj} (h : w.heap[g]? = some o) : Sx w [] [xrow g o] w := (Sx.nil w).addX _ h (fun _ h => by cases h) (fun b hb => by have hb : b = g := hb; rw [hb]; exact lt_of_block h) (fun _ h => by cases h)
theorem weq_t {x : Nat} (h : weq x 0 = true) (hx : x < W256) : x = 0 := (weq_iff hx (by decide)).1 h
theorem weq_f {x : Nat} (h : weq x 0 = false) (hx : x < W256) : x ≠ 0 := fun e => by rw [(weq_iff hx (by decide)).2 e] at h; cases h
theorem gx_w : Ec.GX < W256 := by decide +kernel
theorem gy_w : Ec.GY < W256 := by decide +kernel
set_option maxRecDepth 100000 in
theorem cbase_c (w : World) : Calls Try.prog 29 #[] w fun e w' => e = .returned (.agg (pcs Ec.GX Ec.GY false)) ∧ Below w.heap.size w w' := by
 refine enterQ 4 (fun q => .seq (q 0) (.seq (q 1) .ret)) (Sx.nil w) Try.func29 ?_
 refine Cd.sr ?_
 refine At.new 0 [] 0 (pcs 0 0 false) 36 fun g0 h0 => ?_
 refine At.nx ?_
 refine Cd.sr ?_
 refine At.st 3 [] 0 (pcs 55066263022277343669578718895168534326250603453777594175500187360389116729240 32670510020758816978083085130507043184471273380659243275938904335757337482424 false) h0 ?_
 refine At.nx ?_
 exact Cd.rv r0 [] (.agg (pcs 55066263022277343669578718895168534326250603453777594175500187360389116729240 32670510020758816978083085130507043184471273380659243275938904335757337482424 false)) fun W S => ⟨rfl, S.below⟩
set_option maxRecDepth 100000 in
theorem cnone_c (w : World) : Calls Try.prog 75 #[] w fun e w' => e = .returned (.agg (pcs 0 0 true)) ∧ Below w.heap.size w w' := by
 refine enterQ 2 (fun q => .seq (q 0) (.seq (q 1) .ret)) (Sx.nil w) Try.func75 ?_
 refine Cd.sr ?_
 refine At.new 0 [] 0 (pcs 0 0 false) 36 fun g0 h0 => ?_
 refine At.nx ?_
 refine Cd.sr ?_
 refine At.st 1 [] 0 (pcs 0 0 true) h0 ?_
 refine At.nx ?_
 exact Cd.rv r0 [] (.agg (pcs 0 0 true)) fun W S => ⟨rfl, S.below⟩
set_option maxRecDepth 100000 in
theorem side_z {g x z : Nat} (h : z = Ec.sdN (PRM true) x) (hx : x < W256) (w : World) (hr : w.heap[g]? = some (rrow true)) : Calls Try.prog 76 #[pt g, wv x] w fun e w' => e = .returned (wv z) ∧ Below w.heap.size w w' := by
 refine enterQ 15 (fun q => .seq (q 0) (.seq (q 1) .ret)) (Sx.oneX hr) Try.func76 ?_
 refine Cd.sr ?_
 refine At.new 0 [] 3 (limbs4 x) 24 fun g3 h3 => ?_
 refine At.new 0 [] 4 (limbs4 0) 24 fun g4 h4 => ?_
 refine At.nx ?_
 refine Cd.seq ?_
 obtain ⟨n1, en1⟩ : ∃ zz, zz = Ec.fm (PRM true) x x := ⟨_, rfl⟩
 obtain ⟨n2, en2⟩ : ∃ zz, zz = Ec.fm (PRM true) n1 x := ⟨_, rfl⟩
 refine Cd.dk 9 [0, 0, 0, 1, 1, 0, 1] [(5, wv n1), (7, wv n2), (8, wv 7)] [(5, pt g), (12, wv n2), (13, wv 7)] (.cons 5 (fun _ W S _ => mul_z en1 hx hx W (S.x 0 rfl)) <| .cons 7 (fun _ W S _ => mul_z en2 (zfm en1) hx W (S.x 0 rfl)) <| .cons 8 (fun _ W S _ => of_n 7 7 rfl (by decide) W) <| .nil) ?_
 obtain ⟨n3, en3⟩ : ∃ zz, zz = Ec.fa (PRM true) n2 7 := ⟨_, rfl⟩
 refine At.call 0 [] 14 (fun W S => add_z en3 (zfm en2) (by decide) W (S.x 0 rfl)) ?_
 refine At.st 0 [] 0 (limbs4 n3) h4 ?_
 refine At.nx ?_
 exact Cd.rv r0 [] (wv n3) fun W S => by subst_vars; exact ⟨rfl, S.below⟩
set_option maxRecDepth 100000 in
theorem snone_c (g x y z : Nat) (hz : z < W256) (w : World) : Calls Try.prog 89 #[.agg (scs g x y z)] w fun e w' => e = .returned (.bool (decide (z = 0))) ∧ Below w.heap.size w w' := by
 refine enterQ 7 (fun q => .seq (q 0) (.seq (q 1) .ret)) (Sx.nil w) Try.func89 ?_
 refine Cd.sr ?_
 refine At.new 0 [] 1 (scs g x y z) 101 fun g1 h1 => ?_
 refine At.run 1 [] [] ?_
 refine At.nx ?_
 refine Cd.sr ?_
 refine At.run 5 [] [(2, .bool (weq z 0))] ?_
 refine At.nx ?_
 exact Cd.rv r0 [] (.bool (weq z 0)) fun W S => ⟨by rw [weq_decide hz (by decide)], S.below⟩
end Go.Proofs.Ytknoamaapnbibaa
namespace Go.Proofs.Ytknoamaapnbibaa
open Go.RowKit
theorem ztw {s t : Ec.Spt} (h : s = Ec.twN (PRM true) t) : s.x < W256 ∧ s.y < W256 ∧ s.z < W256 := by
  have k := Ec.twN_ok (PRM true) t
  rw [← h] at k
  exact ⟨prm_w k.1, prm_w k.2.1, prm_w k.2.2⟩
set_option maxRecDepth 100000 in
theorem twice_z {g x y z : Nat} {s : Ec.Spt} (h : s = Ec.twN (PRM true) ⟨x, y, z⟩) (hx : x < W256) (hy : y < W256) (hz : z < W256) (w : World) (hr : w.heap[g]? = some (rrow true)) : Calls Try.prog 78 #[.agg (scs g x y z)] w fun e w' => e = .returned (.agg (scs g s.x s.y s.z)) ∧ Below w.heap.size w w' := by
 refine enterQ 102 (fun q => .seq (q 0) (.seq (q 1) (.seq (q 2) (.seq (q 3) (.seq (q 4) (.seq (q 5) (.seq (q 6) (.seq (q 7) (.seq (q 8) (.seq (q 9) (.seq (q 10) (.seq (q 11) (.seq (q 12) (.seq (q 13) .ret)))))))))))))) (Sx.oneX hr) Try.func78 ?_
 refine Cd.sr ?_
 refine At.new 0 [] 1 (scs g x y z) 101 fun g1 h1 => ?_
 refine At.new 0 [] 2 (#[.pointer none] ++ limbs4 0 ++ limbs4 0 ++ limbs4 0) 101 fun g2 h2 => ?_
 refine At.nx ?_
 refine Cd.sr ?_
 refine At.run 3 [0, 1] [(3, pt g)] ?_
 refine At.nx ?_
 refine Cd.seq ?_
 obtain ⟨n1, en1⟩ : ∃ zz, zz = Ec.fm (PRM true) x x := ⟨_, rfl⟩
 obtain ⟨n2, en2⟩ : ∃ zz, zz = Ec.fm (PRM true) y y := ⟨_, rfl⟩
 refine Cd.da 14 [0, 0, 1, 0, 1, 0, 0, 0, 1, 0, 1] [(5, wv n1), (11, wv n2)] [(12, ⟨none, limbs4 0, 24⟩), (13, ⟨none, limbs4 0, 24⟩)] (fun u2 => [(20, wv n1), (26, wv n2), (4, pt ((u2 12).n)), (5, pt ((u2 13).n))]) (.cons 5 (fun u2 W S h => mul_z en1 hx hx W (S.x 0 rfl)) <| .cons 11 (fun u2 W S h => mul_z en2 hy hy W (S.x 0 rfl)) <| .nil) fun u2 hu2 => ?_
 refine At.st 0 [] 0 (limbs4 n1) (hu2 12 _ rfl) ?_
 refine At.st 0 [] 1 (limbs4 n2) (hu2 13 _ rfl) ?_
 refine At.nx ?_
 refine Cd.sr ?_
 obtain ⟨n3, en3⟩ : ∃ zz, zz = Ec.fm (PRM true) n2 n2 := ⟨_, rfl⟩
 refine At.call 3 [0, 1, 1] 30 (fun W S => mul_z en3 (zfm en2) (zfm en2) W (S.x 0 rfl)) ?_
 refine At.new 0 [] 6 (limbs4 0) 24 fun g6 h6 => ?_
 refine At.st 0 [] 0 (limbs4 n3) h6 ?_
 refine At.nx ?_
 refine Cd.sr ?_
 obtain ⟨n4, en4⟩ : ∃ zz, zz = Ec.fa (PRM true) x n2 := ⟨_, rfl⟩
 refine At.call 4 [0, 0, 4, 2] 35 (fun W S => add_z en4 hx (zfm en2) W (S.x 0 rfl)) ?_
 refine At.new 0 [] 7 (limbs4 0) 24 fun g7 h7 => ?_
 refine At.st 0 [] 0 (limbs4 n4) h7 ?_
 refine At.nx ?_
 refine Cd.seq ?_
 obtain ⟨n5, en5⟩ : ∃ zz, zz = Ec.fm (PRM true) n4 n4 := ⟨_, rfl⟩
 obtain ⟨n6, en6⟩ : ∃ zz, zz = Ec.fs (PRM true) n5 n1 := ⟨_, rfl⟩
 obtain ⟨n7, en7⟩ : ∃ zz, zz = Ec.fs (PRM true) n6 n3 := ⟨_, rfl⟩
 refine Cd.da 11 [0, 0, 0, 0, 0, 0, 2, 0, 1] [(5, wv n5), (7, wv n6), (9, wv n7)] [(10, ⟨none, limbs4 0, 24⟩)] (fun u5 => [(45, wv n7), (8, pt ((u5 10).n))]) (.cons 5 (fun u5 W S h => mul_z en5 (zfa en4) (zfa en4) W (S.x 0 rfl)) <| .cons 7 (fun u5 W S h => sub_z en6 (zfm en5) (zfm en1) W (S.x 0 rfl)) <| .cons 9 (fun u5 W S h => sub_z en7 (zfs en6) (zfm en3) W (S.x 0 rfl)) <| .nil) fun u5 hu5 => ?_
 refine At.st 0 [] 0 (limbs4 n7) (hu5 10 _ rfl) ?_
 refine At.nx ?_
 refine Cd.sr ?_
 obtain ⟨n8, en8⟩ : ∃ zz, zz = Ec.fa (PRM true) n7 n7 := ⟨_, rfl⟩
 refine At.call 3 [] 49 (fun W S => add_z en8 (zfs en7) (zfs en7) W (S.x 0 rfl)) ?_
 refine At.st 0 [] 0 (limbs4 n8) (hu5 10 _ rfl) ?_
 refine At.nx ?_
 refine Cd.seq ?_
 obtain ⟨n9, en9⟩ : ∃ zz, zz = Ec.fa (PRM true) n1 n1 := ⟨_, rfl⟩
 obtain ⟨n10, en10⟩ : ∃ zz, zz = Ec.fa (PRM true) n9 n1 := ⟨_, rfl⟩
 refine Cd.da 8 [0, 0, 3, 3, 0, 3] [(4, wv n9), (6, wv n10)] [(7, ⟨none, limbs4 0, 24⟩)] (fun u7 => [(56, wv n10), (9, pt ((u7 7).n))]) (.cons 4 (fun u7 W S h => add_z en9 (zfm en1) (zfm en1) W (S.x 0 rfl)) <| .cons 6 (fun u7 W S h => add_z en10 (zfa en9) (zfm en1) W (S.x 0 rfl)) <| .nil) fun u7 hu7 => ?_
 refine At.st 0 [] 0 (limbs4 n10) (hu7 7 _ rfl) ?_
 refine At.nx ?_
 refine Cd.seq ?_
 obtain ⟨n11, en11⟩ : ∃ zz, zz = Ec.fm (PRM true) n10 n10 := ⟨_, rfl⟩
 obtain ⟨n12, en12⟩ : ∃ zz, zz = Ec.fa (PRM true) n8 n8 := ⟨_, rfl⟩
 obtain ⟨n13, en13⟩ : ∃ zz, zz = Ec.fs (PRM true) n11 n12 := ⟨_, rfl⟩
 refine Cd.da 11 [0, 0, 0, 0, 0, 0, 1, 1] [(4, wv n11), (8, wv n12), (9, wv n13)] [(10, ⟨none, limbs4 0, 24⟩)] (fun u8 => [(66, wv n13), (10, pt ((u8 10).n))]) (.cons 4 (fun u8 W S h => mul_z en11 (zfa en10) (zfa en10) W (S.x 0 rfl)) <| .cons 8 (fun u8 W S h => add_z en12 (zfa en8) (zfa en8) W (S.x 0 rfl)) <| .cons 9 (fun u8 W S h => sub_z en13 (zfm en11) (zfa en12) W (S.x 0 rfl)) <| .nil) fun u8 hu8 => ?_
 refine At.st 0 [] 0 (limbs4 n13) (hu8 10 _ rfl) ?_
 refine At.nx ?_
 refine Cd.sr ?_
 obtain ⟨n14, en14⟩ : ∃ zz, zz = Ec.fa (PRM true) n3 n3 := ⟨_, rfl⟩
 refine At.call 3 [0, 4, 4] 70 (fun W S => add_z en14 (zfm en3) (zfm en3) W (S.x 0 rfl)) ?_
 refine At.st 0 [] 4 (limbs4 n14) h6 ?_
 refine At.nx ?_
 refine Cd.sr ?_
 obtain ⟨n15, en15⟩ : ∃ zz, zz = Ec.fa (PRM true) n14 n14 := ⟨_, rfl⟩
 refine At.call 3 [0, 4, 4] 74 (fun W S => add_z en15 (zfa en14) (zfa en14) W (S.x 0 rfl)) ?_
 refine At.st 0 [] 4 (limbs4 n15) h6 ?_
 refine At.nx ?_
 refine Cd.seq ?_
 obtain ⟨n16, en16⟩ : ∃ zz, zz = Ec.fs (PRM true) n8 n13 := ⟨_, rfl⟩
 obtain ⟨n17, en17⟩ : ∃ zz, zz = Ec.fm (PRM true) n10 n16 := ⟨_, rfl⟩
 obtain ⟨n18, en18⟩ : ∃ zz, zz = Ec.fa (PRM true) n15 n15 := ⟨_, rfl⟩
 obtain ⟨n19, en19⟩ : ∃ zz, zz = Ec.fs (PRM true) n17 n18 := ⟨_, rfl⟩
 refine Cd.da 14 [0, 0, 1, 0, 2, 0, 0, 0, 0, 4, 4] [(6, wv n16), (7, wv n17), (11, wv n18), (12, wv n19)] [(13, ⟨none, limbs4 0, 24⟩)] (fun u11 => [(87, wv n19), (11, pt ((u11 13).n))]) (.cons 6 (fun u11 W S h => sub_z en16 (zfa en8) (zfs en13) W (S.x 0 rfl)) <| .cons 7 (fun u11 W S h => mul_z en17 (zfa en10) (zfs en16) W (S.x 0 rfl)) <| .cons 11 (fun u11 W S h => add_z en18 (zfa en15) (zfa en15) W (S.x 0 rfl)) <| .cons 12 (fun u11 W S h => sub_z en19 (zfm en17) (zfa en18) W (S.x 0 rfl)) <| .nil) fun u11 hu11 => ?_
 refine At.st 0 [] 0 (limbs4 n19) (hu11 13 _ rfl) ?_
 refine At.nx ?_
 refine Cd.sr ?_
 obtain ⟨n20, en20⟩ : ∃ zz, zz = Ec.fm (PRM true) y z := ⟨_, rfl⟩
 refine At.call 5 [0, 0, 9, 0, 9] 93 (fun W S => mul_z en20 hy hz W (S.x 0 rfl)) ?_
 refine At.new 0 [] 12 (limbs4 0) 24 fun g12 h12 => ?_
 refine At.st 0 [] 0 (limbs4 n20) h12 ?_
 refine At.nx ?_
 refine Cd.seq ?_
 obtain ⟨n21, en21⟩ : ∃ zz, zz = Ec.fa (PRM true) n20 n20 := ⟨_, rfl⟩
 refine Cd.dk 7 [0, 2, 1] [(6, wv n21)] [(94, pt g), (95, wv n13), (96, wv n19), (100, wv n21)] (.cons 6 (fun _ W S _ => add_z en21 (zfm en20) (zfm en20) W (S.x 0 rfl)) <| .nil) ?_
 refine At.st 1 [] 9 (scs g n13 n19 n21) h2 ?_
 refine At.nx ?_
 exact Cd.rv r0 [9] (.agg (scs g n13 n19 n21)) fun W S => ⟨by subst_vars; rfl, S.below⟩
theorem zpl {s t : Ec.Spt} {x2 y2 : Nat} (hx : x2 < W256) (hy : y2 < W256) (h : s = Ec.plN (PRM true) t x2 y2) : s.x < W256 ∧ s.y < W256 ∧ s.z < W256 := by
  unfold Ec.plN at h
  split at h
  · subst h; exact ⟨hx, hy, (by decide : 1 < W256)⟩
  · dsimp only at h
    split at h
    · split at h
      · exact ztw h
      · subst h; exact ⟨(by decide : 0 < W256), (by decide : 0 < W256), (by decide : 0 < W256)⟩
    · subst h; exact ⟨mod_w _, mod_w _, mod_w _⟩
namespace Ec
theorem pl_0 {n x y z x2 y2 : Nat} [NeZero n] (h : z = 0) : plN n ⟨x, y, z⟩ x2 y2 = ⟨x2, y2, 1⟩ := by unfold plN; rw [if_pos h]
theorem pl_t {n x y z x2 y2 : Nat} [NeZero n] (h : z ≠ 0) (h1 : fs n (fm n x2 (fm n z z)) x = 0) (h2 : fs n (fm n y2 (fm n (fm n z z) z)) y = 0) : plN n ⟨x, y, z⟩ x2 y2 = twN n ⟨x, y, z⟩ := by
  unfold plN; rw [if_neg h]; dsimp only; rw [if_pos h1, if_pos h2]
theorem pl_n {n x y z x2 y2 : Nat} [NeZero n] (h : z ≠ 0) (h1 : fs n (fm n x2 (fm n z z)) x = 0) (h2 : fs n (fm n y2 (fm n (fm n z z) z)) y ≠ 0) : plN n ⟨x, y, z⟩ x2 y2 = ⟨0, 0, 0⟩ := by
  unfold plN; rw [if_neg h]; dsimp only; rw [if_pos h1, if_neg h2]
theorem pl_g {n x y z x2 y2 hh r q v X : Nat} [NeZero n] (h : z ≠ 0) (h1 : hh = fs n (fm n x2 (fm n z z)) x) (h2 : hh ≠ 0) (h3 : r = fs n (fm n y2 (fm n (fm n z z) z)) y) (h4 : q = fm n hh hh) (h5 : v = fm n x q) (h6 : X = fs n (fs n (fm n r r) (fm n hh q)) (fa n v v)) :
    plN n ⟨x, y, z⟩ x2 y2 = ⟨X, fs n (fm n r (fs n v X)) (fm n y (fm n hh q)), fm n z hh⟩ := by
  subst h1 h3 h4 h5 h6
  unfold plN; rw [if_neg h]; dsimp only; rw [if_neg h2]
end Ec
set_option maxRecDepth 100000 in
theorem plus_z {g x y z x2 y2 : Nat} {o : Bool} {s : Ec.Spt} (h : s = Ec.plN (PRM true) ⟨x, y, z⟩ x2 y2) (hx : x < W256) (hy : y < W256) (hz : z < W256) (hx2 : x2 < W256) (hy2 : y2 < W256) (w : World) (hr : w.heap[g]? = some (rrow true)) : Calls Try.prog 80 #[.agg (scs g x y z), .agg (pcs x2 y2 o)] w fun e w' => e = .returned (.agg (scs g s.x s.y s.z)) ∧ Below w.heap.size w w' := by
 refine enterQ 112 (fun q => .seq (q 0) (.seq (q 1) (.seq (.seq (q 2) (.cond (.tmp 17) (.seq (q 3) .ret) .skip)) (.seq (q 4) (.seq (q 5) (.seq (q 6) (.seq (.seq (q 7) (.cond (.tmp 55) (.seq (.seq (q 8) (.cond (.tmp 58) (.seq (q 9) .ret) .skip)) (.seq (q 10) .ret)) .skip)) (.seq (q 11) (.seq (q 12) (.seq (q 13) (.seq (q 14) (.seq (q 15) .ret)))))))))))) (Sx.oneX hr) Try.func80 ?_
 refine Cd.sr ?_
 refine At.new 0 [] 2 (scs g x y z) 101 fun g2 h2 => ?_
 refine At.new 0 [] 3 (pcs x2 y2 o) 36 fun g3 h3 => ?_
 refine At.new 0 [] 4 (#[.pointer none] ++ limbs4 0 ++ limbs4 0 ++ limbs4 0) 101 fun g4 h4 => ?_
 refine At.nx ?_
 refine Cd.sr ?_
 refine At.run 3 [0, 2] [(5, pt g)] ?_
 refine At.nx ?_
 refine Cd.seq ?_
 refine Cd.sr ?_
 refine At.call 1 [2] 17 (fun W S => snone_c g x y z hz W) ?_
 refine At.nx ?_
 rcases Bool.eq_false_or_eq_true (decide (z = 0)) with hb | hb
 next =>
  refine Cd.eqv 17 (.bool (decide (z = 0))) (.bool true) (congrArg _ hb) ?_
  refine Cd.ct ?_
  refine Cd.seq ?_
  refine Cd.dk 6 [0, 0, 1, 0, 1] [(5, wv 1)] [(18, pt g), (20, wv x2), (22, wv y2), (23, wv 1)] (.cons 5 (fun _ W S _ => of_n 1 1 rfl (by decide) W) <| .nil) ?_
  refine At.st 1 [] 0 (scs g x2 y2 1) h4 ?_
  refine At.nx ?_
  exact Cd.rv (rt r0) [] (.agg (scs g x2 y2 1)) fun W S => ⟨by rw [h, Ec.pl_0 (of_decide_eq_true hb)], S.below⟩
 next =>
  refine Cd.eqv 17 (.bool (decide (z = 0))) (.bool false) (congrArg _ hb) ?_
  refine Cd.cf ?_
  refine Cd.sk ?_
  show Cd _ _ _ _ _ _ _ _
  refine Cd.sr ?_
  obtain ⟨n1, en1⟩ : ∃ zz, zz = Ec.fm (PRM true) z z := ⟨_, rfl⟩
  refine At.call 5 [0, 0, 2, 0, 2] 30 (fun W S => mul_z en1 hz hz W (S.x 0 rfl)) ?_
  refine At.new 0 [] 6 (limbs4 0) 24 fun g6 h6 => ?_
  refine At.st 0 [] 0 (limbs4 n1) h6 ?_
  refine At.nx ?_
  refine Cd.seq ?_
  obtain ⟨n2, en2⟩ : ∃ zz, zz = Ec.fm (PRM true) x2 n1 := ⟨_, rfl⟩
  obtain ⟨n3, en3⟩ : ∃ zz, zz = Ec.fs (PRM true) n2 x := ⟨_, rfl⟩
  refine Cd.da 10 [0, 0, 0, 2, 0, 0, 0, 3] [(5, wv n2), (8, wv n3)] [(9, ⟨none, limbs4 0, 24⟩)] (fun u5 => [(39, wv n3), (7, pt ((u5 9).n))]) (.cons 5 (fun u5 W S h => mul_z en2 hx2 (zfm en1) W (S.x 0 rfl)) <| .cons 8 (fun u5 W S h => sub_z en3 (zfm en2) hx W (S.x 0 rfl)) <| .nil) fun u5 hu5 => ?_
  refine At.st 0 [] 0 (limbs4 n3) (hu5 9 _ rfl) ?_
  refine At.nx ?_
  refine Cd.seq ?_
  obtain ⟨n4, en4⟩ : ∃ zz, zz = Ec.fm (PRM true) n1 z := ⟨_, rfl⟩
  obtain ⟨n5, en5⟩ : ∃ zz, zz = Ec.fm (PRM true) y2 n4 := ⟨_, rfl⟩
  obtain ⟨n6, en6⟩ : ∃ zz, zz = Ec.fs (PRM true) n5 y := ⟨_, rfl⟩
  refine Cd.da 14 [0, 0, 0, 3, 0, 1, 0, 4, 0, 0, 0, 4] [(8, wv n4), (9, wv n5), (12, wv n6)] [(13, ⟨none, limbs4 0, 24⟩)] (fun u6 => [(52, wv n6), (8, pt ((u6 13).n))]) (.cons 8 (fun u6 W S h => mul_z en4 (zfm en1) hz W (S.x 0 rfl)) <| .cons 9 (fun u6 W S h => mul_z en5 hy2 (zfm en4) W (S.x 0 rfl)) <| .cons 12 (fun u6 W S h => sub_z en6 (zfm en5) hy W (S.x 0 rfl)) <| .nil) fun u6 hu6 => ?_
  refine At.st 0 [] 0 (limbs4 n6) (hu6 13 _ rfl) ?_
  refine At.nx ?_
  refine Cd.seq ?_
  refine Cd.sr ?_
  refine At.run 3 [1] [(55, .bool (weq n3 0))] ?_
  refine At.nx ?_
  rcases Bool.eq_false_or_eq_true (weq n3 0) with hb1 | hb1
  next =>
   refine Cd.eqv 55 (.bool (weq n3 0)) (.bool true) (congrArg _ hb1) ?_
   refine Cd.ct ?_
   refine Cd.seq ?_
   refine Cd.sr ?_
   refine At.run 3 [] [(58, .bool (weq n6 0))] ?_
   refine At.nx ?_
   rcases Bool.eq_false_or_eq_true (weq n6 0) with hb2 | hb2
   next =>
    refine Cd.eqv 58 (.bool (weq n6 0)) (.bool true) (congrArg _ hb2) ?_
    refine Cd.ct ?_
    refine Cd.sr ?_
    obtain ⟨s7, es7⟩ : ∃ zz, zz = Ec.twN (PRM true) ⟨x, y, z⟩ := ⟨_, rfl⟩
    refine At.call 1 [5] 60 (fun W S => twice_z es7 hx hy hz W (S.x 0 rfl)) ?_
    refine At.st 0 [] 3 (scs g s7.x s7.y s7.z) h4 ?_
    refine At.nx ?_
    exact Cd.rv (rt (rt r0)) [3] (.agg (scs g s7.x s7.y s7.z)) fun W S => ⟨by subst_vars; rw [Ec.pl_t (of_decide_eq_false hb) (weq_t hb1 (mod_w _)) (weq_t hb2 (mod_w _))], S.below⟩
   next =>
    refine Cd.eqv 58 (.bool (weq n6 0)) (.bool false) (congrArg _ hb2) ?_
    refine Cd.cf ?_
    refine Cd.sk ?_
    show Cd _ _ _ _ _ _ _ _
    refine Cd.sr ?_
    refine At.st 2 [] 3 (scs g 0 0 0) h4 ?_
    refine At.nx ?_
    exact Cd.rv (rt r0) [3] (.agg (scs g 0 0 0)) fun W S => ⟨by subst_vars; rw [Ec.pl_n (of_decide_eq_false hb) (weq_t hb1 (mod_w _)) (weq_f hb2 (mod_w _))], S.below⟩
  next =>
   refine Cd.eqv 55 (.bool (weq n3 0)) (.bool false) (congrArg _ hb1) ?_
   refine Cd.cf ?_
   refine Cd.sk ?_
   show Cd _ _ _ _ _ _ _ _
   refine Cd.sr ?_
   obtain ⟨n8, en8⟩ : ∃ zz, zz = Ec.fm (PRM true) n3 n3 := ⟨_, rfl⟩
   refine At.call 3 [0, 1, 1] 66 (fun W S => mul_z en8 (zfs en3) (zfs en3) W (S.x 0 rfl)) ?_
   refine At.new 0 [] 9 (limbs4 0) 24 fun g9 h9 => ?_
   refine At.st 0 [] 0 (limbs4 n8) h9 ?_
   refine At.nx ?_
   refine Cd.seq ?_
   obtain ⟨n9, en9⟩ : ∃ zz, zz = Ec.fm (PRM true) n3 n8 := ⟨_, rfl⟩
   obtain ⟨n10, en10⟩ : ∃ zz, zz = Ec.fm (PRM true) x n8 := ⟨_, rfl⟩
   refine Cd.da 11 [0, 2, 0, 0, 0, 0, 6] [(3, wv n9), (8, wv n10)] [(9, ⟨none, limbs4 0, 24⟩), (10, ⟨none, limbs4 0, 24⟩)] (fun u12 => [(70, wv n9), (75, wv n10), (10, pt ((u12 9).n)), (11, pt ((u12 10).n))]) (.cons 3 (fun u12 W S h => mul_z en9 (zfs en3) (zfm en8) W (S.x 0 rfl)) <| .cons 8 (fun u12 W S h => mul_z en10 hx (zfm en8) W (S.x 0 rfl)) <| .nil) fun u12 hu12 => ?_
   refine At.st 0 [] 0 (limbs4 n9) (hu12 9 _ rfl) ?_
   refine At.st 0 [] 1 (limbs4 n10) (hu12 10 _ rfl) ?_
   refine At.nx ?_
   refine Cd.seq ?_
   obtain ⟨n11, en11⟩ : ∃ zz, zz = Ec.fm (PRM true) n6 n6 := ⟨_, rfl⟩
   obtain ⟨n12, en12⟩ : ∃ zz, zz = Ec.fs (PRM true) n11 n9 := ⟨_, rfl⟩
   obtain ⟨n13, en13⟩ : ∃ zz, zz = Ec.fa (PRM true) n10 n10 := ⟨_, rfl⟩
   obtain ⟨n14, en14⟩ : ∃ zz, zz = Ec.fs (PRM true) n12 n13 := ⟨_, rfl⟩
   refine Cd.da 14 [0, 0, 0, 3, 3, 0, 0, 0, 0, 1, 1] [(5, wv n11), (7, wv n12), (11, wv n13), (12, wv n14)] [(13, ⟨none, limbs4 0, 24⟩)] (fun u13 => [(88, wv n14), (12, pt ((u13 13).n))]) (.cons 5 (fun u13 W S h => mul_z en11 (zfs en6) (zfs en6) W (S.x 0 rfl)) <| .cons 7 (fun u13 W S h => sub_z en12 (zfm en11) (zfm en9) W (S.x 0 rfl)) <| .cons 11 (fun u13 W S h => add_z en13 (zfm en10) (zfm en10) W (S.x 0 rfl)) <| .cons 12 (fun u13 W S h => sub_z en14 (zfs en12) (zfa en13) W (S.x 0 rfl)) <| .nil) fun u13 hu13 => ?_
   refine At.st 0 [] 0 (limbs4 n14) (hu13 13 _ rfl) ?_
   refine At.nx ?_
   refine Cd.seq ?_
   obtain ⟨n15, en15⟩ : ∃ zz, zz = Ec.fs (PRM true) n10 n14 := ⟨_, rfl⟩
   obtain ⟨n16, en16⟩ : ∃ zz, zz = Ec.fm (PRM true) n6 n15 := ⟨_, rfl⟩
   obtain ⟨n17, en17⟩ : ∃ zz, zz = Ec.fm (PRM true) y n9 := ⟨_, rfl⟩
   obtain ⟨n18, en18⟩ : ∃ zz, zz = Ec.fs (PRM true) n16 n17 := ⟨_, rfl⟩
   refine Cd.da 15 [0, 0, 4, 0, 2, 0, 0, 0, 0, 0, 9, 1] [(6, wv n15), (7, wv n16), (12, wv n17), (13, wv n18)] [(14, ⟨none, limbs4 0, 24⟩)] (fun u14 => [(102, wv n18), (13, pt ((u14 14).n))]) (.cons 6 (fun u14 W S h => sub_z en15 (zfm en10) (zfs en14) W (S.x 0 rfl)) <| .cons 7 (fun u14 W S h => mul_z en16 (zfs en6) (zfs en15) W (S.x 0 rfl)) <| .cons 12 (fun u14 W S h => mul_z en17 hy (zfm en9) W (S.x 0 rfl)) <| .cons 13 (fun u14 W S h => sub_z en18 (zfm en16) (zfm en17) W (S.x 0 rfl)) <| .nil) fun u14 hu14 => ?_
   refine At.st 0 [] 0 (limbs4 n18) (hu14 14 _ rfl) ?_
   refine At.nx ?_
   refine Cd.seq ?_
   obtain ⟨n19, en19⟩ : ∃ zz, zz = Ec.fm (PRM true) z n3 := ⟨_, rfl⟩
   refine Cd.dk 8 [0, 1, 0, 0, 0, 10, 6] [(7, wv n19)] [(103, pt g), (104, wv n14), (105, wv n18), (110, wv n19)] (.cons 7 (fun _ W S _ => mul_z en19 hz (zfs en3) W (S.x 0 rfl)) <| .nil) ?_
   refine At.st 1 [] 8 (scs g n14 n18 n19) h4 ?_
   refine At.nx ?_
   exact Cd.rv r0 [8] (.agg (scs g n14 n18 n19)) fun W S => ⟨by subst_vars; rw [Ec.pl_g (of_decide_eq_false hb) rfl (weq_f hb1 (mod_w _)) rfl rfl rfl rfl], S.below⟩
theorem ierr_t {p : Bool} {a : Nat} (h : (ierr p a != 0) = true) : a % PRM p = 0 := by
  unfold ierr at h; split at h
  · assumption
  · cases h
theorem ierr_f {p : Bool} {a : Nat} (h : (ierr p a != 0) = false) : ¬ a % PRM p = 0 := by
  unfold ierr at h; split at h
  · cases h
  · assumption
set_option maxRecDepth 100000 in
theorem point_z {g x y z : Nat} {a : Pn} (h : a = Ec.ptN ⟨x, y, z⟩) (hx : x < W256) (hy : y < W256) (hz : z < W256) (w : World) (hr : w.heap[g]? = some (rrow true)) : Calls Try.prog 81 #[.agg (scs g x y z)] w fun e w' => e = .returned (.agg (pcs a.x a.y a.o)) ∧ Below w.heap.size w w' := by
 refine enterQ 37 (fun q => .seq (q 0) (.seq (q 1) (.seq (q 2) (.seq (.seq (q 3) (.cond (.tmp 17) (.seq (q 4) .ret) .skip)) (.seq (q 5) (.seq (q 6) .ret)))))) (Sx.oneX hr) Try.func81 ?_
 refine Cd.sr ?_
 refine At.new 0 [] 1 (scs g x y z) 101 fun g1 h1 => ?_
 refine At.new 0 [] 2 (pcs 0 0 false) 36 fun g2 h2 => ?_
 refine At.nx ?_
 refine Cd.sr ?_
 refine At.run 3 [0, 1] [(3, pt g)] ?_
 refine At.nx ?_
 refine Cd.sr ?_
 obtain ⟨n1, en1⟩ : ∃ zz, zz = Ec.ivN true z := ⟨_, rfl⟩
 refine At.call 3 [0, 0, 1] 13 (fun W S => inv_z en1 hz W (S.x 0 rfl)) ?_
 refine At.run 3 [] [(14, wv n1), (15, .int .i64 (ierr true z))] ?_
 refine At.new 0 [] 4 (limbs4 0) 24 fun g4 h4 => ?_
 refine At.st 0 [] 0 (limbs4 n1) h4 ?_
 refine At.run 1 [] [(5, .int .i64 (ierr true z))] ?_
 refine At.nx ?_
 refine Cd.seq ?_
 refine Cd.sr ?_
 refine At.run 2 [] [(17, .bool ((ierr true z) != 0))] ?_
 refine At.nx ?_
 rcases Bool.eq_false_or_eq_true ((ierr true z) != 0) with hb | hb
 next =>
  refine Cd.eqv 17 (.bool ((ierr true z) != 0)) (.bool true) (congrArg _ hb) ?_
  refine Cd.ct ?_
  refine Cd.sr ?_
  refine At.call 0 [] 18 (fun W S => cnone_c W) ?_
  refine At.st 0 [] 1 (pcs 0 0 true) h2 ?_
  refine At.nx ?_
  exact Cd.rv (rt r0) [1] (.agg (pcs 0 0 true)) fun W S => ⟨by subst_vars; unfold Ec.ptN; rw [if_pos (ierr_t hb)], S.below⟩
 next =>
  refine Cd.eqv 17 (.bool ((ierr true z) != 0)) (.bool false) (congrArg _ hb) ?_
  refine Cd.cf ?_
  refine Cd.sk ?_
  show Cd _ _ _ _ _ _ _ _
  refine Cd.sr ?_
  obtain ⟨n2, en2⟩ : ∃ zz, zz = Ec.fm (PRM true) n1 n1 := ⟨_, rfl⟩
  refine At.call 3 [] 22 (fun W S => mul_z en2 (ziv en1) (ziv en1) W (S.x 0 rfl)) ?_
  refine At.new 0 [] 6 (limbs4 0) 24 fun g6 h6 => ?_
  refine At.st 0 [] 0 (limbs4 n2) h6 ?_
  refine At.nx ?_
  refine Cd.seq ?_
  obtain ⟨n3, en3⟩ : ∃ zz, zz = Ec.fm (PRM true) x n2 := ⟨_, rfl⟩
  obtain ⟨n4, en4⟩ : ∃ zz, zz = Ec.fm (PRM true) n2 n1 := ⟨_, rfl⟩
  refine Cd.dk 12 [0, 0, 3, 0, 0, 0, 0, 3, 0, 0, 1] [(4, wv n3), (11, wv n4)] [(27, wv n3), (28, pt g), (30, wv y), (34, wv n4)] (.cons 4 (fun _ W S _ => mul_z en3 hx (zfm en2) W (S.x 0 rfl)) <| .cons 11 (fun _ W S _ => mul_z en4 (zfm en2) (ziv en1) W (S.x 0 rfl)) <| .nil) ?_
  obtain ⟨n5, en5⟩ : ∃ zz, zz = Ec.fm (PRM true) y n4 := ⟨_, rfl⟩
  refine At.call 0 [] 35 (fun W S => mul_z en5 hy (zfm en4) W (S.x 0 rfl)) ?_
  refine At.st 1 [] 2 (pcs n3 n5 false) h2 ?_
  refine At.nx ?_
  exact Cd.rv r0 [2] (.agg (pcs n3 n5 false)) fun W S => ⟨by subst_vars; unfold Ec.ptN; rw [if_neg (ierr_f hb)], S.below⟩
def Ec.ngN (y : Nat) : Nat := fs (PRM true) 0 y
/-- Is it on the curve? -/
def Ec.onN (x y : Nat) (o : Bool) : Bool := if o = true then decide (x = 0 ∧ y = 0) else decide (x < PRM true ∧ y < PRM true ∧ fm (PRM true) y y = sdN (PRM true) x)
theorem in_t {p : Bool} {g a : Nat} (h : a < PRM p) (W : World) (hr : W.heap[g]? = some (rrow p)) : Calls Try.prog 56 #[pt g, wv a] W fun e w' => e = .returned (.bool true) ∧ Below W.heap.size W w' := (in_c g a p (prm_w h) W hr).mono fun _ _ h' => by rw [decide_eq_true h] at h'; exact h'
theorem in_f {p : Bool} {g a : Nat} (h : ¬ a < PRM p) (ha : a < W256) (W : World) (hr : W.heap[g]? = some (rrow p)) : Calls Try.prog 56 #[pt g, wv a] W fun e w' => e = .returned (.bool false) ∧ Below W.heap.size W w' := (in_c g a p ha W hr).mono fun _ _ h' => by rw [decide_eq_false h] at h'; exact h'
theorem on_o {x y : Nat} {o : Bool} (h : o = true) (hx : x < W256) (hy : y < W256) : (weq x 0 && (weq y 0 && ((o == true) && true))) = Ec.onN x y o := by
  unfold Ec.onN; rw [if_pos h, weq_decide hx (by decide), weq_decide hy (by decide), h]; simp
theorem on_n {x y : Nat} {o r : Bool} (h : o = false) (hr : r = decide (x < PRM true ∧ y < PRM true ∧ Ec.fm (PRM true) y y = Ec.sdN (PRM true) x)) : r = Ec.onN x y o := by
  unfold Ec.onN; rw [if_neg (by rw [h]; decide), hr]
set_option maxRecDepth 100000 in
theorem con_c {x y : Nat} {o : Bool} (hx : x < W256) (hy : y < W256) (w : World) : Calls Try.prog 49 #[.agg (pcs x y o)] w fun e w' => e = .returned (.bool (Ec.onN x y o)) ∧ Below w.heap.size w w' := by
 refine enterQ 33 (fun q => .seq (q 0) (.seq (q 1) (.seq (.seq (q 2) (.cond (.tmp 6) (.seq (q 3) .ret) .skip)) (.seq (q 4) .ret)))) (Sx.nil w) Try.func49 ?_
 refine Cd.sr ?_
 refine At.new 0 [] 1 (pcs x y o) 36 fun g1 h1 => ?_
 refine At.run 1 [] [] ?_
 refine At.nx ?_
 refine Cd.sr ?_
 refine At.callX 0 [] 4 (fun W S => P_x (by kernel_rfl) rfl W S) fun gp1 => ?_
 refine At.run 1 [] [(3, pt gp1)] ?_
 refine At.nx ?_
 refine Cd.seq ?_
 refine Cd.sr ?_
 refine At.run 2 [] [(6, .bool o)] ?_
 refine At.nx ?_
 rcases Bool.eq_false_or_eq_true o with hb | hb
 next =>
  refine Cd.eqv 6 (.bool o) (.bool true) (congrArg _ hb) ?_
  refine Cd.ct ?_
  refine Cd.seq ?_
  refine Cd.dk 2 [] [(1, .agg (pcs 0 0 true))] [(7, .agg (pcs x y o)), (8, .agg (pcs 0 0 true))] (.cons 1 (fun _ W S _ => cnone_c W) <| .nil) ?_
  refine At.run 2 [] [(2, .bool (weq x 0 && (weq y 0 && ((o == true) && true))))] ?_
  refine At.nx ?_
  exact Cd.rv (rt r0) [] (.bool (weq x 0 && (weq y 0 && ((o == true) && true)))) fun W S => ⟨by rw [on_o hb hx hy], S.below⟩
 next =>
  refine Cd.eqv 6 (.bool o) (.bool false) (congrArg _ hb) ?_
  refine Cd.cf ?_
  refine Cd.sk ?_
  show Cd _ _ _ _ _ _ _ _
  by_cases hx1 : x < PRM true
  next =>
   by_cases hy1 : y < PRM true
   next =>
    refine Cd.seq ?_
    obtain ⟨n2, en2⟩ : ∃ zz, zz = Ec.fm (PRM true) y y := ⟨_, rfl⟩
    refine Cd.dk 20 [] [(3, .bool true), (8, .bool true), (16, wv n2)] [(20, .bool true), (26, wv n2), (27, pt gp1), (29, wv x)] (.cons 3 (fun _ W S _ => in_t hx1 W (S.x 0 rfl)) <| .cons 8 (fun _ W S _ => in_t hy1 W (S.x 0 rfl)) <| .cons 16 (fun _ W S _ => mul_z en2 hy hy W (S.x 0 rfl)) <| .nil) ?_
    obtain ⟨n3, en3⟩ : ∃ zz, zz = Ec.sdN (PRM true) x := ⟨_, rfl⟩
    refine At.call 0 [] 30 (fun W S => side_z en3 hx W (S.x 0 rfl)) ?_
    refine At.run 3 [] [(2, .bool (weq n2 n3))] ?_
    refine At.nx ?_
    exact Cd.rv r0 [] (.bool (weq n2 n3)) fun W S => ⟨congrArg (fun b => Ending.returned (.bool b)) (by rw [weq_decide (zfm en2) (zsd en3), en2, en3]; exact on_n hb (by simp [hx1, hy1])), S.below⟩
   next =>
    refine Cd.seq ?_
    refine Cd.dk 20 [] [(3, .bool true), (8, .bool false)] [(20, .bool false), (26, undef), (27, undef), (29, undef)] (.cons 3 (fun _ W S _ => in_t hx1 W (S.x 0 rfl)) <| .cons 8 (fun _ W S _ => in_f hy1 hy W (S.x 0 rfl)) <| .nil) ?_
    refine At.run 4 [] [(2, .bool false)] ?_
    refine At.nx ?_
    exact Cd.rv r0 [] (.bool false) fun W S => ⟨by rw [← on_n hb (decide_eq_false fun h => hy1 h.2.1).symm], S.below⟩
  next =>
   refine Cd.seq ?_
   refine Cd.dk 20 [] [(3, .bool false)] [(20, .bool false), (26, undef), (27, undef), (29, undef)] (.cons 3 (fun _ W S _ => in_f hx1 hx W (S.x 0 rfl)) <| .nil) ?_
   refine At.run 4 [] [(2, .bool false)] ?_
   refine At.nx ?_
   exact Cd.rv r0 [] (.bool false) fun W S => ⟨by rw [← on_n hb (decide_eq_false fun h => hx1 h.1).symm], S.below⟩
end Go.Proofs.Ytknoamaapnbibaa
namespace Go.Proofs.Ytknoamaapnbibaa
open Go.RowKit
namespace Ec
end Ec
theorem quo64 (i : Nat) (h : i < 256) : IntKind.i64.wrap (Int.tdiv (i : Int) 64) = ((i / 64 : Nat) : Int) := by
  rw [show ((64 : Int)) = ((64 : Nat) : Int) from rfl, ← Int.ofNat_tdiv, IntKind.wrap_i64]; omega
theorem rem64 (i : Nat) : Int.tmod (i : Int) 64 = ((i % 64 : Nat) : Int) := by
  rw [show ((64 : Int)) = ((64 : Nat) : Int) from rfl, ← Int.ofNat_tmod]
theorem shr64 (k r : Nat) (h : r < 64) : Int.fdiv (k : Int) (2 ^ min r 64) = ((k / 2 ^ r : Nat) : Int) := by
  rw [Nat.min_eq_left (by omega), show ((2 : Int) ^ r) = ((2 ^ r : Nat) : Int) by simp, Int.ofNat_fdiv]
theorem beq1 (n : Nat) : ((n : Int) == 1) = decide (n = 1) := by
  rw [Bool.eq_iff_iff]; simp
  omega
theorem limb_cell {W : World} {g i : Nat} {ty : TypeId} {fr : Nat × Nat} (k : Nat) (h : W.heap[g]? = some (.cells (limbs4 k) ty fr)) (hi : i < 4) : W.cell? ⟨g, 0 + i * 1, none⟩ = some (.int .u64 (limb k i : Nat)) := by
  rw [cell_of_row _ _ _ _ _ _ h, Nat.zero_add, Nat.mul_one]
  match i, hi with
  | 0, _ => rfl
  | 1, _ => rfl
  | 2, _ => rfl
  | 3, _ => rfl
set_option maxRecDepth 100000 in
theorem bit_c (k i : Nat) (hi : i < 256) (w : World) : Calls Try.prog 79 #[wv k, .int .i64 (i : Int)] w fun e w' => e = .returned (.bool (decide (k / 2 ^ i % 2 = 1))) ∧ Below w.heap.size w w' := by
 refine enterQ 14 (fun q => .seq (q 0) (.seq (q 1) .ret)) (Sx.nil w) Try.func79 ?_
 refine Cd.sr ?_
 refine At.new 0 [] 2 (limbs4 k) 24 fun g2 h2 => ?_
 refine At.run 1 [] [] ?_
 refine At.nx ?_
 refine Cd.sr ?_
 refine At.run 1 [] [(5, .int .i64 (i : Int))] ?_
 have hq := quo64 i hi
 refine At.ar 1 [] 6 (.int .i64 (IntKind.i64.wrap (Int.tdiv (i : Int) 64))) (.int .i64 ((i / 64 : Nat) : Int)) (congrArg _ hq) ?_
 refine At.ixa 0 [] 7 4 1 g2 0 .i64 (i / 64) (by omega) ?_
 refine At.ld 0 [] 8 g2 (0 + i / 64 * 1) (.int .u64 (limb k (i / 64) : Nat)) (fun W S => limb_cell k (S.at 0 rfl) (by omega)) ?_
 refine At.ar 2 [] 10 (.int .i64 (Int.tmod (i : Int) 64)) (.int .i64 ((i % 64 : Nat) : Int)) (congrArg _ (rem64 i)) ?_
 refine At.bin 0 [] 11 .shr (.int .u64 (limb k (i / 64) : Nat)) (.int .i64 ((i % 64 : Nat) : Int)) (.int .u64 ((limb k (i / 64) / 2 ^ (i % 64) : Nat) : Int)) (fun t W => (run_shr t W).trans (by rw [show IntKind.u64.bits = 64 from rfl, shr64 (limb k (i / 64)) (i % 64) (by omega)])) ?_
 refine At.ar 1 [] 12 (.int .u64 (bits .and .u64 ((limb k (i / 64) / 2 ^ (i % 64) : Nat) : Int) 1)) (.int .u64 ((k / 2 ^ i % 2 : Nat) : Int)) (congrArg _ ((and_one _ (Nat.lt_of_le_of_lt (Nat.div_le_self _ _) (limb_lt _ _))).trans (by rw [limb_bit]))) ?_
 refine At.run 2 [] [(4, .bool (((k / 2 ^ i % 2 : Nat) : Int) == 1))] ?_
 refine At.nx ?_
 exact Cd.rv r0 [] (.bool (((k / 2 ^ i % 2 : Nat) : Int) == 1)) fun W S => ⟨by rw [beq1], S.below⟩
namespace Ec
/-- A round of Both: the i-th bits. -/
def boR (k m ax ay i : Nat) (s : Spt) : Spt :=
  if m / 2 ^ i % 2 = 1 then plN (PRM true) (if k / 2 ^ i % 2 = 1 then plN (PRM true) (twN (PRM true) s) GX GY else twN (PRM true) s) ax ay
  else if k / 2 ^ i % 2 = 1 then plN (PRM true) (twN (PRM true) s) GX GY else twN (PRM true) s
/-- The spot behind t rounds of n. -/
def boN (k m ax ay n : Nat) : Nat → Spt
  | 0 => ⟨0, 0, 0⟩
  | t + 1 => boR k m ax ay (n - 1 - t) (boN k m ax ay n t)
theorem bo_next {k m ax ay n r : Nat} {s : Spt} (hr : r + 1 ≤ n) (hs : s = boN k m ax ay n (n - (r + 1))) : boN k m ax ay n (n - r) = boR k m ax ay r s := by
  rw [hs, show n - r = (n - (r + 1)) + 1 by omega, boN, show n - 1 - (n - (r + 1)) = r by omega]
/-- The base k times, and A m times. -/
def btN (k m : Nat) (A : Pn) : Pn :=
  let m' := if A.o then 0 else m
  ptN (boN k m' A.x A.y (max (blen k) (blen m')) (max (blen k) (blen m')))
end Ec
theorem zbr {k m ax ay i : Nat} {s t : Ec.Spt} (hx : ax < W256) (hy : ay < W256) (h : s = Ec.boR k m ax ay i t) : s.x < W256 ∧ s.y < W256 ∧ s.z < W256 := by
  unfold Ec.boR at h
  split at h
  · exact zpl hx hy h
  · split at h
    · exact zpl gx_w gy_w h
    · exact ztw h
theorem zbo {k m ax ay n : Nat} {s : Ec.Spt} (hx : ax < W256) (hy : ay < W256) : ∀ {t : Nat}, s = Ec.boN k m ax ay n t → s.x < W256 ∧ s.y < W256 ∧ s.z < W256
  | 0, h => by subst h; exact ⟨(by decide : 0 < W256), (by decide : 0 < W256), (by decide : 0 < W256)⟩
  | t + 1, h => zbr hx hy h
theorem max_if (a b : Nat) : (if ((b : Nat) : Int) > ((a : Nat) : Int) then ((b : Nat) : Int) else ((a : Nat) : Int)) = ((max a b : Nat) : Int) := by split <;> omega
theorem sub1 (n : Nat) (h : n ≤ 256) : IntKind.i64.wrap (((n : Nat) : Int) - 1) = ((n : Nat) : Int) - 1 := by rw [IntKind.wrap_i64]; omega
theorem bl256 {a : Nat} (h : a < W256) : blen a ≤ 256 := (blen_le_iff a 256).2 (by rw [← W256_pow]; exact h)
theorem bits_z {a : Nat} (h : a < W256) (W : World) : Calls Try.prog 77 #[wv a] W fun e w' => e = .returned (.int .i64 ((blen a : Nat) : Int)) ∧ Below W.heap.size W w' := bits_c a h W
theorem bo_tt {k m ax ay i : Nat} {s : Ec.Spt} (h1 : decide (k / 2 ^ i % 2 = 1) = true) (h2 : decide (m / 2 ^ i % 2 = 1) = true) : Ec.boR k m ax ay i s = Ec.plN (PRM true) (Ec.plN (PRM true) (Ec.twN (PRM true) s) Ec.GX Ec.GY) ax ay := by unfold Ec.boR; rw [if_pos (of_decide_eq_true h2), if_pos (of_decide_eq_true h1)]
theorem bo_tf {k m ax ay i : Nat} {s : Ec.Spt} (h1 : decide (k / 2 ^ i % 2 = 1) = true) (h2 : decide (m / 2 ^ i % 2 = 1) = false) : Ec.boR k m ax ay i s = Ec.plN (PRM true) (Ec.twN (PRM true) s) Ec.GX Ec.GY := by unfold Ec.boR; rw [if_neg (of_decide_eq_false h2), if_pos (of_decide_eq_true h1)]
theorem bo_ft {k m ax ay i : Nat} {s : Ec.Spt} (h1 : decide (k / 2 ^ i % 2 = 1) = false) (h2 : decide (m / 2 ^ i % 2 = 1) = true) : Ec.boR k m ax ay i s = Ec.plN (PRM true) (Ec.twN (PRM true) s) ax ay := by unfold Ec.boR; rw [if_pos (of_decide_eq_true h2), if_neg (of_decide_eq_false h1)]
theorem bo_ff {k m ax ay i : Nat} {s : Ec.Spt} (h1 : decide (k / 2 ^ i % 2 = 1) = false) (h2 : decide (m / 2 ^ i % 2 = 1) = false) : Ec.boR k m ax ay i s = Ec.twN (PRM true) s := by unfold Ec.boR; rw [if_neg (of_decide_eq_false h2), if_neg (of_decide_eq_false h1)]
set_option maxRecDepth 100000 in
theorem both_z {k m : Nat} {a c : Pn} (h : c = Ec.btN k m a) (hk : k < W256) (hm : m < W256) (ha : a.x < W256 ∧ a.y < W256) (w : World) : Calls Try.prog 50 #[wv k, wv m, pnv a] w fun e w' => e = .returned (pnv c) ∧ Below w.heap.size w w' := by
 refine enterQ 40 (fun q => .seq (q 0) (.seq (q 1) (.seq (.seq (q 2) (.cond (.tmp 12) (q 3) .skip)) (.seq (.seq (q 4) (.block 0 (.loop (.seq (.seq (q 5) (.cond (.tmp 21) .skip (.exit 0))) (.seq (.block 1 (.seq (q 7) (.seq (.seq (q 8) (.cond (.tmp 28) (q 9) .skip)) (.seq (q 10) (.cond (.tmp 34) (q 11) .skip))))) (q 6)))))) (.seq (q 12) .ret))))) (Sx.nil w) Try.func50 ?_
 refine Cd.sr ?_
 refine At.new 0 [] 3 (limbs4 k) 24 fun g3 h3 => ?_
 refine At.new 0 [] 4 (limbs4 m) 24 fun g4 h4 => ?_
 refine At.new 0 [] 5 (pcs a.x a.y a.o) 36 fun g5 h5 => ?_
 refine At.new 0 [] 6 (pcs 0 0 false) 36 fun g6 h6 => ?_
 refine At.nx ?_
 refine Cd.sr ?_
 refine At.callX 0 [] 9 (fun W S => P_x (by kernel_rfl) rfl W S) fun gp1 => ?_
 refine At.run 1 [] [(10, .agg (scs gp1 0 0 0))] ?_
 refine At.new 0 [] 7 (#[.pointer none] ++ limbs4 0 ++ limbs4 0 ++ limbs4 0) 101 fun g7 h7 => ?_
 refine At.st 0 [] 0 (scs gp1 0 0 0) h7 ?_
 refine At.nx ?_
 refine Cd.seqj (ι := {m' : Nat // m' < W256 ∧ (a.o = true → m' = 0) ∧ (a.o = false → m' = m)}) (fun q => [(0, wv k), (1, wv m), (2, .agg (pcs a.x a.y a.o)), (3, pt g3), (4, pt g4), (5, pt g5), (6, pt g6), (7, pt g7), (9, pt gp1), (10, .agg (scs gp1 0 0 0))]) (fun q => [(g7, .cells (scs gp1 0 0 0) 101 (0, 0)), (g6, .cells (pcs 0 0 false) 36 (0, 0)), (g5, .cells (pcs a.x a.y a.o) 36 (0, 0)), (g4, .cells (limbs4 q.1) 24 (0, 0)), (g3, .cells (limbs4 k) 24 (0, 0))]) (fun q => [xrow gp1 (rrow true)]) (fun q => ?_) ?_
 next =>
  obtain ⟨m', hm', ho1, ho2⟩ := q
  have hmm : m' = if a.o then 0 else m := by cases ho : a.o <;> simp [ho] at ho1 ho2 <;> simp [ho1, ho2]
  obtain ⟨n, hn⟩ : ∃ n, n = max (blen k) (blen m') := ⟨_, rfl⟩
  have hn2 : n ≤ 256 := by have := bl256 hk; have := bl256 hm'; omega
  refine Cd.seq ?_
  refine Cd.seq ?_
  refine Cd.dk 3 [4, 0, 3] [(1, .int .i64 ((blen k : Nat) : Int))] [(15, .int .i64 ((blen k : Nat) : Int)), (16, wv m')] (.cons 1 (fun _ W S _ => bits_z hk W) <| .nil) ?_
  refine At.call 0 [] 17 (fun W S => bits_z hm' W) ?_
  refine At.ar 1 [] 18 (.int .i64 (if ((blen m' : Nat) : Int) > ((blen k : Nat) : Int) then ((blen m' : Nat) : Int) else ((blen k : Nat) : Int))) (.int .i64 ((n : Nat) : Int)) (congrArg _ ((max_if _ _).trans (by rw [hn]))) ?_
  refine At.ar 1 [] 19 (.int .i64 (IntKind.i64.wrap (((n : Nat) : Int) - 1))) (.int .i64 (((n : Nat) : Int) - 1)) (congrArg _ (sub1 n hn2)) ?_
  refine At.run 1 [] [(8, .int .i64 (((n : Nat) : Int) - 1))] ?_
  refine At.nx ?_
  refine Cd.blk ?_
  refine Cd.loop (ι := {q : Nat × Ec.Spt // q.1 ≤ n ∧ q.2 = Ec.boN k m' a.x a.y n (n - q.1)}) (fun q => q.1.1) (fun q => [(3, pt g3), (4, pt g4), (5, pt g5), (6, pt g6), (7, pt g7), (8, .int .i64 (((q.1.1 : Nat) : Int) - 1))]) (fun q => [(g7, .cells (scs gp1 q.1.2.x q.1.2.y q.1.2.z) 101 (0, 0)), (g6, .cells (pcs 0 0 false) 36 (0, 0)), (g5, .cells (pcs a.x a.y a.o) 36 (0, 0)), (g4, .cells (limbs4 m') 24 (0, 0)), (g3, .cells (limbs4 k) 24 (0, 0))]) (fun q => [xrow gp1 (rrow true)]) (⟨(n, ⟨0, 0, 0⟩), Nat.le_refl _, by rw [Nat.sub_self]; rfl⟩) (fun _ S => S) (fun q => ?_) 
  obtain ⟨⟨r, s⟩, hr, hs⟩ := q
  dsimp only at hr hs
  have hsw := zbo ha.1 ha.2 hs
  refine Cd.seq ?_
  refine Cd.sr ?_
  refine At.run 2 [] [(21, .bool (decide ((((r : Nat) : Int) - 1) ≥ 0)))] ?_
  refine At.nx ?_
  rcases Bool.eq_false_or_eq_true (decide ((((r : Nat) : Int) - 1) ≥ 0)) with hb | hb
  next =>
   refine Cd.eqv 21 (.bool (decide ((((r : Nat) : Int) - 1) ≥ 0))) (.bool true) (congrArg _ hb) ?_
   refine Cd.ct ?_
   refine Cd.sk ?_
   show Cd _ _ _ _ _ _ _ _
   refine Cd.seq ?_
   refine Cd.blk ?_
   obtain ⟨r0, rfl⟩ : ∃ x, r = x + 1 := ⟨r - 1, by have := of_decide_eq_true hb; omega⟩
   refine Cd.eqv 8 (.int .i64 (((r0 + 1 : Nat) : Int) - 1)) (.int .i64 ((r0 : Nat) : Int)) (congrArg _ (by omega)) ?_
   refine Cd.sr ?_
   obtain ⟨s2, es2⟩ : ∃ zz, zz = Ec.twN (PRM true) s := ⟨_, rfl⟩
   refine At.call 1 [] 25 (fun W S => twice_z es2 hsw.1 hsw.2.1 hsw.2.2 W (S.x 0 rfl)) ?_
   refine At.st 0 [] 0 (scs gp1 s2.x s2.y s2.z) h7 ?_
   refine At.nx ?_
   refine Cd.seq ?_
   refine Cd.sr ?_
   refine At.call 2 [4] 28 (fun W S => bit_c k r0 (by omega) W) ?_
   refine At.nx ?_
   rcases Bool.eq_false_or_eq_true (decide (k / 2 ^ r0 % 2 = 1)) with hb1 | hb1
   next =>
    refine Cd.eqv 28 (.bool (decide (k / 2 ^ r0 % 2 = 1))) (.bool true) (congrArg _ hb1) ?_
    refine Cd.ct ?_
    refine Cd.dk 2 [] [(1, .agg (pcs Ec.GX Ec.GY false))] [(29, .agg (scs gp1 s2.x s2.y s2.z)), (30, .agg (pcs Ec.GX Ec.GY false))] (.cons 1 (fun _ W S _ => cbase_c W) <| .nil) ?_
    obtain ⟨s3, es3⟩ : ∃ zz, zz = Ec.plN (PRM true) s2 Ec.GX Ec.GY := ⟨_, rfl⟩
    refine At.call 0 [] 31 (fun W S => plus_z (o := false) es3 (ztw es2).1 (ztw es2).2.1 (ztw es2).2.2 gx_w gy_w W (S.x 0 rfl)) ?_
    refine At.st 0 [] 0 (scs gp1 s3.x s3.y s3.z) h7 ?_
    refine At.fin ?_
    show Cd _ _ _ _ _ _ _ _
    refine Cd.sr ?_
    refine At.call 2 [3] 34 (fun W S => bit_c m' r0 (by omega) W) ?_
    refine At.nx ?_
    rcases Bool.eq_false_or_eq_true (decide (m' / 2 ^ r0 % 2 = 1)) with hb2 | hb2
    next =>
     refine Cd.eqv 34 (.bool (decide (m' / 2 ^ r0 % 2 = 1))) (.bool true) (congrArg _ hb2) ?_
     refine Cd.ct ?_
     refine Cd.rg ?_
     obtain ⟨s4, es4⟩ : ∃ zz, zz = Ec.plN (PRM true) s3 a.x a.y := ⟨_, rfl⟩
     refine At.call 2 [0, 2] 37 (fun W S => plus_z (o := a.o) es4 (zpl gx_w gy_w es3).1 (zpl gx_w gy_w es3).2.1 (zpl gx_w gy_w es3).2.2 ha.1 ha.2 W (S.x 0 rfl)) ?_
     refine At.st 0 [] 0 (scs gp1 s4.x s4.y s4.z) h7 ?_
     refine At.fin ?_
     show Cd _ _ _ _ _ _ _ _
     refine Cd.rg ?_
     refine At.ar 2 [] 23 (.int .i64 (IntKind.i64.wrap (((r0 : Nat) : Int) - 1))) (.int .i64 (((r0 : Nat) : Int) - 1)) (congrArg _ (sub1 r0 (by omega))) ?_
     refine At.run 1 [] [(8, .int .i64 (((r0 : Nat) : Int) - 1))] ?_
     refine At.fin ?_
     exact again_of (⟨(r0, s4), by omega, by rw [Ec.bo_next hr hs, bo_tt hb1 hb2, ← es2, ← es3, ← es4]⟩) (show r0 < r0 + 1 by omega) (fun _ S => S)
    next =>
     refine Cd.eqv 34 (.bool (decide (m' / 2 ^ r0 % 2 = 1))) (.bool false) (congrArg _ hb2) ?_
     refine Cd.cf ?_
     refine Cd.sk ?_
     show Cd _ _ _ _ _ _ _ _
     refine Cd.rg ?_
     refine At.ar 2 [] 23 (.int .i64 (IntKind.i64.wrap (((r0 : Nat) : Int) - 1))) (.int .i64 (((r0 : Nat) : Int) - 1)) (congrArg _ (sub1 r0 (by omega))) ?_
     refine At.run 1 [] [(8, .int .i64 (((r0 : Nat) : Int) - 1))] ?_
     refine At.fin ?_
     exact again_of (⟨(r0, s3), by omega, by rw [Ec.bo_next hr hs, bo_tf hb1 hb2, ← es2, ← es3]⟩) (show r0 < r0 + 1 by omega) (fun _ S => S)
   next =>
    refine Cd.eqv 28 (.bool (decide (k / 2 ^ r0 % 2 = 1))) (.bool false) (congrArg _ hb1) ?_
    refine Cd.cf ?_
    refine Cd.sk ?_
    show Cd _ _ _ _ _ _ _ _
    refine Cd.sr ?_
    refine At.call 2 [3] 34 (fun W S => bit_c m' r0 (by omega) W) ?_
    refine At.nx ?_
    rcases Bool.eq_false_or_eq_true (decide (m' / 2 ^ r0 % 2 = 1)) with hb2 | hb2
    next =>
     refine Cd.eqv 34 (.bool (decide (m' / 2 ^ r0 % 2 = 1))) (.bool true) (congrArg _ hb2) ?_
     refine Cd.ct ?_
     refine Cd.rg ?_
     obtain ⟨s5, es5⟩ : ∃ zz, zz = Ec.plN (PRM true) s2 a.x a.y := ⟨_, rfl⟩
     refine At.call 2 [0, 2] 37 (fun W S => plus_z (o := a.o) es5 (ztw es2).1 (ztw es2).2.1 (ztw es2).2.2 ha.1 ha.2 W (S.x 0 rfl)) ?_
     refine At.st 0 [] 0 (scs gp1 s5.x s5.y s5.z) h7 ?_
     refine At.fin ?_
     show Cd _ _ _ _ _ _ _ _
     refine Cd.rg ?_
     refine At.ar 2 [] 23 (.int .i64 (IntKind.i64.wrap (((r0 : Nat) : Int) - 1))) (.int .i64 (((r0 : Nat) : Int) - 1)) (congrArg _ (sub1 r0 (by omega))) ?_
     refine At.run 1 [] [(8, .int .i64 (((r0 : Nat) : Int) - 1))] ?_
     refine At.fin ?_
     exact again_of (⟨(r0, s5), by omega, by rw [Ec.bo_next hr hs, bo_ft hb1 hb2, ← es2, ← es5]⟩) (show r0 < r0 + 1 by omega) (fun _ S => S)
    next =>
     refine Cd.eqv 34 (.bool (decide (m' / 2 ^ r0 % 2 = 1))) (.bool false) (congrArg _ hb2) ?_
     refine Cd.cf ?_
     refine Cd.sk ?_
     show Cd _ _ _ _ _ _ _ _
     refine Cd.rg ?_
     refine At.ar 2 [] 23 (.int .i64 (IntKind.i64.wrap (((r0 : Nat) : Int) - 1))) (.int .i64 (((r0 : Nat) : Int) - 1)) (congrArg _ (sub1 r0 (by omega))) ?_
     refine At.run 1 [] [(8, .int .i64 (((r0 : Nat) : Int) - 1))] ?_
     refine At.fin ?_
     exact again_of (⟨(r0, s2), by omega, by rw [Ec.bo_next hr hs, bo_ff hb1 hb2, ← es2]⟩) (show r0 < r0 + 1 by omega) (fun _ S => S)
  next =>
   refine Cd.eqv 21 (.bool (decide ((((r : Nat) : Int) - 1) ≥ 0))) (.bool false) (congrArg _ hb) ?_
   refine Cd.cf ?_
   refine Cd.ex ?_
   show Cd _ _ _ _ _ _ _ _
   refine Cd.sr ?_
   obtain ⟨p6, ep6⟩ : ∃ zz, zz = Ec.ptN s := ⟨_, rfl⟩
   refine At.call 1 [] 39 (fun W S => point_z ep6 hsw.1 hsw.2.1 hsw.2.2 W (S.x 0 rfl)) ?_
   refine At.st 0 [] 1 (pcs p6.x p6.y p6.o) h6 ?_
   refine At.nx ?_
   exact Cd.rv r0 [1] (.agg (pcs p6.x p6.y p6.o)) fun W S => ⟨by obtain rfl : r = 0 := (by have := of_decide_eq_false hb; omega); rw [Nat.sub_zero] at hs; rw [show c = p6 from h.trans (by unfold Ec.btN; dsimp only; rw [← hmm, ← hn, ← hs, ← ep6])], S.below⟩
 next =>
  refine Cd.sr ?_
  refine At.run 2 [0, 2] [(12, .bool a.o)] ?_
  refine At.nx ?_
  rcases Bool.eq_false_or_eq_true a.o with hb | hb
  next =>
   refine Cd.eqv 12 (.bool a.o) (.bool true) (congrArg _ hb) ?_
   refine Cd.ct ?_
   refine Cd.rg ?_
   refine At.st 1 [] 3 (limbs4 0) h4 ?_
   refine At.fin ?_
   exact join_of (⟨0, (by decide), (fun _ => rfl), (fun h => by rw [hb] at h; cases h)⟩) (fun _ S => S)
  next =>
   refine Cd.eqv 12 (.bool a.o) (.bool false) (congrArg _ hb) ?_
   refine Cd.cf ?_
   refine Cd.sk ?_
   exact join_of (⟨m, hm, (fun h => by rw [hb] at h; cases h), (fun _ => rfl)⟩) (fun _ S => S)
set_option maxRecDepth 100000 in
theorem ctimes_z {k : Nat} {a c : Pn} (h : c = Ec.btN 0 k a) (hk : k < W256) (ha : a.x < W256 ∧ a.y < W256) (w : World) : Calls Try.prog 28 #[wv k, pnv a] w fun e w' => e = .returned (pnv c) ∧ Below w.heap.size w w' := by
 refine enterQ 9 (fun q => .seq (q 0) (.seq (q 1) .ret)) (Sx.nil w) Try.func28 ?_
 refine Cd.sr ?_
 refine At.new 0 [] 2 (limbs4 k) 24 fun g2 h2 => ?_
 refine At.new 0 [] 3 (pcs a.x a.y a.o) 36 fun g3 h3 => ?_
 refine At.new 0 [] 4 (pcs 0 0 false) 36 fun g4 h4 => ?_
 refine At.nx ?_
 refine Cd.sr ?_
 obtain ⟨p1, ep1⟩ : ∃ zz, zz = Ec.btN 0 k a := ⟨_, rfl⟩
 refine At.call 3 [0, 2, 1] 8 (fun W S => both_z ep1 (by decide) hk ⟨ha.1, ha.2⟩ W) ?_
 refine At.st 0 [] 0 (pcs p1.x p1.y p1.o) h4 ?_
 refine At.nx ?_
 exact Cd.rv r0 [] (.agg (pcs p1.x p1.y p1.o)) fun W S => ⟨by rw [show c = p1 from h.trans ep1.symm], S.below⟩
end Go.Proofs.Ytknoamaapnbibaa
namespace Go.Proofs.Ytknoamaapnbibaa
open Go.RowKit
/-- []byte(s): a new row. -/
theorem conv_c (w : World) (t : ByteArray) : ∃ C W2, (convert 9 57 (.string t)).run Try.prog w = .ok (.slice (some ⟨w.heap.size, 0, none⟩) t.size C) W2 ∧ Below w.heap.size w W2 ∧ ∀ j, j < t.size → W2.cell? ⟨w.heap.size, j, none⟩ = some (.int .u8 (t.data.toList.getD j 0).toNat) :=
  ⟨_, _, Lib.run_convert_string_bytes w 9 57 5 t Try.underlying9 Try.underlying57 Try.underlying5,
    ⟨rfl, rfl, rfl, by rw [Lib.bytesWorld_size]; omega, fun k hk => Lib.bytesWorld_at_old w _ t k hk⟩, fun j hj => Lib.bytesWorld_cell w _ t j hj⟩
/-- A digit to sixteen. -/
def hexv (x : Nat) : Nat := if 65 ≤ x then x - 55 else x - 48
def hexok (x : Nat) : Prop := (48 ≤ x ∧ x ≤ 57) ∨ (65 ≤ x ∧ x ≤ 70)
/-- The number of the first j of four digits. -/
def hx (X : Nat → Nat) : Nat → Nat
  | 0 => 0
  | j + 1 => 16 * hx X j + hexv (X j)
theorem hexv_lt (x : Nat) (h : hexok x) : hexv x < 16 := by unfold hexv; rcases h with h | h <;> split <;> omega
theorem hx_lt (X : Nat → Nat) (h : ∀ j, j < 4 → hexok (X j)) : ∀ j, j ≤ 4 → hx X j < 16 ^ j
  | 0, _ => by simp [hx]
  | j + 1, hj => by
    have h1 := hx_lt X h j (by omega); have h2 := hexv_lt _ (h j (by omega))
    rw [hx, Nat.pow_succ]; omega
/-- Byte i of a text. -/
def byt (s : ByteArray) (i : Nat) : Nat := (s.data.toList.getD i 0).toNat
/-- The k-th four digits from the end. -/
def hex4 (s : ByteArray) (k : Nat) : Nat := hx (fun j => byt s (60 - 4 * k + j)) 4
theorem byt_cut (s : ByteArray) (hs : s.size = 64) (k j : Nat) (hk : k < 16) (hj : j < 4) : ((s.extract (64 - 4 * k - 4) (64 - 4 * k)).data.toList.getD j 0).toNat = byt s (60 - 4 * k + j) := by
  have hl : s.data.toList.length = 64 := by simpa using hs
  unfold byt
  congr 1
  rw [ByteArray.data_extract, Array.toList_extract]
  simp only [List.getD_eq_getElem?_getD, List.extract_eq_take_drop]
  rw [List.getElem?_take, if_pos (by omega), List.getElem?_drop, show 64 - 4 * k - 4 + j = 60 - 4 * k + j by omega]
set_option maxRecDepth 100000 in
set_option maxHeartbeats 4000000 in
theorem hex_d (s : ByteArray) (hs : s.size = 64) (hok : ∀ i, i < 64 → hexok (byt s i)) (w : World) :
    Calls Try.prog 53 #[.string s] w (RetD w fun ds => ds = (List.range 16).map (hex4 s)) := by
  have HS := Lib.hid hs; have HK := Lib.hid hok
  have hs1 : (s.size : Int) = 64 := by omega
  have hs2 : (64 : Int) ≤ s.size := by omega
  clear hs hok
  go_enter Try.func53, Try.ntmps53
  go_wp2
  have O0 : Hid (OwnD (w.alloc (.cells #[] 22)) w.heap.size w.heap.size 0 0 []) := OwnD.start' w _ (Nat.le_refl _) _ rfl
  have B0 : Hid (Below w.heap.size w (w.alloc (.cells #[] 22))) := (Below.refl _ _).alloc (Nat.le_refl _) _
  go_loopw [3, 4] (fun v iv wr => ∃ k g c : Nat, v = sv g 0 k c ∧ iv = .int .i64 ((64 : Int) - 4 * k) ∧ k ≤ 16 ∧ Hid (OwnD wr w.heap.size g k c ((List.range k).map (hex4 s))) ∧ Hid (Below w.heap.size w wr)) (fun _ iv _ => (intOf iv).toNat)
  case atStart => exact ⟨0, w.heap.size, 0, rfl, rfl, by decide, O0, B0⟩
  case round =>
    obtain ⟨k, g, c, rfl, rfl, hk, O, B⟩ := hrel
    by_cases hk16 : k = 16
    · have HF : Hid (RetD w (fun ds => ds = (List.range 16).map (hex4 s)) (.returned (sv g 0 16 c)) wr) := by rw [hk16] at O; exact RetD.mk rfl O.out B.out
      subst hk16
      clear O B
      go_wp2
      go_ret
      exact HF.out
    · have hk15 : (k : Int) ≤ 15 := by omega
      have hk0 : (0 : Int) ≤ k := by omega
      have hkn : k < 16 := by omega
      obtain ⟨t, ht⟩ : ∃ t, s.extract (64 - 4 * k - 4) (64 - 4 * k) = t := ⟨_, rfl⟩
      obtain ⟨C, W2, hconv, hb2, hcell⟩ := conv_c wr t
      have htz : t.size = 4 := by rw [← ht, ByteArray.size_extract, HS.out]; omega
      rw [htz] at hconv hcell
      have HX : Hid (∀ j, j < 4 → (t.data.toList.getD j 0).toNat = byt s (60 - 4 * k + j)) := fun j hj => by rw [← ht]; exact byt_cut s HS.out k j hkn hj
      have HC : Hid (∀ j, j < 4 → W2.cell? ⟨wr.heap.size, j, none⟩ = some (.int .u8 ((byt s (60 - 4 * k + j) : Nat) : Int))) := fun j hj => by rw [hcell j hj, HX.out j hj]
      have HB := Lib.hid hb2
      have HO : Hid (OwnD W2 w.heap.size g k c ((List.range k).map (hex4 s))) := O.out.keep hb2
      have HBB : Hid (Below w.heap.size w W2) := below_step B.out hb2
      have HOK : Hid (∀ j, j < 4 → hexok (byt s (60 - 4 * k + j))) := fun j hj => HK.out _ (by omega)
      have HH : Hid (hex4 s k = hx (fun j => byt s (60 - 4 * k + j)) 4) := rfl
      obtain ⟨X, hX⟩ : ∃ X : Nat → Nat, X = fun j => byt s (60 - 4 * k + j) := ⟨_, rfl⟩
      have HC' : Hid (∀ j, j < 4 → W2.cell? ⟨wr.heap.size, j, none⟩ = some (.int .u8 ((X j : Nat) : Int))) := by rw [hX]; exact HC
      have HOK' : Hid (∀ j, j < 4 → hexok (X j)) := by rw [hX]; exact HOK
      rw [← hX] at HH
      clear hb2 hcell HX HC HOK hX hk16 htz O B hkn
      go_wp2
      go_loop [5, 23] (fun nv jv => ∃ j : Nat, jv = .int .i64 j ∧ nv = .int .u64 ((hx X j : Nat) : Int) ∧ j ≤ 4) (fun _ jv => 4 - (intOf jv).toNat)
      case atStart => exact ⟨0, rfl, rfl, by decide⟩
      case round =>
        obtain ⟨j, rfl, rfl, hj⟩ := hrel
        by_cases hj4 : j < 4
        · have rc := HC'.out j hj4
          have hjl : (j : Int) < 4 := by omega
          have hn : hx X j < 16 ^ 4 := Nat.lt_of_lt_of_le (hx_lt X HOK'.out j (by omega)) (Nat.pow_le_pow_right (by decide) (by omega))
          have hni : ((hx X j : Nat) : Int) ≤ 65536 := by have : (16 : Nat) ^ 4 = 65536 := rfl; omega
          have hxs : hx X (j + 1) = 16 * hx X j + hexv (X j) := rfl
          rcases HOK'.out j hj4 with h | h
          · have h1 : (48 : Int) ≤ X j := by omega
            have h2 : ((X j : Nat) : Int) ≤ 57 := by omega
            have HE : Hid ((16 : Int) * ((hx X j : Nat) : Int) + (((X j : Nat) : Int) - 48) = ((hx X (j + 1) : Nat) : Int)) := by
              rw [hxs]; unfold hexv Hid; rw [if_neg (by omega)]; omega
            clear hn hxs h
            go_wp2
            go_round
            case rel => exact ⟨j + 1, by go_num, by rw [← HE.out], by omega⟩
            case measure => simp [intOf]; omega
          · have h1 : (65 : Int) ≤ X j := by omega
            have h2 : ((X j : Nat) : Int) ≤ 70 := by omega
            have HE : Hid ((16 : Int) * ((hx X j : Nat) : Int) + (((X j : Nat) : Int) - 65 + 10) = ((hx X (j + 1) : Nat) : Int)) := by
              rw [hxs]; unfold hexv Hid; rw [if_pos (by omega)]; omega
            clear hn hxs h
            go_wp2
            go_round
            case rel => exact ⟨j + 1, by go_num, by rw [← HE.out], by omega⟩
            case measure => simp [intOf]; omega
        · obtain rfl : j = 4 := by omega
          have HR : Hid ((List.range (k + 1)).map (hex4 s) = (List.range k).map (hex4 s) ++ [hx X 4]) := by rw [List.range_succ, List.map_append, ← HH.out]; rfl
          go_wp2_with (at_builtin; go_loud (refine wpList_push (by rfl) (.tmp 41) (.tmp 43) (by rfl) w.heap.size g k c (hx X 4) W2.heap.size ((List.range k).map (hex4 s)) (by rfl) (by rfl) (HO.out.keep (Below.alloc (Below.refl _ _) (Nat.le_refl _) _)) (by omega) (by go_simp) ?_; intro g' c' w' ho hb; have HO2 := Lib.hid ho; have HB2 := Lib.hid ((HBB.out.alloc HBB.out.size _).trans hb); clear ho hb))
          go_roundw
          case rel => exact ⟨k + 1, g', c', rfl, by go_num, by omega, by rw [HR.out]; exact HO2, HB2⟩
          case measure => simp [intOf]; omega
end Go.Proofs.Ytknoamaapnbibaa
namespace Go.Proofs.Ytknoamaapnbibaa
open Go.RowKit
/-- What Mul's loops hold: the row of the result, and what it amounts to. In round i of the outer loop, before round j of the inner one (j = 0 and carry 0 outside). -/
structure MulInv (w : World) (da db : List Nat) (i j cy g : Nat) (ds : List Nat) (wr : World) : Prop where
  own : OwnD wr w.heap.size g (da.length + db.length) (da.length + db.length) ds
  below : Below w.heap.size w wr
  digs : Digs ds
  carry : cy < 65536
  sum : val ds + 65536 ^ (i + j) * cy = valN da i * val db + 65536 ^ i * (dg da i * valN db j)
  high : ∀ k, i + db.length ≤ k → dg ds k = 0
theorem MulInv.start {w W : World} {da db : List Nat} {g : Nat} (h : OwnD W w.heap.size g (da.length + db.length) (da.length + db.length) (List.replicate (da.length + db.length) 0)) (hb : Below w.heap.size w W) :
    MulInv w da db 0 0 0 g (List.replicate (da.length + db.length) 0) W :=
  ⟨h, hb, digs_noughts _, by decide, by simp [valN, val_noughts], fun k _ => by
    unfold dg; rw [List.getD_eq_getElem?_getD]
    cases hk : (List.replicate (da.length + db.length) 0)[k]? with
    | none => rfl
    | some v => rw [List.getElem?_replicate] at hk; split at hk <;> simp_all⟩
theorem dg_set_other (ds : List Nat) (i d j : Nat) (hi : i ≠ j) : dg (ds.set i d) j = dg ds j := by
  unfold dg; rw [List.getD_eq_getElem?_getD, List.getElem?_set, List.getD_eq_getElem?_getD]; simp [hi]
/-- A round of the inner loop. -/
theorem MulInv.step {w : World} {da db : List Nat} {i j cy g : Nat} {ds : List Nat} {wr : World} (h : MulInv w da db i j cy g ds wr) (hi : i < da.length) (hj : j < db.length)
    {d q : Nat} (hd : d = (cy + (dg ds (i + j) + dg da i * dg db j)) % 65536) (hq : q = (cy + (dg ds (i + j) + dg da i * dg db j)) / 65536) (ha : Digs da) (hb : Digs db) :
    MulInv w da db i (j + 1) q g (ds.set (i + j) d) (wr.setCell ⟨g, i + j, none⟩ (.int .u64 ((d : Nat) : Int))) := by
  have hx := digs_at da ha i; have hy := digs_at db hb j; have hz := digs_at ds h.digs (i + j); have hc := h.carry
  have hxy : dg da i * dg db j ≤ 65535 * 65535 := Nat.mul_le_mul (by omega) (by omega)
  have hdl : d < 65536 := by omega
  refine ⟨h.own.store _ _, h.below.setCell (h.own.base.1) _, digs_set _ h.digs _ _ hdl, by omega, ?_, fun k hk => ?_⟩
  · have e := val_set ds (i + j) d (by rw [h.own.len]; omega)
    have hs := h.sum
    have ed : cy + (dg ds (i + j) + dg da i * dg db j) = d + 65536 * q := by omega
    have e2 : 65536 ^ (i + j) * (cy + (dg ds (i + j) + dg da i * dg db j)) = 65536 ^ (i + j) * (d + 65536 * q) := by rw [ed]
    rw [Nat.mul_add, Nat.mul_add, Nat.mul_add] at e2
    have e3 : 65536 ^ i * (dg da i * valN db (j + 1)) = 65536 ^ i * (dg da i * valN db j) + 65536 ^ (i + j) * (dg da i * dg db j) := by
      rw [valN, Nat.mul_add, Nat.mul_add, Nat.pow_add]
      congr 1
      rw [← Nat.mul_assoc (dg da i), Nat.mul_comm (dg da i * dg db j), Nat.mul_assoc]
    have e4 : 65536 ^ (i + (j + 1)) * q = 65536 ^ (i + j) * (65536 * q) := by rw [← Nat.add_assoc, Nat.pow_succ, Nat.mul_assoc]
    rw [e3, e4]
    omega
  · rw [dg_set_other _ _ _ _ (by omega)]; exact h.high k hk
/-- Behind the inner loop. -/
theorem MulInv.next {w : World} {da db : List Nat} {i cy g : Nat} {ds : List Nat} {wr : World} (h : MulInv w da db i db.length cy g ds wr) (hi : i < da.length) :
    MulInv w da db (i + 1) 0 0 g (ds.set (i + db.length) cy) (wr.setCell ⟨g, i + db.length, none⟩ (.int .u64 ((cy : Nat) : Int))) := by
  refine ⟨h.own.store _ _, h.below.setCell (h.own.base.1) _, digs_set _ h.digs _ _ h.carry, by decide, ?_, fun k hk => ?_⟩
  · have e := val_set ds (i + db.length) cy (by rw [h.own.len]; omega)
    rw [h.high _ (Nat.le_refl _)] at e
    have hs := h.sum
    rw [valN_eq db _ (Nat.le_refl _)] at hs
    have e3 : valN da (i + 1) * val db = valN da i * val db + 65536 ^ i * (dg da i * val db) := by
      rw [valN, Nat.add_mul, Nat.mul_comm (dg da i) (65536 ^ i), Nat.mul_assoc]
    rw [e3]
    simp only [valN, Nat.mul_zero, Nat.add_zero] at *
    omega
  · rw [dg_set_other _ _ _ _ (by omega)]; exact h.high k (by omega)
theorem MulInv.done {w : World} {da db : List Nat} {g : Nat} {ds : List Nat} {wr : World} (h : MulInv w da db da.length 0 0 g ds wr) :
    RetD w (fun ds => val ds = val da * val db ∧ Digs ds ∧ ds.length = da.length + db.length) (.returned (sv g 0 (da.length + db.length) (da.length + db.length))) wr := by
  have hs := h.sum
  rw [valN_eq da _ (Nat.le_refl _)] at hs
  simp only [valN, Nat.mul_zero, Nat.add_zero] at hs
  exact RetD.mk ⟨hs, h.digs, h.own.len⟩ h.own h.below
set_option maxRecDepth 100000 in
set_option maxHeartbeats 4000000 in
theorem mul_d (b1 o1 c1 b2 o2 c2 : Nat) (da db : List Nat) (w : World) (h1 : Dg w b1 o1 da) (h2 : Dg w b2 o2 db) (l1 : da.length ≤ 1000) (l2 : db.length ≤ 1000) (g1 : Digs da) (g2 : Digs db) :
    Calls Try.prog 66 #[sv b1 o1 da.length c1, sv b2 o2 db.length c2] w (RetD w fun ds => val ds = val da * val db ∧ Digs ds ∧ ds.length = da.length + db.length) := by
  have H1 := Lib.hid h1; have H2 := Lib.hid h2; have G1 := Lib.hid g1; have G2 := Lib.hid g2
  have hll : (da.length : Int) ≤ 1000 := by omega
  have hll2 : (db.length : Int) ≤ 1000 := by omega
  clear h1 h2 g1 g2
  go_enter Try.func66, Try.ntmps66
  go_wp2_with (at_make; go_loud (refine wpList_noughts (by rfl) _ _ (by rfl) w.heap.size (da.length + db.length) _ _ (by rfl) (by rfl) (by simp) (by simp) (by omega) (Nat.le_refl _) ?_; intro W1 ho hb; have I0 := Lib.hid (MulInv.start ho hb); clear ho hb))
  go_loopw [8, 19] (fun cv iv wr => ∃ i : Nat, ∃ ds : List Nat, iv = .int .i64 i ∧ i ≤ da.length ∧ Hid (MulInv w da db i 0 0 w.heap.size ds wr)) (fun _ iv _ => da.length - (intOf iv).toNat)
  case atStart => exact ⟨0, _, rfl, Nat.zero_le _, I0⟩
  case round =>
    obtain ⟨i, ds0, rfl, hi, J⟩ := hrel
    by_cases h1 : i < da.length
    · have h1i : (i : Int) < da.length := by omega
      have r1 := (H1.out.keep J.out.below).cell i h1
      have hx : (dg da i : Int) < 65536 := by have := digs_at da G1.out i; omega
      go_wp2
      obtain ⟨wo, hwo⟩ : ∃ wo : World, wo = wr := ⟨_, rfl⟩
      go_loopw [8, 26] (fun cv jv wr => ∃ j cy : Nat, ∃ ds : List Nat, jv = .int .i64 j ∧ cv = .int .u64 cy ∧ j ≤ db.length ∧ Hid (MulInv w da db i j cy w.heap.size ds wr)) (fun _ jv _ => db.length - (intOf jv).toNat)
      case atStart => exact ⟨0, 0, ds0, rfl, rfl, Nat.zero_le _, J⟩
      case round =>
        obtain ⟨j, cy, ds, rfl, rfl, hj, I⟩ := hrel
        by_cases h2 : j < db.length
        · have h2i : (j : Int) < db.length := by omega
          have r2 := (H2.out.keep I.out.below).cell j h2
          have r3 := I.out.own.at_ (i + j) (by omega)
          have fr := I.out.own.frozen (i + j)
          have hy : (dg db j : Int) < 65536 := by have := digs_at db G2.out j; omega
          have hz : (dg ds (i + j) : Int) < 65536 := by have := digs_at ds I.out.digs (i + j); omega
          have hcy : (cy : Int) < 65536 := by have := I.out.carry; omega
          have hxy : dg da i * dg db j ≤ 65535 * 65535 := Nat.mul_le_mul (by omega) (by omega)
          have hm : ((dg da i : Int) * (dg db j : Int)) ≤ 4294836225 := by rw [← Int.natCast_mul]; omega
          have hm0 : 0 ≤ ((dg da i : Int) * (dg db j : Int)) := by rw [← Int.natCast_mul]; omega
          obtain ⟨d, q, ⟨hd, hq⟩, f1, f2⟩ := quot1 (cy + (dg ds (i + j) + dg da i * dg db j))
          have HI := Lib.hid (I.out.step h1 h2 hd hq G1.out G2.out)
          clear hd hq hxy
          simp only [Int.natCast_add, Int.natCast_mul] at f1 f2
          have hq0 : (0 : Int) ≤ q := by omega
          go_wp2
          go_roundw
          case rel => exact ⟨j + 1, q, _, by go_num, by first | rfl | rw [f2], by omega, HI.out⟩
          case measure => simp [intOf]; omega
        · have h2i : ¬ (j : Int) < db.length := by omega
          obtain rfl : j = db.length := by omega
          have r3 := I.out.own.at_ (i + db.length) (by omega)
          have fr := I.out.own.frozen (i + db.length)
          have HI := Lib.hid (I.out.next h1)
          go_wp2
          go_roundw
          case rel => exact ⟨i + 1, _, by go_num, by omega, HI.out⟩
          case measure => simp [intOf]; omega
    · have h1i : ¬ (i : Int) < da.length := by omega
      obtain rfl : i = da.length := by omega
      have HF := Lib.hid J.out.done
      go_wp2
      go_ret
      exact HF.out
end Go.Proofs.Ytknoamaapnbibaa
namespace Go.Proofs.Ytknoamaapnbibaa
open Go.RowKit
theorem blen_half (x : Nat) (h : 0 < x) : blen x = blen (x / 2) + 1 := by
  by_cases h2 : 2 ≤ x
  · have := blen_div x 1 (by simpa using h2)
    rw [Nat.pow_one] at this; omega
  · obtain rfl : x = 1 := by omega
    decide +kernel
theorem blen_digit (ds : List Nat) (h : Digs ds) (i : Nat) (h0 : dg ds i ≠ 0) : blen (valN ds (i + 1)) = 16 * i + blen (dg ds i) := by
  have hl := valN_lt ds h i
  have hp : (65536 : Nat) ^ i = 2 ^ (16 * i) := by rw [show (65536 : Nat) = 2 ^ 16 from rfl, ← Nat.pow_mul]
  rw [hp] at hl
  have hge : 2 ^ (16 * i) ≤ dg ds i * 2 ^ (16 * i) := Nat.le_mul_of_pos_left _ (by omega)
  rw [valN, hp]
  rw [blen_div _ (16 * i) (by omega)]
  congr 2
  rw [Nat.add_mul_div_right _ _ (Nat.two_pow_pos _), Nat.div_eq_of_lt hl, Nat.zero_add]
theorem blen_nought (ds : List Nat) (i : Nat) (h0 : dg ds i = 0) : blen (valN ds (i + 1)) = blen (valN ds i) := by
  rw [valN, h0]; simp
set_option maxRecDepth 100000 in
set_option maxHeartbeats 4000000 in
theorem bits_d (b1 o1 c1 : Nat) (da : List Nat) (w : World) (h1 : Dg w b1 o1 da) (l1 : da.length ≤ 1000) (g1 : Digs da) :
    Calls Try.prog 44 #[sv b1 o1 da.length c1] w fun e w' => e = .returned (.int .i64 (blen (val da))) ∧ w = w' := by
  have H1 := Lib.hid h1; have G1 := Lib.hid g1
  have hll : (da.length : Int) ≤ 1000 := by omega
  clear h1 g1
  go_enter Try.func44, Try.ntmps44
  go_wp2
  go_loop [3, 9] (fun nv iv => ∃ i n : Nat, iv = .int .i64 i ∧ nv = .int .i64 n ∧ i ≤ da.length ∧ Hid (n = blen (valN da i))) (fun _ iv => da.length - (intOf iv).toNat)
  case atStart => exact ⟨0, 0, rfl, rfl, Nat.zero_le _, rfl⟩
  case round =>
    obtain ⟨i, n, rfl, rfl, hi, J⟩ := hrel
    by_cases h1 : i < da.length
    · have h1i : (i : Int) < da.length := by omega
      have r1 := H1.out.cell i h1
      have hx : dg da i < 65536 := digs_at da G1.out i
      have hbl : Hid (blen (dg da i) ≤ 16) := (blen_le_iff _ 16).2 (by simpa using hx)
      go_wp2
      go_loop [5, 6] (fun xv kv => ∃ x k : Nat, xv = .int .u64 x ∧ kv = .int .i64 k ∧ x < 65536 ∧ k ≤ 16 ∧ Hid (k + blen x = blen (dg da i))) (fun xv _ => (intOf xv).toNat)
      case atStart => exact ⟨dg da i, 0, rfl, rfl, hx, by decide, by simp [Hid]⟩
      case round =>
        obtain ⟨x, k, rfl, rfl, hx2, hk, I⟩ := hrel
        by_cases h0 : 0 < x
        · have h0i : (0 : Int) < x := by omega
          have hki : (k : Int) ≤ 16 := by omega
          obtain ⟨y, hy, f1⟩ : ∃ y : Nat, y = x / 2 ∧ (x : Int) / 2 = y := ⟨_, rfl, by omega⟩
          have HI : Hid (k + 1 + blen y = blen (dg da i)) := by have := I.out; rw [blen_half x h0, ← hy] at this; unfold Hid; omega
          have hk2 : k + 1 ≤ 16 := by have := HI.out; have := hbl.out; omega
          have hyl : y < x := by omega
          clear hy
          go_wp2
          go_round
          case rel => exact ⟨y, k + 1, by first | rfl | rw [f1], by go_num, by omega, hk2, HI⟩
          case measure => simp [intOf]; omega
        · obtain rfl : x = 0 := by omega
          have hke : k = blen (dg da i) := I.out
          clear h0
          by_cases hz : dg da i = 0
          · have hk0 : k = 0 := by rw [hke, hz]; rfl
            have HI : Hid (n = blen (valN da (i + 1))) := by rw [blen_nought da i hz]; exact J
            clear hke
            subst hk0
            have Hz := Lib.hid hz; clear hz
            go_wp2
            go_round
            case rel => exact ⟨i + 1, n, by go_num, rfl, by omega, HI⟩
            case measure => simp [intOf]; omega
          · have hkp : 0 < k := by rw [hke]; exact (blen_lt_iff _ 0).2 (by simp; omega)
            have hkpi : (0 : Int) < k := by omega
            have HI : Hid (16 * i + k = blen (valN da (i + 1))) := by rw [blen_digit da G1.out i hz, hke]; rfl
            clear hke hz
            go_wp2
            go_round
            case rel => exact ⟨i + 1, 16 * i + k, by go_num, by simp, by omega, HI⟩
            case measure => simp [intOf]; omega
    · have h1i : ¬ (i : Int) < da.length := by omega
      obtain rfl : i = da.length := by omega
      have HF : Hid (n = blen (val da)) := by have := J.out; rw [valN_eq da _ (Nat.le_refl _)] at this; exact this
      go_wp2
      go_ret
      exact ⟨by rw [HF.out]; rfl, rfl⟩
end Go.Proofs.Ytknoamaapnbibaa
namespace Go.Proofs.Ytknoamaapnbibaa
open Go.RowKit
/-- What Div's loop holds: all bits from k on are done. -/
structure DvInv (w : World) (da db : List Nat) (k g : Nat) (ts ds : List Nat) (wr : World) : Prop where
  own : OwnD wr w.heap.size w.heap.size da.length da.length ts
  rest : ∃ o, DRow ds o ∧ wr.heap[g]? = some o
  gB : w.heap.size < g
  below : Below w.heap.size w wr
  digsT : Digs ts
  digsR : Digs ds
  sum : ∃ T, val da / 2 ^ k = T * val db + val ds ∧ val ts = T * 2 ^ k
  less : val ds < val db
  dvd : ∀ j, 2 ^ (k - 16 * j) ∣ dg ts j
  len : ds.length ≤ db.length
  kn : k ≤ 16 * da.length
theorem OwnD.cap {W : World} {B g n c : Nat} {ds : List Nat} (h : OwnD W B g n c ds) : ds.length ≤ c := by
  rcases h.own.2 with ⟨hv, _⟩ | ⟨g', cap, cur, hv, _, _, hc, _⟩
  · simp at hv
  · simp only [Value.slice.injEq, Option.some.injEq, Addr.mk.injEq, and_true, true_and] at hv
    obtain ⟨-, rfl⟩ := hv
    rw [h.len]; exact hc
theorem digs_nil : Digs [] := fun d hd => by cases hd
/-- While the rest is trimmed. -/
structure DvTrim (w : World) (da db : List Nat) (k g : Nat) (ts ds : List Nat) (wr : World) : Prop where
  own : OwnD wr w.heap.size w.heap.size da.length da.length ts
  rest : ∃ o, DRow ds o ∧ wr.heap[g]? = some o
  gB : w.heap.size < g
  below : Below w.heap.size w wr
  digsT : Digs ts
  digsR : Digs ds
  sum : ∃ T, val da / 2 ^ k = T * val db + val ds ∧ val ts = T * 2 ^ k
  less : val ds < val db
  dvd : ∀ j, 2 ^ (k - 16 * j) ∣ dg ts j
  kn : k ≤ 16 * da.length
  len : ds.length ≤ 1002
theorem val_take_last (ds : List Nat) (n : Nat) (hn : ds.length = n + 1) (h0 : dg ds n = 0) : val (ds.take n) = val ds := by
  have e : ds = ds.take n ++ [dg ds n] := by
    have h1 : ds.drop n = [dg ds n] := by
      rw [List.drop_eq_getElem_cons (by omega), List.drop_of_length_le (by omega)]
      simp [dg, List.getD_eq_getElem?_getD, show n < ds.length by omega]
    conv => lhs; rw [← List.take_append_drop n ds, h1]
  conv => rhs; rw [e, val_snoc, h0]
  simp
theorem dg_take (ds : List Nat) (n i : Nat) (h : i < n) : dg (ds.take n) i = dg ds i := by
  unfold dg; rw [List.getD_eq_getElem?_getD, List.getElem?_take, if_pos h, List.getD_eq_getElem?_getD]
theorem DRow.take {ds : List Nat} {o : Obj} (h : DRow ds o) (n : Nat) : DRow (ds.take n) o := by
  obtain ⟨cur, rfl, hc⟩ := h
  refine ⟨cur, rfl, fun i hi => ?_⟩
  rw [List.length_take] at hi
  rw [hc i (by omega), dg_take _ _ _ (by omega)]
theorem val_ge_dg (ds : List Nat) (n : Nat) (h : n < ds.length) : 65536 ^ n * dg ds n ≤ val ds := by
  have e := valN_drop ds n
  rw [List.drop_eq_getElem_cons h, val, Nat.mul_add] at e
  have : dg ds n = ds[n] := by simp [dg, List.getD_eq_getElem?_getD, h]
  rw [this]; omega
/-- Trimmed. -/
theorem DvTrim.done {w : World} {da db : List Nat} {k g : Nat} {ts ds : List Nat} {wr : World} (h : DvTrim w da db k g ts ds wr) (hb : Digs db) (hl : ds.length = 0 ∨ ∃ n, ds.length = n + 1 ∧ dg ds n ≠ 0) : DvInv w da db k g ts ds wr := by
  refine ⟨h.own, h.rest, h.gB, h.below, h.digsT, h.digsR, h.sum, h.less, h.dvd, ?_, h.kn⟩
  rcases hl with h0 | ⟨n, hn, h0⟩
  · omega
  · have h1 := val_ge_dg ds n (by omega)
    have h2 := val_lt db hb
    have h3 := h.less
    have h4 : 65536 ^ n * 1 ≤ 65536 ^ n * dg ds n := Nat.mul_le_mul_left _ (by omega)
    have h5 : 65536 ^ n < 65536 ^ db.length := by omega
    have := (Nat.pow_lt_pow_iff_right (a := 65536) (by decide)).1 h5
    omega
theorem DvInv.start {w W : World} {da db : List Nat} (ha : Digs da) (h : OwnD W w.heap.size w.heap.size da.length da.length (List.replicate da.length 0)) (hb : Below w.heap.size w W) (hpos : 0 < val db) (hW : w.heap.size < W.heap.size) :
    DvInv w da db (16 * da.length) W.heap.size (List.replicate da.length 0) [] (W.alloc (.cells #[] 22)) := by
  have hp : (65536 : Nat) ^ da.length = 2 ^ (16 * da.length) := by rw [show (65536 : Nat) = 2 ^ 16 from rfl, ← Nat.pow_mul]
  refine ⟨h.keep ((Below.refl _ _).alloc (Nat.le_refl _) _), ⟨_, ⟨#[], rfl, fun i hi => absurd hi (by simp)⟩, lastH _ _ _ rfl⟩, hW, hb.alloc hb.size _, digs_noughts _, digs_nil, ⟨0, ?_, by rw [val_noughts]; simp⟩, by simpa [val] using hpos, fun j => ?_, by simp, Nat.le_refl _⟩
  · have := val_lt da ha
    rw [hp] at this
    rw [Nat.div_eq_of_lt this]; simp [val]
  · have : dg (List.replicate da.length 0) j = 0 := by
      unfold dg; rw [List.getD_eq_getElem?_getD]
      cases hk : (List.replicate da.length 0)[j]? with
      | none => rfl
      | some v => rw [List.getElem?_replicate] at hk; split at hk <;> simp_all
    rw [this]; exact Nat.dvd_zero _
/-- The bit that comes in. -/
theorem bit_of (ds : List Nat) (h : Digs ds) (i : Nat) : val ds / 2 ^ i % 2 = dg ds (i / 16) / 2 ^ (i % 16) % 2 := by
  have e := valN_drop ds (i / 16)
  have hl := valN_lt ds h (i / 16)
  have hp : (65536 : Nat) ^ (i / 16) = 2 ^ (16 * (i / 16)) := by rw [show (65536 : Nat) = 2 ^ 16 from rfl, ← Nat.pow_mul]
  rw [hp] at e hl
  have e1 : val ds / 2 ^ i = val (ds.drop (i / 16)) / 2 ^ (i % 16) := by
    conv => lhs; rw [show i = 16 * (i / 16) + i % 16 by omega, Nat.pow_add, ← Nat.div_div_eq_div_mul, e, Nat.add_mul_div_left _ _ (Nat.two_pow_pos _), Nat.div_eq_of_lt hl, Nat.zero_add]
  rw [e1]
  have e2 : dg ds (i / 16) = dg (ds.drop (i / 16)) 0 := by rw [dg_drop, Nat.add_zero]
  rw [e2]
  have e3 := valN_drop (ds.drop (i / 16)) 1
  have e4 : valN (ds.drop (i / 16)) 1 = dg (ds.drop (i / 16)) 0 := by simp [valN]
  rw [e4, Nat.pow_one] at e3
  rw [e3]
  generalize dg (ds.drop (i / 16)) 0 = d
  generalize val (List.drop 1 (ds.drop (i / 16))) = v
  have hr : i % 16 < 16 := Nat.mod_lt _ (by decide)
  generalize i % 16 = r at hr
  have hs : (65536 : Nat) = 2 ^ r * (2 * 2 ^ (15 - r)) := by
    rw [← Nat.mul_assoc, Nat.mul_comm (2 ^ r) 2, Nat.mul_assoc, ← Nat.pow_add, show r + (15 - r) = 15 by omega]
  rw [hs, Nat.mul_assoc, Nat.add_mul_div_left _ _ (Nat.two_pow_pos _), Nat.mul_assoc, Nat.add_mul_mod_self_left]
/-- The rest with the next bit. -/
structure DvMid (w : World) (da db : List Nat) (i : Nat) (ts : List Nat) (r : Nat) (wr : World) : Prop where
  own : OwnD wr w.heap.size w.heap.size da.length da.length ts
  below : Below w.heap.size w wr
  digsT : Digs ts
  sum : ∃ T, val da / 2 ^ i = T * val db + r ∧ val ts = T * 2 ^ i
  small : r < 2 * val db
  dvd : ∀ j, 2 ^ (i + 1 - 16 * j) ∣ dg ts j
  kn : i < 16 * da.length
theorem DvMid.keep {w : World} {da db : List Nat} {i r : Nat} {ts : List Nat} {wr W : World} (h : DvMid w da db i ts r wr) (hb : Below wr.heap.size wr W) : DvMid w da db i ts r W :=
  ⟨h.own.keep hb, below_step h.below hb, h.digsT, h.sum, h.small, h.dvd, h.kn⟩
theorem DvMid.no {w : World} {da db : List Nat} {i r g c n : Nat} {ts dn : List Nat} {W W0 : World} (h : DvMid w da db i ts r W) (hr : r < val db) (hv : val dn = r) (ho : OwnD W W0.heap.size g n c dn) (hW0 : w.heap.size < W0.heap.size) (hd : Digs dn) (hl : dn.length ≤ 1002) :
    DvTrim w da db i g ts dn W := by
  subst hv
  refine ⟨h.own, ho.row, by have := ho.base; omega, h.below, h.digsT, hd, h.sum, hr, fun j => ?_, by have := h.kn; omega, hl⟩
  exact Nat.dvd_trans (Nat.pow_dvd_pow 2 (by omega)) (h.dvd j)
/-- The answer: two slices of the call's own. -/
def RetDD (w : World) (x y : Nat) (n m : Nat) (e : Ending) (w' : World) : Prop := ∃ g1 c1 ts o1 g2 c2 ds o2, Hid (val ts = x / y ∧ Digs ts ∧ ts.length = n) ∧ Hid (val ds = x % y ∧ Digs ds ∧ ds.length ≤ m) ∧
  e = .returned (.tuple #[sv g1 0 ts.length c1, sv g2 0 ds.length c2]) ∧ Hid (DRow ts o1) ∧ Hid (DRow ds o2) ∧ Hid (w'.heap[g1]? = some o1) ∧ Hid (w'.heap[g2]? = some o2) ∧ Below w.heap.size w w'
theorem DvInv.fin {w : World} {da db : List Nat} {g c : Nat} {ts ds : List Nat} {wr : World} (h : DvInv w da db 0 g ts ds wr) : RetDD w (val da) (val db) da.length db.length (.returned (.tuple #[sv w.heap.size 0 da.length da.length, sv g 0 ds.length c])) wr := by
  obtain ⟨o1, r1, t1⟩ := h.own.row
  obtain ⟨o2, r2, t2⟩ := h.rest
  obtain ⟨T, h1, h2⟩ := h.sum
  have hl := h.less
  rw [Nat.pow_zero, Nat.div_one] at h1
  rw [Nat.pow_zero, Nat.mul_one] at h2
  refine ⟨w.heap.size, da.length, ts, o1, g, c, ds, o2, ⟨?_, h.digsT, h.own.len⟩, ⟨?_, h.digsR, h.len⟩, by rw [h.own.len], r1, r2, t1, t2, h.below⟩
  · rw [h2, h1, Nat.mul_comm, Nat.mul_add_div (by omega), Nat.div_eq_of_lt hl, Nat.add_zero]
  · rw [h1, Nat.mul_comm, Nat.mul_add_mod, Nat.mod_eq_of_lt hl]
theorem digs_one : Digs [1] := fun d hd => by simp at hd; subst hd; decide
end Go.Proofs.Ytknoamaapnbibaa
namespace Go.Proofs.Ytknoamaapnbibaa
open Go.RowKit
def textP : ByteArray := { data := #[70, 70, 70, 70, 70, 70, 70, 70, 70, 70, 70, 70, 70, 70, 70, 70, 70, 70, 70, 70, 70, 70, 70, 70, 70, 70, 70, 70, 70, 70, 70, 70, 70, 70, 70, 70, 70, 70, 70, 70, 70, 70, 70, 70, 70, 70, 70, 70, 70, 70, 70, 70, 70, 70, 70, 69, 70, 70, 70, 70, 70, 67, 50, 70] }
def textN : ByteArray := { data := #[70, 70, 70, 70, 70, 70, 70, 70, 70, 70, 70, 70, 70, 70, 70, 70, 70, 70, 70, 70, 70, 70, 70, 70, 70, 70, 70, 70, 70, 70, 70, 69, 66, 65, 65, 69, 68, 67, 69, 54, 65, 70, 52, 56, 65, 48, 51, 66, 66, 70, 68, 50, 53, 69, 56, 67, 68, 48, 51, 54, 52, 49, 52, 49] }
instance (x : Nat) : Decidable (hexok x) := by unfold hexok; exact inferInstance
theorem textP_ok : ∀ i, i < 64 → hexok (byt textP i) := by decide +kernel
theorem textN_ok : ∀ i, i < 64 → hexok (byt textN i) := by decide +kernel
theorem textP_val : val ((List.range 16).map (hex4 textP)) = PRM true := by decide +kernel
theorem textN_val : val ((List.range 16).map (hex4 textN)) = PRM false := by decide +kernel
theorem text_digs (s : ByteArray) (h : ∀ i, i < 64 → hexok (byt s i)) : Digs ((List.range 16).map (hex4 s)) := fun d hd => by
  obtain ⟨k, hk, rfl⟩ := List.mem_map.1 hd
  have hk := List.mem_range.1 hk
  have := hx_lt (fun j => byt s (60 - 4 * k + j)) (fun j hj => h _ (by omega)) 4 (by decide)
  exact this
/-- What a call says that answers digits in a slice of its own, with room told. -/
def RetT (w : World) (Q : List Nat → Prop) (e : Ending) (w' : World) : Prop := ∃ g c ds o, Hid (Q ds) ∧ e = .returned (sv g 0 ds.length c) ∧ Hid (ds.length ≤ c) ∧ Hid (DRow ds o) ∧ Hid (w'.heap[g]? = some o) ∧ Below w.heap.size w w'
theorem RetD.t {w : World} {Q : List Nat → Prop} {e : Ending} {w' : World} (h : RetD w Q e w') : RetT w Q e w' := by
  obtain ⟨g, c, ds, hQ, he, ho, hb⟩ := h
  obtain ⟨o, hr, hg⟩ := ho.row
  exact ⟨g, c, ds, o, hQ, he, ho.cap, hr, hg, hb⟩
set_option maxRecDepth 100000 in
set_option maxHeartbeats 1000000 in
theorem prime_c (p : Bool) (w : World) : Calls Try.prog 20 #[.bool p] w (RetT w fun ds => val ds = PRM p ∧ Digs ds ∧ ds.length = 16) := by
  have CP : Hid (∀ W, Calls Try.prog 53 #[.string textP] W (RetT W fun ds => val ds = PRM true ∧ Digs ds ∧ ds.length = 16)) := fun W => (hex_d textP rfl textP_ok W).mono fun e w' h => by
    obtain ⟨g, c, ds, o, hQ, rest⟩ := h.t
    have hQ := hQ.out
    subst hQ
    exact ⟨g, c, _, o, ⟨textP_val, text_digs _ textP_ok, by simp⟩, rest⟩
  have CN : Hid (∀ W, Calls Try.prog 53 #[.string textN] W (RetT W fun ds => val ds = PRM false ∧ Digs ds ∧ ds.length = 16)) := fun W => (hex_d textN rfl textN_ok W).mono fun e w' h => by
    obtain ⟨g, c, ds, o, hQ, rest⟩ := h.t
    have hQ := hQ.out
    subst hQ
    exact ⟨g, c, _, o, ⟨textN_val, text_digs _ textN_ok, by simp⟩, rest⟩
  unfold textP at CP
  unfold textN at CN
  cases p with
  | true =>
    go_enter Try.func20, Try.ntmps20
    go_wp2_with fail
    refine (CP.out _).mono ?_
    rintro e W1 ⟨g, c, ds, o, hQ, rfl, hc, hr, hg, hb⟩
    have HB := Lib.hid hb
    clear hb
    go_wp2_with fail
    go_ret
    exact ⟨g, c, ds, o, hQ, rfl, hc, hr, hg, HB.out⟩
  | false =>
    go_enter Try.func20, Try.ntmps20
    go_wp2_with fail
    refine (CN.out _).mono ?_
    rintro e W1 ⟨g, c, ds, o, hQ, rfl, hc, hr, hg, hb⟩
    have HB := Lib.hid hb
    clear hb
    go_wp2_with fail
    go_ret
    exact ⟨g, c, ds, o, hQ, rfl, hc, hr, hg, HB.out⟩
/-- Digits whose last one is not 0. -/
def Trimmed (ds : List Nat) : Prop := ∀ n, ds.length = n + 1 → dg ds n ≠ 0
/-- What trim says: fewer digits of the same row. -/
def RetTrim (w : World) (b c : Nat) (ds : List Nat) (e : Ending) (w' : World) : Prop := (∃ z, Hid (val z = val ds ∧ Trimmed z ∧ z.length ≤ ds.length ∧ ∃ m, z = ds.take m) ∧ e = .returned (sv b 0 z.length c)) ∧ w = w'
set_option maxRecDepth 100000 in
set_option maxHeartbeats 1000000 in
theorem trim_d (b c : Nat) (ds : List Nat) (w : World) (h : Dg w b 0 ds) (hl : ds.length ≤ 1000) (hc : ds.length ≤ c) :
    Calls Try.prog 86 #[sv b 0 ds.length c] w (RetTrim w b c ds) := by
  have H := Lib.hid h
  have hlc : (ds.length : Int) ≤ c := by omega
  have hli : (ds.length : Int) ≤ 1000 := by omega
  clear h
  go_enter Try.func86, Try.ntmps86
  go_wp2
  go_loop [0] (fun v => ∃ n : Nat, v = sv b 0 n c ∧ n ≤ ds.length ∧ Hid (val (ds.take n) = val ds)) (fun v => match v with | .slice _ n _ => n | _ => 0)
  case atStart => exact ⟨ds.length, rfl, Nat.le_refl _, by rw [List.take_length]; rfl⟩
  case round =>
    obtain ⟨n, rfl, hn, V⟩ := hrel
    have hnc : (n : Int) ≤ c := by omega
    have hn1 : (n : Int) ≤ 1000 := by omega
    have hlen : Hid ((ds.take n).length = n) := by rw [List.length_take]; exact Nat.min_eq_left hn
    by_cases h0 : n = 0
    · subst h0
      have HR : Hid (RetTrim w b c ds (.returned (sv b 0 0 c)) w) := ⟨⟨ds.take 0, ⟨V.out, fun n hn => by simp at hn, by simp, 0, rfl⟩, by rw [hlen.out]⟩, rfl⟩
      clear V hlen
      go_wp2
      go_ret
      exact HR.out
    · obtain ⟨m, rfl⟩ : ∃ m, n = m + 1 := ⟨n - 1, by omega⟩
      have rc := H.out.cell m (by omega)
      rw [Nat.zero_add] at rc
      by_cases hz : dg ds m = 0
      · have hzi : ((dg ds m : Nat) : Int) = 0 := by omega
        have HV : Hid (val (ds.take m) = val ds) := by
          have e := val_take_last (ds.take (m + 1)) m hlen.out (by rw [dg_take _ _ _ (by omega)]; exact hz)
          rw [List.take_take, Nat.min_eq_left (by omega)] at e
          exact e.trans V.out
        clear hz V hlen h0
        go_wp2
        go_round
        case rel => exact ⟨m, rfl, by omega, HV⟩
        case measure => simp
      · have hzi : (((dg ds m : Nat) : Int) == 0) = false := by simp; omega
        have hzj : ¬ ((dg ds m : Nat) : Int) = 0 := by omega
        have HR : Hid (RetTrim w b c ds (.returned (sv b 0 (m + 1) c)) w) := ⟨⟨ds.take (m + 1), ⟨V.out, fun n hn' => by
          rw [hlen.out] at hn'
          obtain rfl : n = m := by omega
          rw [dg_take _ _ _ (by omega)]; exact hz, by rw [hlen.out]; exact hn, m + 1, rfl⟩, by rw [hlen.out]⟩, rfl⟩
        clear hz V hlen h0
        go_wp2
        go_ret
        exact HR.out
end Go.Proofs.Ytknoamaapnbibaa
namespace Go.Proofs.Ytknoamaapnbibaa
open Go.RowKit
theorem val_take (ds : List Nat) : ∀ n, val (ds.take n) = valN ds n := by
  intro n
  have e := valN_drop ds n
  have : val ds = val (ds.take n) + 65536 ^ (ds.take n).length * val (ds.drop n) := by
    conv => lhs; rw [← List.take_append_drop n ds]
    exact val_append _ _
  by_cases h : n ≤ ds.length
  · rw [List.length_take, Nat.min_eq_left h] at this; omega
  · rw [List.take_of_length_le (by omega), valN_eq ds n (by omega)]
theorem split16 (ds : List Nat) : val ds = val (ds.take 16) + W256 * val (ds.drop 16) := by
  have e := valN_drop ds 16
  rw [val_take]
  have hp : 65536 ^ 16 = W256 := by decide +kernel
  rw [hp] at e; exact e
theorem trimmed_pos {ds : List Nat} (h : Trimmed ds) {n : Nat} (hn : ds.length = n + 1) : 65536 ^ n ≤ val ds := by
  have h1 := val_ge_dg ds n (by omega)
  have h2 := h n hn
  have h3 : 65536 ^ n * 1 ≤ 65536 ^ n * dg ds n := Nat.mul_le_mul_left _ (by omega)
  omega
theorem trimmed_len {a : List Nat} (ha : Trimmed a) {k : Nat} (h : val a < 65536 ^ k) : a.length ≤ k := by
  rcases Nat.eq_zero_or_pos a.length with h0 | h0
  · omega
  · obtain ⟨n, hn⟩ : ∃ n, a.length = n + 1 := ⟨a.length - 1, by omega⟩
    have h1 := trimmed_pos ha hn
    have := (Nat.pow_lt_pow_iff_right (a := 65536) (by decide)).1 (Nat.lt_of_le_of_lt h1 h)
    omega
theorem digs_take {ds : List Nat} (h : Digs ds) (n : Nat) : Digs (ds.take n) := fun d hd => h d (List.mem_of_mem_take hd)
theorem digs_drop {ds : List Nat} (h : Digs ds) (n : Nat) : Digs (ds.drop n) := fun d hd => h d (List.mem_of_mem_drop hd)
/-- What Mod's loops hold. -/
structure ModInv (w : World) (L : List (Nat × Obj)) (p : Bool) (t k g c : Nat) (z : List Nat) (o : Obj) (wr : World) : Prop where
  st : St w L wr
  row : wr.heap[g]? = some o
  drow : DRow z o
  cap : z.length ≤ c
  len : z.length ≤ 64
  digs : Digs z
  trim : Trimmed z
  rest : val z % PRM p = t
  ghost : k = val z
theorem dgo_of {W : World} {g : Nat} {o : Obj} {ds : List Nat} (hg : Hid (W.heap[g]? = some o)) (hr : Hid (DRow ds o)) (k : Nat) : Dg W g k (ds.drop k) :=
  St.dgo (w := W) (L := [(g, o)]) ⟨Below.refl _ _, fun p hp => by simp at hp; subst hp; exact hg.out⟩ (List.Mem.head _) hr.out k
theorem dgt_of {W : World} {g : Nat} {o : Obj} {ds : List Nat} (hg : Hid (W.heap[g]? = some o)) (hr : Hid (DRow ds o)) (k : Nat) : Dg W g 0 (ds.take k) := dg_of hg (hr.out.take k)
set_option maxRecDepth 100000 in
set_option maxHeartbeats 8000000 in
theorem mod_d (g0 c0 : Nat) (o0 : Obj) (ds : List Nat) (p : Bool) (w : World) (hg : w.heap[g0]? = some o0) (hr : DRow ds o0) (hd : Digs ds) (hl : ds.length ≤ 64) (hc : ds.length ≤ c0) :
    Calls Try.prog 64 #[sv g0 0 ds.length c0, .bool p] w (RetT w fun z => val z = val ds % PRM p ∧ Digs z ∧ z.length ≤ 16 ∧ Trimmed z) := by
  have HG := Lib.hid hg; have HR := Lib.hid hr; have HD := Lib.hid hd; have HL := Lib.hid hl; have HC := Lib.hid hc
  obtain ⟨t, ht⟩ : ∃ t, val ds % PRM p = t := ⟨_, rfl⟩
  have HT := Lib.hid ht
  rw [ht]
  clear hg hr hd hl hc ht
  go_enter Try.func64, Try.ntmps64
  have S0 := (St.nil w).cons HG.out
  go_wp2_with fail
  refine (prime_c p _).mono ?_
  rintro e W1 ⟨gp, cp, dp, op, Hp, rfl, Kp, Rp, Tp, hb⟩
  have S1 := (S0.keep hb).cons Tp.out
  clear hb
  go_wp2_with fail
  refine (power256_s _).mono ?_
  rintro e W2 ⟨g2, c2, d2, o2, H2, rfl, R2, T2, hb⟩
  have S2 := (S1.keep hb).cons T2.out
  clear hb
  go_wp2_with fail
  refine ((sub_d g2 0 c2 gp 0 cp d2 dp _ (S2.dg (List.Mem.head _) R2.out) (S2.dg (List.Mem.tail _ (List.Mem.head _)) Rp.out) (by rw [H2.out.2.2]; decide) (by rw [Hp.out.2.2]; decide) H2.out.2.1 Hp.out.2.1 (by rw [H2.out.1, Hp.out.1]; exact Nat.le_of_lt (prm_lt p))).mono fun _ _ h => h.t).mono ?_
  rintro e W3 ⟨gg, cg, dG, og, H3, rfl, Kg, Rg, Tg, hb⟩
  have S3 := (S2.keep hb).cons Tg.out
  clear hb
  go_wp2_with fail
  refine (trim_d gg cg dG _ (dg_of Tg Rg) (by rw [H3.out.2.2, H2.out.2.2]; decide) Kg.out).mono ?_
  rintro e W4 ⟨⟨G, M1, rfl⟩, rfl⟩
  have RG : Hid (DRow G og) := by obtain ⟨-, -, -, m, h⟩ := M1.out; rw [h]; exact Rg.out.take m
  have HGv : Hid (val G = GAP p ∧ Digs G ∧ Trimmed G ∧ G.length ≤ 9) := by
    have h1 : val G = GAP p := by rw [M1.out.1, H3.out.1, H2.out.1, Hp.out.1]; rfl
    have h2 : Trimmed G := M1.out.2.1
    exact ⟨h1, by obtain ⟨-, -, -, m, h⟩ := M1.out; rw [h]; exact digs_take H3.out.2.1 m, h2, trimmed_len h2 (by rw [h1]; exact Nat.lt_trans (gap_small p) (by decide +kernel))⟩
  obtain ⟨L, hL⟩ : ∃ L, L = [(gg, og), (gp, op)] := ⟨_, rfl⟩
  have SL : St w L W3 := S3.drop (by rw [hL]; intro q hq; simp at hq; rcases hq with rfl | rfl; exact List.Mem.head _; exact List.Mem.tail _ (List.Mem.tail _ (List.Mem.head _)))
  have S0' := Lib.hid (S3.get (List.Mem.tail _ (List.Mem.tail _ (List.Mem.tail _ (List.Mem.head _)))))
  have jg : (gg, og) ∈ L := by rw [hL]; exact List.Mem.head _
  have jp : (gp, op) ∈ L := by rw [hL]; exact List.Mem.tail _ (List.Mem.head _)
  clear hL S3 S2 S1 S0 T2 Tg Tp
  go_wp2_with fail
  refine (trim_d g0 c0 ds _ (dg_of S0' HR) (by have := HL.out; omega) HC.out).mono ?_
  rintro e W4 ⟨⟨z0, M0, rfl⟩, rfl⟩
  have I0 : Hid (ModInv w L p t (val ds) g0 c0 z0 o0 W3) := by
    obtain ⟨h1, h2, h3, m, h4⟩ := M0.out
    exact ⟨SL, S0'.out, by rw [h4]; exact HR.out.take m, by have := HC.out; omega, by have := HL.out; omega, by rw [h4]; exact digs_take HD.out m, h2, by rw [h1]; exact HT.out, h1.symm⟩
  go_wp2_with fail
  go_loopg [0] (val ds) (fun k v wr => ∃ g c : Nat, ∃ z : List Nat, ∃ o, v = sv g 0 z.length c ∧ Hid (ModInv w L p t k g c z o wr))
  case atStart => exact ⟨g0, c0, z0, o0, rfl, I0⟩
  case round =>
    obtain ⟨g, c, z, o, rfl, J⟩ := hrel
    have SJ := J.out.st
    have TJ := Lib.hid J.out.row
    have RJ := Lib.hid J.out.drow
    have hzc : ((z.length : Nat) : Int) ≤ c := by have := J.out.cap; omega
    have hzl : ((z.length : Nat) : Int) ≤ 64 := by have := J.out.len; omega
    by_cases h16 : 16 < z.length
    · have h16i : (16 : Int) < z.length := by omega
      have h16j : (16 : Int) ≤ z.length := by omega
      have hc16 : ¬ c = 16 := by omega
      have hc16i : (16 : Int) ≤ c := by omega
      obtain ⟨M, hM⟩ : ∃ M, M = (g, o) :: L := ⟨_, rfl⟩
      have SM : St w M wr := by rw [hM]; exact SJ.cons TJ.out
      have mg : (g, o) ∈ M := by rw [hM]; exact List.Mem.head _
      have mG : (gg, og) ∈ M := by rw [hM]; exact List.Mem.tail _ jg
      have hLM : Hid (∀ q, q ∈ L → q ∈ M) := by rw [hM]; exact fun q hq => List.Mem.tail _ hq
      clear hM
      have CMu : Hid (∀ W, St w M W → Calls Try.prog 66 #[.slice (some ⟨g, 16, none⟩) (z.length - 16) (c - 16), sv gg 0 G.length cg] W (RetT W fun x => val x = val (z.drop 16) * GAP p ∧ Digs x ∧ x.length ≤ 60)) := fun W S => by
        have h := mul_d g 16 (c - 16) gg 0 cg (z.drop 16) G W (dgo_of (S.get mg) RJ 16) (dg_of (S.get mG) RG) (by rw [List.length_drop]; have := J.out.len; omega) (by have := HGv.out.2.2.2; omega) (digs_drop J.out.digs 16) HGv.out.2.1
        rw [List.length_drop] at h
        refine h.mono fun e w' hh => ?_
        obtain ⟨gm, cm, dm, om, hQ, rest⟩ := hh.t
        exact ⟨gm, cm, dm, om, ⟨by rw [hQ.out.1, HGv.out.1], hQ.out.2.1, by rw [hQ.out.2.2]; have := J.out.len; have := HGv.out.2.2.2; omega⟩, rest⟩
      have CAd : Hid (∀ W gm cm dm om, Hid (val dm = val (z.drop 16) * GAP p ∧ Digs dm ∧ dm.length ≤ 60) → Hid (DRow dm om) → Hid (W.heap[gm]? = some om) → St w M W → Calls Try.prog 65 #[.slice (some ⟨g, 0, none⟩) 16 c, sv gm 0 dm.length cm] W (RetT W fun x => val x = val (z.take 16) + val (z.drop 16) * GAP p ∧ Digs x ∧ x.length ≤ 61)) := fun W gm cm dm om hQ hr hg S => by
        have hl16 : (z.take 16).length = 16 := by rw [List.length_take]; omega
        have h := add_d g 0 c gm 0 cm 60 (z.take 16) dm W (dgt_of (S.get mg) RJ 16) (dg_of hg hr) (by omega) hQ.out.2.2 (by decide) (digs_take J.out.digs 16) hQ.out.2.1
        rw [hl16] at h
        refine h.mono fun e w' hh => ?_
        obtain ⟨gs, cs, dss, os, hQ2, rest⟩ := hh.t
        exact ⟨gs, cs, dss, os, ⟨by rw [hQ2.out.1, hQ.out.1], hQ2.out.2.1, hQ2.out.2.2⟩, rest⟩
      have CTr : Hid (∀ W gs cs dss os, Hid (val dss = val (z.take 16) + val (z.drop 16) * GAP p ∧ Digs dss ∧ dss.length ≤ 61) → Hid (dss.length ≤ cs) → Hid (DRow dss os) → Hid (W.heap[gs]? = some os) → Calls Try.prog 86 #[sv gs 0 dss.length cs] W (RetTrim W gs cs dss)) := fun W gs cs dss os hQ hk hr hg =>
        trim_d gs cs dss W (dg_of hg hr) (by have := hQ.out.2.2; omega) hk.out
      have HV : Hid (∀ v, v = val (z.take 16) + val (z.drop 16) * GAP p → v % PRM p = t ∧ v < val z) := fun v hv => by
        have e := split16 z
        have e2 : W256 * val (z.drop 16) = val (z.drop 16) * GAP p + PRM p * val (z.drop 16) := by rw [← prm_gap p, Nat.add_mul, Nat.mul_comm (val (z.drop 16))]; omega
        obtain ⟨n, hn⟩ : ∃ n, z.length = n + 1 := ⟨z.length - 1, by omega⟩
        have h1 := trimmed_pos J.out.trim hn
        have h2 : val (z.take 16) < W256 := by
          have := val_lt (z.take 16) (digs_take J.out.digs 16)
          rw [List.length_take, Nat.min_eq_left (by omega)] at this
          have hp : 65536 ^ 16 = W256 := by decide +kernel
          rw [hp] at this; exact this
        have h3 : W256 ≤ 65536 ^ n := by
          have hp : 65536 ^ 16 = W256 := by decide +kernel
          rw [← hp]; exact Nat.pow_le_pow_right (by decide) (by omega)
        have h4 : 0 < val (z.drop 16) := by
          rcases Nat.eq_zero_or_pos (val (z.drop 16)) with h0 | h0
          · rw [h0] at e; omega
          · exact h0
        have h5 : 0 < PRM p * val (z.drop 16) := Nat.mul_pos (by have := prm_big p; omega) h4
        refine ⟨?_, by rw [hv]; omega⟩
        rw [hv, ← J.out.rest, e, e2, ← Nat.add_assoc, Nat.add_mul_mod_self_left]
      go_wp2_with fail
      have SMd := SM.drew
      go_region_held3 (fun w' => St w M w') (first | (exact St.keep (by assumption) (by assumption)) | assumption)
        (first
          | (go_at_call 66; (with_reducible refine (CMu.out _ (by assumption)).mono ?_); rintro e w' ⟨gm, cm, dm, om, Hm, rfl, Km, Rm, Tm, hbm⟩)
          | (go_at_call 65; (with_reducible refine (CAd.out _ gm cm dm om Hm Rm Tm (by assumption)).mono ?_); rintro e w' ⟨gs, cs, dss, os, Hs, rfl, Ks, Rs, Ts, hbs⟩)
          | (go_at_call 86; (with_reducible refine (CTr.out _ gs cs dss os Hs Ks Rs Ts).mono ?_); rintro e w' ⟨⟨zt, Mt, rfl⟩, rfl⟩))
      have SF := (show St w M w' by assumption)
      have FI : Hid (ModInv w L p t (val zt) gs cs zt os w') := by
        obtain ⟨h1, h2, h3, m, h4⟩ := Mt.out
        have hv := HV.out (val zt) (h1.trans Hs.out.1)
        exact ⟨SF.drop hLM.out, Ts.out, by rw [h4]; exact Rs.out.take m, by have := Ks.out; omega, by
          have h5 := Hs.out.2.2; omega, by rw [h4]; exact digs_take Hs.out.2.1 m, h2, hv.1, rfl⟩
      have hdec : Hid (val zt < gk) := by rw [J.out.ghost]; exact (HV.out (val zt) (Mt.out.1.trans Hs.out.1)).2
      go_wp2_with fail
      go_roundg (val zt)
      case measure => exact hdec.out
      case rel => exact ⟨gs, cs, zt, os, rfl, FI⟩
    · have h16i : ¬ (16 : Int) < z.length := by omega
      have I1 : Hid (ModInv w L p t (val z) g c z o wr ∧ z.length ≤ 16) := ⟨⟨J.out.st, J.out.row, J.out.drow, J.out.cap, J.out.len, J.out.digs, J.out.trim, J.out.rest, rfl⟩, by omega⟩
      clear J SJ TJ RJ hzc hzl h16 I0
      go_wp2_with fail
      go_loopg [0] (val z) (fun k v wr => ∃ g c : Nat, ∃ z : List Nat, ∃ o, v = sv g 0 z.length c ∧ Hid (ModInv w L p t k g c z o wr ∧ z.length ≤ 16))
      case atStart => exact ⟨g, c, z, o, rfl, I1⟩
      case round =>
        obtain ⟨g, c, z, o, rfl, J⟩ := hrel
        have SJ := J.out.1.st
        have TJ := Lib.hid J.out.1.row
        have RJ := Lib.hid J.out.1.drow
        obtain ⟨cm, hcm⟩ : ∃ x, x = cmp (val z) (PRM p) := ⟨_, rfl⟩
        have CC : Hid (Calls Try.prog 45 #[sv g 0 z.length c, sv gp 0 dp.length cp] wr fun e w' => e = .returned (.int .i64 cm) ∧ wr = w') := by
          have := compare_c g 0 c gp 0 cp z dp wr (dg_of TJ RJ) (SJ.dg jp Rp.out) (by have := J.out.2; omega) (by rw [Hp.out.2.2]; decide) J.out.1.digs Hp.out.2.1
          rwa [Hp.out.1, ← hcm] at this
        by_cases hge : PRM p ≤ val z
        · have hcmd : decide (0 ≤ cm) = true := by rw [hcm]; unfold cmp; rw [if_neg (by omega)]; split <;> decide
          clear hcm
          go_wp2_with fail
          refine CC.out.mono ?_
          rintro e W5 ⟨rfl, rfl⟩
          go_wp2_with fail
          refine ((sub_d g 0 c gp 0 cp z dp _ (dg_of TJ RJ) (SJ.dg jp Rp.out) (by have := J.out.2; omega) (by rw [Hp.out.2.2]; decide) J.out.1.digs Hp.out.2.1 (by rw [Hp.out.1]; exact hge)).mono fun _ _ h => h.t).mono ?_
          rintro e W6 ⟨gs, cs, dss, os, Hs, rfl, Ks, Rs, Ts, hb⟩
          have S6 := SJ.keep hb
          clear hb
          go_wp2_with fail
          refine (trim_d gs cs dss _ (dg_of Ts Rs) (by rw [Hs.out.2.2]; have := J.out.2; omega) Ks.out).mono ?_
          rintro e W7 ⟨⟨zt, Mt, rfl⟩, rfl⟩
          have HV : Hid (val zt = val z - PRM p) := by rw [Mt.out.1, Hs.out.1, Hp.out.1]; rfl
          have FI : Hid (ModInv w L p t (val zt) gs cs zt os W6 ∧ zt.length ≤ 16) := by
            obtain ⟨h1, h2, h3, m, h4⟩ := Mt.out
            have h5 := Hs.out.2.2; have h6 := J.out.2
            exact ⟨⟨S6, Ts.out, by rw [h4]; exact Rs.out.take m, by have := Ks.out; omega, by omega, by rw [h4]; exact digs_take Hs.out.2.1 m, h2, by rw [HV.out, ← J.out.1.rest, ← Nat.mod_eq_sub_mod hge], rfl⟩, by omega⟩
          have hdec : Hid (val zt < gk) := by
            have h1 := HV.out; have h2 := J.out.1.ghost; have h3 := prm_big p; unfold Hid; omega
          go_wp2_with fail
          go_roundg (val zt)
          case measure => exact hdec.out
          case rel => exact ⟨gs, cs, zt, os, rfl, FI⟩
        · have hcmd : decide (0 ≤ cm) = false := by rw [hcm, cmp_lt (by omega)]; rfl
          have HF : Hid (RetT w (fun z => val z = t ∧ Digs z ∧ z.length ≤ 16 ∧ Trimmed z) (.returned (sv g 0 z.length c)) wr) := ⟨g, c, z, o, ⟨by rw [← J.out.1.rest]; exact (Nat.mod_eq_of_lt (by omega)).symm, J.out.1.digs, J.out.2, J.out.1.trim⟩, rfl, J.out.1.cap, RJ, TJ, SJ.below⟩
          clear hcm
          go_wp2_with fail
          refine CC.out.mono ?_
          rintro e W5 ⟨rfl, rfl⟩
          go_wp2_with fail
          go_ret
          exact HF.out
end Go.Proofs.Ytknoamaapnbibaa
namespace Go.Proofs.Ytknoamaapnbibaa
open Go.RowKit
set_option maxRecDepth 100000 in
set_option maxHeartbeats 1000000 in
theorem rof_c (a : Nat) (ha : a < W256) (p : Bool) (w : World) : Calls Try.prog 36 #[wv a, .bool p] w (RetT w fun z => val z = a % PRM p ∧ Digs z ∧ z.length ≤ 16 ∧ Trimmed z) := by
  have HA := Lib.hid ha
  clear ha
  go_enter Try.func36, Try.ntmps36
  have S0 := (St.nil w).alloc (wrow a) _ rfl
  go_wp2_with (refine wpList_wide rfl _ rfl _ rfl S0 _ (List.Mem.head _) ?_)
  refine ((of_d a HA.out _).mono fun _ _ h => h.t).mono ?_
  rintro e W1 ⟨g1, c1, d1, o1, H1, rfl, K1, R1, T1, hb⟩
  have S1 := S0.keep hb
  clear hb
  go_wp2_with fail
  refine (mod_d g1 c1 o1 d1 p _ T1.out R1.out H1.out.2.1 (by rw [H1.out.2.2]; decide) K1.out).mono ?_
  rintro e W2 ⟨g2, c2, d2, o2, H2, rfl, K2, R2, T2, hb⟩
  have S2 := S1.keep hb
  clear hb
  go_wp2_with fail
  go_ret
  exact ⟨g2, c2, d2, o2, by rw [H1.out.1] at H2; exact H2, rfl, K2, R2, T2, S2.below⟩
set_option maxRecDepth 100000 in
set_option maxHeartbeats 1000000 in
theorem radd_c (gx cx gy cy : Nat) (x y : List Nat) (p : Bool) (w : World) (hx : Dg w gx 0 x) (hy : Dg w gy 0 y) (dx : Digs x) (dy : Digs y) (lx : x.length ≤ 16) (ly : y.length ≤ 16) :
    Calls Try.prog 37 #[sv gx 0 x.length cx, sv gy 0 y.length cy, .bool p] w (RetT w fun z => val z = (val x + val y) % PRM p ∧ Digs z ∧ z.length ≤ 16 ∧ Trimmed z) := by
  have HX := Lib.hid hx; have HY := Lib.hid hy; have DX := Lib.hid dx; have DY := Lib.hid dy
  clear hx hy dx dy
  go_enter Try.func37, Try.ntmps37
  go_wp2_with fail
  refine ((add_d gx 0 cx gy 0 cy 16 x y _ HX.out HY.out lx ly (by decide) DX.out DY.out).mono fun _ _ h => h.t).mono ?_
  rintro e W1 ⟨g1, c1, d1, o1, H1, rfl, K1, R1, T1, hb⟩
  have S1 := (St.nil w).keep hb
  clear hb
  go_wp2_with fail
  refine (mod_d g1 c1 o1 d1 p _ T1.out R1.out H1.out.2.1 (Nat.le_trans H1.out.2.2 (by decide)) K1.out).mono ?_
  rintro e W2 ⟨g2, c2, d2, o2, H2, rfl, K2, R2, T2, hb⟩
  have S2 := S1.keep hb
  clear hb
  go_wp2_with fail
  go_ret
  exact ⟨g2, c2, d2, o2, by rw [H1.out.1] at H2; exact H2, rfl, K2, R2, T2, S2.below⟩
set_option maxRecDepth 100000 in
set_option maxHeartbeats 1000000 in
theorem rmul_c (gx cx gy cy : Nat) (x y : List Nat) (p : Bool) (w : World) (hx : Dg w gx 0 x) (hy : Dg w gy 0 y) (dx : Digs x) (dy : Digs y) (lx : x.length ≤ 16) (ly : y.length ≤ 16) :
    Calls Try.prog 39 #[sv gx 0 x.length cx, sv gy 0 y.length cy, .bool p] w (RetT w fun z => val z = val x * val y % PRM p ∧ Digs z ∧ z.length ≤ 16 ∧ Trimmed z) := by
  have HX := Lib.hid hx; have HY := Lib.hid hy; have DX := Lib.hid dx; have DY := Lib.hid dy
  clear hx hy dx dy
  go_enter Try.func39, Try.ntmps39
  go_wp2_with fail
  refine ((mul_d gx 0 cx gy 0 cy x y _ HX.out HY.out (by omega) (by omega) DX.out DY.out).mono fun _ _ h => h.t).mono ?_
  rintro e W1 ⟨g1, c1, d1, o1, H1, rfl, K1, R1, T1, hb⟩
  have S1 := (St.nil w).keep hb
  clear hb
  go_wp2_with fail
  refine (mod_d g1 c1 o1 d1 p _ T1.out R1.out H1.out.2.1 (by rw [H1.out.2.2]; omega) K1.out).mono ?_
  rintro e W2 ⟨g2, c2, d2, o2, H2, rfl, K2, R2, T2, hb⟩
  have S2 := S1.keep hb
  clear hb
  go_wp2_with fail
  go_ret
  exact ⟨g2, c2, d2, o2, by rw [H1.out.1] at H2; exact H2, rfl, K2, R2, T2, S2.below⟩
set_option maxRecDepth 100000 in
set_option maxHeartbeats 1000000 in
theorem rsub_c (gx cx gy cy : Nat) (x y : List Nat) (p : Bool) (w : World) (hx : Dg w gx 0 x) (hy : Dg w gy 0 y) (dx : Digs x) (dy : Digs y) (lx : x.length ≤ 16) (ly : y.length ≤ 16) (hle : val y < PRM p) :
    Calls Try.prog 43 #[sv gx 0 x.length cx, sv gy 0 y.length cy, .bool p] w (RetT w fun z => val z = (val x + PRM p - val y) % PRM p ∧ Digs z ∧ z.length ≤ 16 ∧ Trimmed z) := by
  have HX := Lib.hid hx; have HY := Lib.hid hy; have DX := Lib.hid dx; have DY := Lib.hid dy; have HL := Lib.hid hle
  clear hx hy dx dy hle
  go_enter Try.func43, Try.ntmps43
  go_wp2_with fail
  refine (prime_c p _).mono ?_
  rintro e W0 ⟨g0, c0, d0, o0, H0, rfl, K0, R0, T0, hb⟩
  have HX0 := Lib.hid (HX.out.keep hb); have HY0 := Lib.hid (HY.out.keep hb)
  have S0 := (St.nil w).keep hb
  clear hb
  go_wp2_with fail
  refine ((add_d gx 0 cx g0 0 c0 16 x d0 _ HX0.out (dg_of T0 R0) lx (by rw [H0.out.2.2]; decide) (by decide) DX.out H0.out.2.1).mono fun _ _ h => h.t).mono ?_
  rintro e W1 ⟨g1, c1, d1, o1, H1, rfl, K1, R1, T1, hb⟩
  have HY1 := Lib.hid (HY0.out.keep hb)
  have S1 := S0.keep hb
  clear hb
  go_wp2_with fail
  refine ((sub_d g1 0 c1 gy 0 cy d1 y _ (dg_of T1 R1) HY1.out (Nat.le_trans H1.out.2.2 (by decide)) (by omega) H1.out.2.1 DY.out (by rw [H1.out.1, H0.out.1]; have := HL.out; omega)).mono fun _ _ h => h.t).mono ?_
  rintro e W2 ⟨g2, c2, d2, o2, H2, rfl, K2, R2, T2, hb⟩
  have S2 := S1.keep hb
  clear hb
  go_wp2_with fail
  refine (mod_d g2 c2 o2 d2 p _ T2.out R2.out H2.out.2.1 (by rw [H2.out.2.2]; exact Nat.le_trans H1.out.2.2 (by decide)) K2.out).mono ?_
  rintro e W3 ⟨g3, c3, d3, o3, H3, rfl, K3, R3, T3, hb⟩
  have S3 := S2.keep hb
  clear hb
  go_wp2_with fail
  go_ret
  exact ⟨g3, c3, d3, o3, by rw [H2.out.1, H1.out.1, H0.out.1] at H3; exact H3, rfl, K3, R3, T3, S3.below⟩
end Go.Proofs.Ytknoamaapnbibaa
namespace Go.Proofs.Ytknoamaapnbibaa
open Go.RowKit
theorem mulmod_pow (X a b M : Nat) : (X ^ a % M) * (X ^ b % M) % M = X ^ (a + b) % M := by rw [← Nat.mul_mod, ← Nat.pow_add]
theorem trimmed_one : Trimmed [1] := fun n hn => by
  obtain rfl : n = 0 := by simpa using hn.symm
  decide
/-- What Pow's loops hold when e bits are done. -/
structure RpInv (w : World) (L : List (Nat × Obj)) (p : Bool) (X N e gO cO : Nat) (zO : List Nat) (oO : Obj) (gS : Nat) (zS : List Nat) (oS : Obj) (wr : World) : Prop where
  st : St w L wr
  rowO : Hid (wr.heap[gO]? = some oO)
  drO : Hid (DRow zO oO)
  qO : Hid (val zO = X ^ (N % 2 ^ e) % PRM p ∧ Digs zO ∧ zO.length ≤ 16 ∧ Trimmed zO)
  capO : Hid (zO.length ≤ cO)
  rowS : Hid (wr.heap[gS]? = some oS)
  drS : Hid (DRow zS oS)
  qS : Hid (val zS = X ^ (2 ^ e) % PRM p ∧ Digs zS ∧ zS.length ≤ 16 ∧ Trimmed zS)
set_option maxRecDepth 100000 in
set_option maxHeartbeats 8000000 in
theorem rpow_c (gx cx gn cn : Nat) (x nd : List Nat) (ox on : Obj) (p : Bool) (w : World) (hx : w.heap[gx]? = some ox) (rx : DRow x ox) (dx : Digs x) (lx : x.length ≤ 16) (kx : x.length ≤ cx) (hn : w.heap[gn]? = some on) (rn : DRow nd on) (dn : Digs nd) (ln : nd.length ≤ 16) :
    Calls Try.prog 67 #[sv gx 0 x.length cx, sv gn 0 nd.length cn, .bool p] w (RetT w fun z => val z = val x ^ val nd % PRM p ∧ Digs z ∧ z.length ≤ 16 ∧ Trimmed z) := by
  have HX := Lib.hid hx; have RX := Lib.hid rx; have DX := Lib.hid dx; have HN := Lib.hid hn; have RN := Lib.hid rn; have DN := Lib.hid dn; have KX := Lib.hid kx
  have hln : ((nd.length : Nat) : Int) ≤ 16 := by omega
  clear hx rx dx hn rn dn kx
  go_enter Try.func67, Try.ntmps67
  have S0 := (((St.nil w).cons HX.out).cons HN.out).alloc (.cells #[.int .u64 1] 22) _ rfl
  go_wp2_with fail
  refine (mod_d gx cx ox x p _ (S0.get (List.Mem.tail _ (List.Mem.tail _ (List.Mem.head _)))) RX.out DX.out (by omega) KX.out).mono ?_
  rintro e W1 ⟨gs, cs, zs, os, Hs, rfl, Ks, Rs, Ts, hb⟩
  have S1 := S0.keep hb
  clear hb
  obtain ⟨L, hL⟩ : ∃ L, L = [(gn, on)] := ⟨_, rfl⟩
  have SL : St w L W1 := S1.drop (by rw [hL]; intro q hq; simp at hq; subst hq; exact List.Mem.tail _ (List.Mem.head _))
  have jn : (gn, on) ∈ L := by rw [hL]; exact List.Mem.head _
  have I0 : Hid (RpInv w L p (val x) (val nd) 0 w.heap.size 1 [1] (.cells #[.int .u64 1] 22) gs zs os W1) :=
    ⟨SL, S1.get (List.Mem.head _), ⟨_, rfl, fun i hi => by
      obtain rfl : i = 0 := by simpa using hi
      rfl⟩, ⟨by rw [Nat.pow_zero, Nat.mod_one, Nat.pow_zero, Nat.mod_eq_of_lt (by have := prm_big p; omega)]; rfl, digs_one, by decide, trimmed_one⟩, Nat.le_refl 1, Ts, Rs, by rw [Nat.pow_zero, Nat.pow_one]; exact Hs⟩
  clear hL S1 S0 SL
  go_wp2_with fail
  go_loopw [7, 8, 18] (fun v7 v8 iv wr => ∃ i gO cO zO oO gS cS zS oS, v7 = sv gO 0 zO.length cO ∧ v8 = sv gS 0 zS.length cS ∧ iv = .int .i64 ((i : Nat) : Int) ∧ i ≤ nd.length ∧ Hid (RpInv w L p (val x) (val nd) (16 * i) gO cO zO oO gS zS oS wr)) (fun _ _ iv _ => nd.length - (intOf iv).toNat)
  case atStart => exact ⟨0, _, _, [1], _, _, _, zs, _, rfl, rfl, rfl, Nat.zero_le _, I0⟩
  case round =>
    obtain ⟨i, gO, cO, zO, oO, gS, cS, zS, oS, rfl, rfl, rfl, hi, J⟩ := hrel
    by_cases hil : i < nd.length
    · have hili : (i : Int) < nd.length := by omega
      have rc := (J.out.st.dg jn RN.out).cell i hil
      rw [Nat.zero_add] at rc
      have hd : ((dg nd i : Nat) : Int) < 65536 := by have := digs_at nd DN.out i; omega
      have J0 : Hid (RpInv w L p (val x) (val nd) (16 * i + 0) gO cO zO oO gS zS oS wr) := J
      clear J
      go_wp2_with fail
      go_loopw [7, 8, 11] (fun v7 v8 kv wr => ∃ k gO cO zO oO gS cS zS oS, v7 = sv gO 0 zO.length cO ∧ v8 = sv gS 0 zS.length cS ∧ kv = .int .i64 ((k : Nat) : Int) ∧ k ≤ 16 ∧ Hid (RpInv w L p (val x) (val nd) (16 * i + k) gO cO zO oO gS zS oS wr)) (fun _ _ kv _ => 16 - (intOf kv).toNat)
      case atStart => exact ⟨0, _, _, zO, _, _, _, zS, _, rfl, rfl, rfl, by decide, J0⟩
      case round =>
        clear J0
        obtain ⟨k, gO, cO, zO, oO, gS, cS, zS, oS, rfl, rfl, rfl, hk, KH⟩ := hrel
        by_cases hk16 : k < 16
        · have hki : (k : Int) < 16 := by omega
          obtain ⟨s, hs⟩ : ∃ s, dg nd i / 2 ^ k = s := ⟨_, rfl⟩
          have hsi : ((dg nd i : Nat) : Int) / 2 ^ k = s := by rw [cast_div_pow, hs]
          have hbit : Hid (s % 2 = val nd / 2 ^ (16 * i + k) % 2) := by
            have := bit_of nd DN.out (16 * i + k)
            rw [show (16 * i + k) / 16 = i by omega, show (16 * i + k) % 16 = k by omega, hs] at this
            exact this.symm
          have CSQ : Hid (∀ W, Hid (W.heap[gS]? = some oS) → Calls Try.prog 39 #[sv gS 0 zS.length cS, sv gS 0 zS.length cS, .bool p] W (RetT W fun z => val z = val x ^ (2 ^ (16 * i + (k + 1))) % PRM p ∧ Digs z ∧ z.length ≤ 16 ∧ Trimmed z)) := fun W h => by
            have := rmul_c gS cS gS cS zS zS p W (dg_of h KH.out.drS) (dg_of h KH.out.drS) KH.out.qS.out.2.1 KH.out.qS.out.2.1 KH.out.qS.out.2.2.1 KH.out.qS.out.2.2.1
            rwa [KH.out.qS.out.1, mulmod_pow, show 2 ^ (16 * i + k) + 2 ^ (16 * i + k) = 2 ^ (16 * i + (k + 1)) by rw [← Nat.add_assoc, Nat.pow_succ]; omega] at this
          have hup := Lib.hid (Nat.mod_pow_succ (x := val nd) (b := 2) (k := 16 * i + k))
          clear hs
          by_cases hb1 : s % 2 = 1
          · have hb1i : (s : Int) % 2 = 1 := by omega
            have CMU : Hid (Calls Try.prog 39 #[sv gO 0 zO.length cO, sv gS 0 zS.length cS, .bool p] wr (RetT wr fun z => val z = val x ^ (val nd % 2 ^ (16 * i + (k + 1))) % PRM p ∧ Digs z ∧ z.length ≤ 16 ∧ Trimmed z)) := by
              have := rmul_c gO cO gS cS zO zS p wr (dg_of KH.out.rowO KH.out.drO) (dg_of KH.out.rowS KH.out.drS) KH.out.qO.out.2.1 KH.out.qS.out.2.1 KH.out.qO.out.2.2.1 KH.out.qS.out.2.2.1
              rw [KH.out.qO.out.1, KH.out.qS.out.1, mulmod_pow] at this
              have e : val nd % 2 ^ (16 * i + (k + 1)) = val nd % 2 ^ (16 * i + k) + 2 ^ (16 * i + k) := by
                rw [← Nat.add_assoc, hup.out, ← hbit.out, hb1, Nat.mul_one]
              rwa [← e] at this
            clear hb1
            go_wp2_with fail
            refine CMU.out.mono ?_
            rintro e W3 ⟨g3, c3, z3, o3, H3, rfl, K3, R3, T3, hb⟩
            have S3 := KH.out.st.keep hb
            have TS := Lib.hid (keepH hb KH.out.rowS.out)
            clear hb
            go_wp2_with fail
            refine (CSQ.out _ TS).mono ?_
            rintro e W4 ⟨g4, c4, z4, o4, H4, rfl, K4, R4, T4, hb⟩
            have FI : Hid (RpInv w L p (val x) (val nd) (16 * i + (k + 1)) g3 c3 z3 o3 g4 z4 o4 W4) := ⟨S3.keep hb, keepH hb T3.out, R3, H3, K3, T4, R4, H4⟩
            clear hb
            go_wp2_with fail
            go_roundw
            case rel => exact ⟨k + 1, _, _, z3, _, _, _, z4, _, rfl, rfl, by go_num, by omega, FI⟩
            case measure => simp [intOf]; omega
          · have hb0i : (s : Int) % 2 = 0 := by omega
            have e : val nd % 2 ^ (16 * i + (k + 1)) = val nd % 2 ^ (16 * i + k) := by
              rw [← Nat.add_assoc, hup.out, ← hbit.out, show s % 2 = 0 by omega, Nat.mul_zero, Nat.add_zero]
            have HE := Lib.hid e
            clear hb1 e
            go_wp2_with fail
            refine (CSQ.out _ KH.out.rowS).mono ?_
            rintro e W4 ⟨g4, c4, z4, o4, H4, rfl, K4, R4, T4, hb⟩
            have FI : Hid (RpInv w L p (val x) (val nd) (16 * i + (k + 1)) gO cO zO oO g4 z4 o4 W4) := ⟨KH.out.st.keep hb, keepH hb KH.out.rowO.out, KH.out.drO, by rw [HE.out]; exact KH.out.qO, KH.out.capO, T4, R4, H4⟩
            clear hb
            go_wp2_with fail
            go_roundw
            case rel => exact ⟨k + 1, _, _, zO, _, _, _, z4, _, rfl, rfl, by go_num, by omega, FI⟩
            case measure => simp [intOf]; omega
        · obtain rfl : k = 16 := by omega
          have FI : Hid (RpInv w L p (val x) (val nd) (16 * (i + 1)) gO cO zO oO gS zS oS wr) := by
            rw [show 16 * (i + 1) = 16 * i + 16 by omega]; exact KH
          clear KH hk16
          go_wp2_with fail
          go_roundw
          case rel => exact ⟨i + 1, _, _, zO, _, _, _, zS, _, rfl, rfl, by go_num, by omega, FI⟩
          case measure => simp [intOf]; omega
    · have hili : ¬ (i : Int) < nd.length := by omega
      obtain rfl : i = nd.length := by omega
      have KH := J
      have HE : Hid (val nd % 2 ^ (16 * nd.length) = val nd) := by
        have := val_lt nd DN.out
        rw [show (65536 : Nat) = 2 ^ 16 from rfl, ← Nat.pow_mul] at this
        exact Nat.mod_eq_of_lt this
      have HQ : Hid (val zO = val x ^ val nd % PRM p ∧ Digs zO ∧ zO.length ≤ 16 ∧ Trimmed zO) := by have := KH.out.qO; rw [HE.out] at this; exact this
      clear J
      go_wp2_with fail
      go_ret
      exact ⟨gO, cO, zO, oO, HQ.out, rfl, KH.out.capO.out, KH.out.drO.out, KH.out.rowO.out, KH.out.st.below⟩
end Go.Proofs.Ytknoamaapnbibaa
namespace Go.Proofs.Ytknoamaapnbibaa
open Go.RowKit
theorem drow_two : DRow [2] (.cells #[.int .u64 2] 22) := ⟨_, rfl, fun i hi => by
  obtain rfl : i = 0 := by simpa using hi
  rfl⟩
theorem digs_two : Digs [2] := fun d hd => by
  obtain rfl : d = 2 := by simpa using hd
  decide
set_option maxRecDepth 100000 in
set_option maxHeartbeats 1000000 in
theorem rinv_c (gx cx : Nat) (x : List Nat) (ox : Obj) (p : Bool) (w : World) (hx : w.heap[gx]? = some ox) (rx : DRow x ox) (dx : Digs x) (lx : x.length ≤ 16) (kx : x.length ≤ cx) :
    Calls Try.prog 41 #[sv gx 0 x.length cx, .bool p] w (RetT w fun z => val z = val x ^ (PRM p - 2) % PRM p ∧ Digs z ∧ z.length ≤ 16 ∧ Trimmed z) := by
  have HX := Lib.hid hx; have RX := Lib.hid rx; have DX := Lib.hid dx; have KX := Lib.hid kx
  clear hx rx dx kx
  go_enter Try.func41, Try.ntmps41
  go_wp2_with fail
  refine (prime_c p _).mono ?_
  rintro e W0 ⟨g0, c0, d0, o0, H0, rfl, K0, R0, T0, hb⟩
  have S0 := ((((St.nil w).cons HX.out).keep hb).cons T0.out).alloc (.cells #[.int .u64 2] 22) _ rfl
  clear hb
  go_wp2_with fail
  refine ((sub_d g0 0 c0 _ 0 1 d0 [2] _ (dg_of (S0.get (List.Mem.tail _ (List.Mem.head _))) R0) (dg_of (S0.get (List.Mem.head _)) drow_two) (by rw [H0.out.2.2]; decide) (by decide) H0.out.2.1 digs_two (by rw [H0.out.1]; exact Nat.le_trans (by decide : val [2] ≤ 115792089237316195423570985008687907852837564279074904382605163141518161494336) (Nat.le_of_lt (prm_big p)))).mono fun _ _ h => h.t).mono ?_
  rintro e W1 ⟨g1, c1, d1, o1, H1, rfl, K1, R1, T1, hb⟩
  have S1 := (S0.keep hb).cons T1.out
  clear hb
  go_wp2_with fail
  refine (rpow_c gx cx g1 c1 x d1 ox o1 p _ (S1.get (List.Mem.tail _ (List.Mem.tail _ (List.Mem.tail _ (List.Mem.head _))))) RX.out DX.out lx KX.out (S1.get (List.Mem.head _)) R1 H1.out.2.1 (by rw [H1.out.2.2, H0.out.2.2]; decide)).mono ?_
  rintro e W2 ⟨g2, c2, d2, o2, H2, rfl, K2, R2, T2, hb⟩
  have S2 := S1.keep hb
  clear hb
  go_wp2_with fail
  go_ret
  exact ⟨g2, c2, d2, o2, by rw [H1.out.1, H0.out.1] at H2; exact H2, rfl, K2, R2, T2, S2.below⟩
end Go.Proofs.Ytknoamaapnbibaa
namespace Go.Proofs.Ytknoamaapnbibaa
open Go.RowKit
/-- A slice that is the number n in digits; t: without noughts ahead. -/
def DN (n : Nat) (t : Bool) (y : Lt) (W : World) : Prop := ∃ g ds o, y.a = some ⟨g, 0, none⟩ ∧ y.n = ds.length ∧ val ds = n ∧ Digs ds ∧ ds.length ≤ 16 ∧ (t = true → Trimmed ds) ∧ ds.length ≤ y.c ∧ DRow ds o ∧ W.heap[g]? = some o
theorem DN.stay {n : Nat} {t : Bool} : ∀ (y : Lt) (W W' : World), Below W.heap.size W W' → DN n t y W → DN n t y W' := fun _ _ _ hb ⟨g, ds, o, h1, h2, h3, h4, h5, h6, h7, h8, h9⟩ => ⟨g, ds, o, h1, h2, h3, h4, h5, h6, h7, h8, keepH hb h9⟩
def xdn (n : Nat) (t : Bool) (y : Lt) : Xt := ⟨false, fun b => y.a = some ⟨b, 0, none⟩, DN n t y, fun _ _ hk _ ⟨g, ds, o, h1, h2, h3, h4, h5, h6, h7, h8, h9⟩ => ⟨g, ds, o, h1, h2, h3, h4, h5, h6, h7, h8, (hk g h1 (lt_of_block h9)).trans h9⟩⟩
theorem Sx.dn {w W : World} {L : List (Nat × Obj)} {X : List Xt} (h : Sx w L X W) (i : Nat) {n : Nat} {t : Bool} {y : Lt} (hi : X[i]? = some (xdn n t y)) : DN n t y W := h.x i hi
theorem Sx.addD {w W : World} {L : List (Nat × Obj)} {X : List Xt} {n : Nat} {t : Bool} {y : Lt} (h : Sx w L X W) (hd : DN n t y W) (hL : rowsNot 22 L = true) (hX : (X.all fun q => !q.ex) = true) : Sx w L (xdn n t y :: X) W := by
  have hd' := hd
  obtain ⟨g, ds, o, h1, -, -, -, -, -, -, ⟨cur, rfl, -⟩, h9⟩ := hd'
  have hg : ∀ b, y.a = some ⟨b, 0, none⟩ → b = g := fun b hb => by rw [h1] at hb; cases hb; rfl
  refine h.addX _ hd (fun p hp e => ?_) (fun b hb => by rw [hg b hb]; exact lt_of_block h9) (fun q hq hx => ?_)
  · have e := hg _ e
    have h2 := h.rows p hp
    have h3 := List.all_eq_true.1 hL p hp
    rw [e, h9] at h2
    simp only [Option.some.injEq] at h2
    rw [← h2] at h3
    simp at h3
  · have := List.all_eq_true.1 hX q hq
    simp only [xdn, Bool.false_or] at hx
    rw [hx] at this; cases this
/-- A row of literal digits. -/
structure Lit (k n : Nat) (cs : Array Value) : Prop where
  ok : ∃ ds : List Nat, k = ds.length ∧ val ds = n ∧ Digs ds ∧ ds.length ≤ 16 ∧ Trimmed ds ∧ DRow ds (.cells cs 22 (0, 0))
theorem digs0 : Digs [] := fun _ h => by cases h
theorem trim0 : Trimmed [] := fun _ h => by cases h
theorem drow0 : DRow [] (.cells #[] 22 (0, 0)) := ⟨#[], rfl, fun i h => by cases h⟩
theorem lit0 : Lit 0 0 #[] := ⟨[], rfl, rfl, digs0, by decide, trim0, drow0⟩
theorem lit1 (n : Nat) (h0 : n ≠ 0 := by decide) (h : n < 65536 := by decide) : Lit 1 n #[.int .u64 (n : Int)] := ⟨[n], rfl, by simp [val], fun d hd => by rcases List.mem_singleton.1 hd with rfl; exact h, by simp, fun m hm => by
  have : m = 0 := by simpa using hm.symm
  subst this; exact h0, _, rfl, fun i hi => by
  have : i = 0 := by simp at hi; exact hi
  subst this; rfl⟩
theorem Lit.dn {k n g : Nat} {cs : Array Value} {W : World} (h : Lit k n cs) (hg : W.heap[g]? = some (.cells cs 22 (0, 0))) : DN n true (lt0 (some ⟨g, 0, none⟩) k k) W := by
  obtain ⟨ds, h1, h2, h3, h4, h5, h6⟩ := h.ok
  exact ⟨g, ds, _, rfl, h1, h2, h3, h4, fun _ => h5, Nat.le_of_eq h1.symm, h6, hg⟩
theorem Sx.lit {w W : World} {g k : Nat} {cs : Array Value} {L : List (Nat × Obj)} {X : List Xt} (h : Sx w ((g, .cells cs 22 (0, 0)) :: L) X W) (n : Nat) (hl : Lit k n cs) (hX : (X.all fun q => !q.ex) = true) : Sx w L (xdn n true (lt0 (some ⟨g, 0, none⟩) k k) :: X) W := by
  have hg : W.heap[g]? = some (.cells cs 22 (0, 0)) := h.rows _ (List.mem_cons_self ..)
  have h' : Sx w L X W := ⟨h.below, fun p hp => h.rows p (List.mem_cons_of_mem _ hp), (List.pairwise_cons.1 h.apart).2, h.ext, fun p hp => h.sep p (List.mem_cons_of_mem _ hp), h.bound, h.excl⟩
  refine h'.addX _ (hl.dn hg) (fun p hp e => ?_) (fun b hb => ?_) (fun q hq hx => ?_)
  · have e : some (⟨g, 0, none⟩ : Addr) = some ⟨p.1, 0, none⟩ := e
    cases e
    exact (List.pairwise_cons.1 h.apart).1 p hp rfl
  · have hb : some (⟨g, 0, none⟩ : Addr) = some ⟨b, 0, none⟩ := hb
    cases hb; exact lt_of_block hg
  · have := List.all_eq_true.1 hX q hq
    simp only [xdn, Bool.false_or] at hx
    rw [hx] at this; cases this
theorem toX {w W : World} {L : List (Nat × Obj)} {X : List Xt} {n : Nat} {t : Bool} {fid : FuncId} {vs : Array Value} (hL : rowsNot 22 L = true) (hX : (X.all fun q => !q.ex) = true) (S : Sx w L X W) (h : Calls Try.prog fid vs W fun e w' => ∃ z : Lt, e = .returned z.sl ∧ DN n t z w' ∧ Below W.heap.size W w') :
    Calls Try.prog fid vs W fun e w' => ∃ z : Lt, e = .returned z.sl ∧ Sx w L (xdn n t z :: X) w' := h.mono fun _ _ ⟨z, he, hd, hb⟩ => ⟨z, he, (S.keep hb).addD hd hL hX⟩
theorem retT_y {W w' : World} {e : Ending} {n : Nat} {t : Bool} {Q : List Nat → Prop} (h : RetT W Q e w') (hQ : ∀ z, Q z → val z = n ∧ Digs z ∧ z.length ≤ 16 ∧ (t = true → Trimmed z)) : ∃ z : Lt, e = .returned z.sl ∧ DN n t z w' ∧ Below W.heap.size W w' := by
  obtain ⟨g, c, ds, o, hq, he, hc, hr, hg, hb⟩ := h
  obtain ⟨h1, h2, h3, h4⟩ := hQ ds hq.out
  exact ⟨lt0 (some ⟨g, 0, none⟩) ds.length c, he, ⟨g, ds, o, rfl, rfl, h1, h2, h3, h4, hc.out, hr.out, hg.out⟩, hb⟩
/-- What digits are, written out. -/
theorem DN.open {n : Nat} {t : Bool} {y : Lt} {W : World} (h : DN n t y W) : ∃ g ds o, y.sl = sv g 0 ds.length y.c ∧ val ds = n ∧ Digs ds ∧ ds.length ≤ 16 ∧ (t = true → Trimmed ds) ∧ ds.length ≤ y.c ∧ DRow ds o ∧ W.heap[g]? = some o ∧ Dg W g 0 ds := by
  obtain ⟨g, ds, o, h1, h2, h3, h4, h5, h6, h7, h8, h9⟩ := h
  exact ⟨g, ds, o, by unfold Lt.sl; rw [h1, h2], h3, h4, h5, h6, h7, h8, h9, dg_of h9 h8⟩
namespace Ec
/-- What the document's other one is. -/
def riN (a : Nat) : Nat := a ^ (PRM true - 2) % PRM true
end Ec
section dig
variable {z a b : Nat} {s t p : Bool} {x y : Lt}
theorem mfm (h : z = Ec.fm (PRM p) a b) : z < PRM p := h ▸ Nat.mod_lt _ (by have := prm_big p; omega)
theorem mfa (h : z = Ec.fa (PRM p) a b) : z < PRM p := h ▸ Nat.mod_lt _ (by have := prm_big p; omega)
theorem mfs (h : z = Ec.fs (PRM p) a b) : z < PRM p := h ▸ Nat.mod_lt _ (by have := prm_big p; omega)
theorem mnu (h : z = a % PRM p) : z < PRM p := h ▸ Nat.mod_lt _ (by have := prm_big p; omega)
theorem sub_fs (hb : b < PRM p) : (a + PRM p - b) % PRM p = Ec.fs (PRM p) a b := by
  have hp : 0 < PRM p := by have := prm_big p; omega
  have hm := Nat.mod_lt a hp
  unfold Ec.fs
  rw [Nat.mod_eq_of_lt hb, show a + PRM p - b = (a % PRM p + PRM p - b) + PRM p * (a / PRM p) from by have := Nat.mod_add_div a (PRM p); omega, Nat.add_mul_mod_self_left]
theorem rmul_y (h : z = Ec.fm (PRM p) a b) (W : World) (hx : DN a s x W) (hy : DN b t y W) : Calls Try.prog 39 #[x.sl, y.sl, .bool p] W fun e w' => ∃ z' : Lt, e = .returned z'.sl ∧ DN z true z' w' ∧ Below W.heap.size W w' := by
  obtain ⟨g1, d1, o1, e1, v1, k1, l1, -, -, -, -, w1⟩ := hx.open
  obtain ⟨g2, d2, o2, e2, v2, k2, l2, -, -, -, -, w2⟩ := hy.open
  rw [e1, e2]
  refine (rmul_c g1 x.c g2 y.c d1 d2 p W w1 w2 k1 k2 l1 l2).mono fun e w' h' => retT_y h' fun z' hz => ⟨by rw [hz.1, v1, v2, h]; rfl, hz.2.1, hz.2.2.1, fun _ => hz.2.2.2⟩
theorem radd_y (h : z = Ec.fa (PRM p) a b) (W : World) (hx : DN a s x W) (hy : DN b t y W) : Calls Try.prog 37 #[x.sl, y.sl, .bool p] W fun e w' => ∃ z' : Lt, e = .returned z'.sl ∧ DN z true z' w' ∧ Below W.heap.size W w' := by
  obtain ⟨g1, d1, o1, e1, v1, k1, l1, -, -, -, -, w1⟩ := hx.open
  obtain ⟨g2, d2, o2, e2, v2, k2, l2, -, -, -, -, w2⟩ := hy.open
  rw [e1, e2]
  refine (radd_c g1 x.c g2 y.c d1 d2 p W w1 w2 k1 k2 l1 l2).mono fun e w' h' => retT_y h' fun z' hz => ⟨by rw [hz.1, v1, v2, h]; rfl, hz.2.1, hz.2.2.1, fun _ => hz.2.2.2⟩
theorem rsub_y (h : z = Ec.fs (PRM p) a b) (hb : b < PRM p) (W : World) (hx : DN a s x W) (hy : DN b t y W) : Calls Try.prog 43 #[x.sl, y.sl, .bool p] W fun e w' => ∃ z' : Lt, e = .returned z'.sl ∧ DN z true z' w' ∧ Below W.heap.size W w' := by
  obtain ⟨g1, d1, o1, e1, v1, k1, l1, -, -, -, -, w1⟩ := hx.open
  obtain ⟨g2, d2, o2, e2, v2, k2, l2, -, -, -, -, w2⟩ := hy.open
  rw [e1, e2]
  refine (rsub_c g1 x.c g2 y.c d1 d2 p W w1 w2 k1 k2 l1 l2 (by rw [v2]; exact hb)).mono fun e w' h' => retT_y h' fun z' hz => ⟨by rw [hz.1, v1, v2, h, sub_fs hb], hz.2.1, hz.2.2.1, fun _ => hz.2.2.2⟩
theorem rof_y (h : z = a % PRM p) (ha : a < W256) (W : World) : Calls Try.prog 36 #[wv a, .bool p] W fun e w' => ∃ z' : Lt, e = .returned z'.sl ∧ DN z true z' w' ∧ Below W.heap.size W w' :=
  (rof_c a ha p W).mono fun e w' h' => retT_y h' fun z' hz => ⟨by rw [hz.1, h], hz.2.1, hz.2.2.1, fun _ => hz.2.2.2⟩
theorem rinv_y {W : World} (h : z = Ec.riN a) (hx : DN a s x W) : Calls Try.prog 41 #[x.sl, .bool true] W fun e w' => ∃ z' : Lt, e = .returned z'.sl ∧ DN z true z' w' ∧ Below W.heap.size W w' := by
  obtain ⟨g1, d1, o1, e1, v1, k1, l1, -, c1, r1, w1, -⟩ := hx.open
  rw [e1]
  exact (rinv_c g1 x.c d1 o1 true W w1 r1 k1 l1 c1).mono fun e w' h' => retT_y h' fun z' hz => ⟨by rw [hz.1, v1, h]; rfl, hz.2.1, hz.2.2.1, fun _ => hz.2.2.2⟩
theorem rwide_y {W : World} (h : a < W256) (hx : DN a s x W) : Calls Try.prog 19 #[x.sl] W fun e w' => e = .returned (wv a) ∧ Below W.heap.size W w' := by
  obtain ⟨g1, d1, o1, e1, v1, k1, l1, -, c1, r1, w1, -⟩ := hx.open
  rw [e1]
  exact wide_g g1 x.c d1 o1 W w1 r1 (by omega) k1 a (by rw [v1]; exact Nat.mod_eq_of_lt h)
theorem cmp_y {W : World} (hx : DN a s x W) (hy : DN b t y W) : Calls Try.prog 45 #[x.sl, y.sl] W fun e w' => e = .returned (.int .i64 (cmp a b)) ∧ Below W.heap.size W w' := by
  obtain ⟨g1, d1, o1, e1, v1, k1, l1, -, -, -, -, w1⟩ := hx.open
  obtain ⟨g2, d2, o2, e2, v2, k2, l2, -, -, -, -, w2⟩ := hy.open
  rw [e1, e2]
  exact (compare_c g1 0 x.c g2 0 y.c d1 d2 W w1 w2 (by omega) (by omega) k1 k2).mono fun e w' ⟨he, hw⟩ => by subst hw; exact ⟨by rw [he, v1, v2], Below.refl _ _⟩
theorem rbits_y {W : World} (hx : DN a s x W) : Calls Try.prog 44 #[x.sl] W fun e w' => e = .returned (.int .i64 ((blen a : Nat) : Int)) ∧ Below W.heap.size W w' := by
  obtain ⟨g1, d1, o1, e1, v1, k1, l1, -, -, -, -, w1⟩ := hx.open
  rw [e1]
  exact (bits_d g1 0 x.c d1 W w1 (by omega) k1).mono fun e w' ⟨he, hw⟩ => by subst hw; exact ⟨by rw [he, v1], Below.refl _ _⟩
theorem of2_y (h : a < W256) (W : World) : Calls Try.prog 40 #[wv a] W fun e w' => ∃ z' : Lt, e = .returned z'.sl ∧ DN a false z' w' ∧ Below W.heap.size W w' :=
  (of_d a h W).mono fun e w' h' => retT_y h'.t fun z' hz => ⟨hz.1, hz.2.1, by omega, fun h => by cases h⟩
theorem prime_y (p : Bool) (W : World) : Calls Try.prog 20 #[.bool p] W fun e w' => ∃ z' : Lt, e = .returned z'.sl ∧ DN (PRM p) false z' w' ∧ Below W.heap.size W w' :=
  (prime_c p W).mono fun e w' h' => retT_y h' fun z' hz => ⟨hz.1, hz.2.1, by omega, fun h => by cases h⟩
end dig
end Go.Proofs.Ytknoamaapnbibaa
namespace Go.Proofs.Ytknoamaapnbibaa
open Go.RowKit
theorem Sx.two0 {w : World} {a b : Nat} {s t : Bool} {x y : Lt} (hx : DN a s x w) (hy : DN b t y w) : Sx w [] [xdn a s x, xdn b t y] w := ((Sx.nil w).addD hy rfl rfl).addD hx rfl rfl
set_option maxRecDepth 100000 in
theorem mul_y {a b z : Nat} {s t : Bool} {x y : Lt} (h : z = Ec.fm (PRM true) a b) {w : World} (hx : DN a s x w) (hy : DN b t y w) : Calls Try.prog 71 #[x.sl, y.sl] w fun e w' => ∃ z' : Lt, e = .returned z'.sl ∧ DN z true z' w' ∧ Below w.heap.size w w' := by
 refine enterQ 8 (fun q => .seq (q 0) (.seq (q 1) .ret)) (Sx.two0 hx hy) Try.func71 ?_
 refine Cd.sr ?_
 refine At.run 1 [] [] ?_
 refine At.nx ?_
 refine Cd.sr ?_
 obtain ⟨n1, en1⟩ : ∃ zz, zz = Ec.fm (PRM true) a b := ⟨_, rfl⟩
 refine At.callX 2 [] 7 (fun W S => toX (by kernel_rfl) rfl S (rmul_y en1 W (S.dn 0 rfl) (S.dn 1 rfl))) fun y2 => ?_
 refine At.run 1 [] [(4, y2.sl)] ?_
 refine At.nx ?_
 exact Cd.rv r0 [] (y2.sl) fun W S => by subst_vars; exact ⟨y2, rfl, (S.dn 0 rfl), S.below⟩
set_option maxRecDepth 100000 in
theorem add_y {a b z : Nat} {s t : Bool} {x y : Lt} (h : z = Ec.fa (PRM true) a b) {w : World} (hx : DN a s x w) (hy : DN b t y w) : Calls Try.prog 72 #[x.sl, y.sl] w fun e w' => ∃ z' : Lt, e = .returned z'.sl ∧ DN z true z' w' ∧ Below w.heap.size w w' := by
 refine enterQ 8 (fun q => .seq (q 0) (.seq (q 1) .ret)) (Sx.two0 hx hy) Try.func72 ?_
 refine Cd.sr ?_
 refine At.run 1 [] [] ?_
 refine At.nx ?_
 refine Cd.sr ?_
 obtain ⟨n1, en1⟩ : ∃ zz, zz = Ec.fa (PRM true) a b := ⟨_, rfl⟩
 refine At.callX 2 [] 7 (fun W S => toX (by kernel_rfl) rfl S (radd_y en1 W (S.dn 0 rfl) (S.dn 1 rfl))) fun y2 => ?_
 refine At.run 1 [] [(4, y2.sl)] ?_
 refine At.nx ?_
 exact Cd.rv r0 [] (y2.sl) fun W S => by subst_vars; exact ⟨y2, rfl, (S.dn 0 rfl), S.below⟩
set_option maxRecDepth 100000 in
theorem sub_y {a b z : Nat} {s t : Bool} {x y : Lt} (h : z = Ec.fs (PRM true) a b) (hb : b < PRM true) {w : World} (hx : DN a s x w) (hy : DN b t y w) : Calls Try.prog 73 #[x.sl, y.sl] w fun e w' => ∃ z' : Lt, e = .returned z'.sl ∧ DN z true z' w' ∧ Below w.heap.size w w' := by
 refine enterQ 8 (fun q => .seq (q 0) (.seq (q 1) .ret)) (Sx.two0 hx hy) Try.func73 ?_
 refine Cd.sr ?_
 refine At.run 1 [] [] ?_
 refine At.nx ?_
 refine Cd.sr ?_
 obtain ⟨n1, en1⟩ : ∃ zz, zz = Ec.fs (PRM true) a b := ⟨_, rfl⟩
 refine At.callX 2 [] 7 (fun W S => toX (by kernel_rfl) rfl S (rsub_y en1 hb W (S.dn 0 rfl) (S.dn 1 rfl))) fun y2 => ?_
 refine At.run 1 [] [(4, y2.sl)] ?_
 refine At.nx ?_
 exact Cd.rv r0 [] (y2.sl) fun W S => by subst_vars; exact ⟨y2, rfl, (S.dn 0 rfl), S.below⟩
set_option maxRecDepth 100000 in
theorem num_y {a z : Nat} (h : z = a % PRM true) (ha : a < W256) (w : World) : Calls Try.prog 70 #[wv a] w fun e w' => ∃ z' : Lt, e = .returned z'.sl ∧ DN z true z' w' ∧ Below w.heap.size w w' := by
 refine enterQ 5 (fun q => .seq (q 0) (.seq (q 1) .ret)) (Sx.nil w) Try.func70 ?_
 refine Cd.sr ?_
 refine At.new 0 [] 1 (limbs4 a) 24 fun g1 h1 => ?_
 refine At.run 1 [] [] ?_
 refine At.nx ?_
 refine Cd.sr ?_
 obtain ⟨n1, en1⟩ : ∃ zz, zz = a % PRM true := ⟨_, rfl⟩
 refine At.callX 1 [] 4 (fun W S => toX (by kernel_rfl) rfl S (rof_y en1 ha W)) fun y2 => ?_
 refine At.run 1 [] [(2, y2.sl)] ?_
 refine At.nx ?_
 exact Cd.rv r0 [] (y2.sl) fun W S => by subst_vars; exact ⟨y2, rfl, (S.dn 0 rfl), S.below⟩
set_option maxRecDepth 100000 in
theorem rbase_c (w : World) : Calls Try.prog 15 #[] w fun e w' => e = .returned (.agg (pcs Ec.GX Ec.GY false)) ∧ Below w.heap.size w w' := by
 refine enterQ 4 (fun q => .seq (q 0) (.seq (q 1) .ret)) (Sx.nil w) Try.func15 ?_
 refine Cd.sr ?_
 refine At.new 0 [] 0 (pcs 0 0 false) 36 fun g0 h0 => ?_
 refine At.nx ?_
 refine Cd.sr ?_
 refine At.st 3 [] 0 (pcs 55066263022277343669578718895168534326250603453777594175500187360389116729240 32670510020758816978083085130507043184471273380659243275938904335757337482424 false) h0 ?_
 refine At.nx ?_
 exact Cd.rv r0 [] (.agg (pcs 55066263022277343669578718895168534326250603453777594175500187360389116729240 32670510020758816978083085130507043184471273380659243275938904335757337482424 false)) fun W S => ⟨rfl, S.below⟩
theorem cmp_lss (a b : Nat) : decide (cmp a b < 0) = decide (a < b) := by
  unfold cmp; split
  · simp [*]
  · split <;> simp <;> omega
theorem cmp_eq0 (a b : Nat) : (cmp a b == 0) = decide (a = b) := by
  unfold cmp; split
  · simp; omega
  · split
    · simp; omega
    · simp; omega
set_option maxRecDepth 100000 in
theorem below_c {a : Nat} (ha : a < W256) (w : World) : Calls Try.prog 82 #[wv a] w fun e w' => e = .returned (.bool (decide (a < PRM true))) ∧ Below w.heap.size w w' := by
 refine enterQ 8 (fun q => .seq (q 0) (.seq (q 1) .ret)) (Sx.nil w) Try.func82 ?_
 refine Cd.sr ?_
 refine At.new 0 [] 1 (limbs4 a) 24 fun g1 h1 => ?_
 refine At.run 1 [] [] ?_
 refine At.nx ?_
 refine Cd.sr ?_
 refine At.callX 1 [] 4 (fun W S => toX (by kernel_rfl) rfl S (of2_y ha W)) fun y1 => ?_
 refine At.callX 0 [] 5 (fun W S => toX (by kernel_rfl) rfl S (prime_y true W)) fun y2 => ?_
 refine At.call 0 [] 6 (fun W S => cmp_y (S.dn 1 rfl) (S.dn 0 rfl)) ?_
 refine At.run 2 [] [(2, .bool (decide ((cmp a (PRM true)) < 0)))] ?_
 refine At.nx ?_
 exact Cd.rv r0 [] (.bool (decide ((cmp a (PRM true)) < 0))) fun W S => ⟨by rw [cmp_lss], S.below⟩
end Go.Proofs.Ytknoamaapnbibaa
namespace Go.Proofs.Ytknoamaapnbibaa
open Go.RowKit
def rcs (a b c : Value) : Array Value := #[a, b, c]
/-- Three letters as one. -/
@[reducible] def lt3 (x y z : Lt) : Lt := ⟨x.a, x.n, x.c, (y.a, y.n, y.c), (z.a, z.n, z.c)⟩
/-- A spot's digits. -/
def DS (s : Ec.Spt) (y : Lt) (W : World) : Prop := DN s.x true y W ∧ DN s.y true y.s2 W ∧ DN s.z true y.s3 W
theorem DS.stay {s : Ec.Spt} : ∀ (y : Lt) (W W' : World), Below W.heap.size W W' → DS s y W → DS s y W' := fun _ _ _ hb h => ⟨h.1.stay _ _ _ hb, h.2.1.stay _ _ _ hb, h.2.2.stay _ _ _ hb⟩
@[reducible] def dsv (y : Lt) : Value := .agg (rcs y.sl y.s2.sl y.s3.sl)
theorem Sx.addS {w W : World} {L : List (Nat × Obj)} {X : List Xt} {s : Ec.Spt} {y : Lt} (h : Sx w L X W) (hd : DS s y W) (hL : rowsNot 22 L = true) (hX : (X.all fun q => !q.ex) = true) : Sx w L (xdn s.x true y :: xdn s.y true y.s2 :: xdn s.z true y.s3 :: X) W :=
  ((h.addD hd.2.2 hL hX).addD hd.2.1 hL (by rw [List.all_cons, hX]; rfl)).addD hd.1 hL (by rw [List.all_cons, List.all_cons, hX]; rfl)
theorem toS {w W : World} {L : List (Nat × Obj)} {X : List Xt} {s : Ec.Spt} {fid : FuncId} {vs : Array Value} (hL : rowsNot 22 L = true) (hX : (X.all fun q => !q.ex) = true) (S : Sx w L X W) (h : Calls Try.prog fid vs W fun e w' => ∃ z : Lt, e = .returned (dsv z) ∧ DS s z w' ∧ Below W.heap.size W w') :
    Calls Try.prog fid vs W fun e w' => ∃ z : Lt, e = .returned (dsv z) ∧ Sx w L (xdn s.x true z :: xdn s.y true z.s2 :: xdn s.z true z.s3 :: X) w' := h.mono fun _ _ ⟨z, he, hd, hb⟩ => ⟨z, he, (S.keep hb).addS hd hL hX⟩
theorem fs_mod (n a b : Nat) : Ec.fs n a (b % n) = Ec.fs n a b := by unfold Ec.fs; rw [Nat.mod_mod]
theorem on_m {x y : Nat} {o : Bool} {r : Bool} (h : o = false) (h1 : decide (x < PRM true) = true) (h2 : decide (y < PRM true) = true) (hr : r = decide (Ec.fm (PRM true) (y % PRM true) (y % PRM true) = Ec.fa (PRM true) (Ec.fm (PRM true) (Ec.fm (PRM true) (x % PRM true) (x % PRM true)) (x % PRM true)) 7)) : r = Ec.onN x y o := by
  have h1 := of_decide_eq_true h1; have h2 := of_decide_eq_true h2
  rw [Nat.mod_eq_of_lt h1, Nat.mod_eq_of_lt h2] at hr
  refine on_n h (hr.trans ?_)
  simp only [h1, h2, true_and]; rfl
set_option maxRecDepth 100000 in
theorem ron_c {x y : Nat} {o : Bool} (hx : x < W256) (hy : y < W256) (w : World) : Calls Try.prog 51 #[.agg (pcs x y o)] w fun e w' => e = .returned (.bool (Ec.onN x y o)) ∧ Below w.heap.size w w' := by
 refine enterQ 40 (fun q => .seq (q 0) (.seq (q 1) (.seq (.seq (q 2) (.cond (.tmp 8) (.seq (q 3) .ret) .skip)) (.seq (q 4) (.seq (q 5) .ret))))) (Sx.nil w) Try.func51 ?_
 refine Cd.sr ?_
 refine At.new 0 [] 1 (pcs x y o) 36 fun g1 h1 => ?_
 refine At.run 1 [] [] ?_
 refine At.nx ?_
 refine Cd.sr ?_
 refine At.run 1 [] [(6, .agg (pcs 0 0 true))] ?_
 refine At.new 0 [] 3 (pcs 0 0 false) 36 fun g3 h3 => ?_
 refine At.st 0 [] 0 (pcs 0 0 true) h3 ?_
 refine At.nx ?_
 refine Cd.seq ?_
 refine Cd.sr ?_
 refine At.run 2 [0, 1] [(8, .bool o)] ?_
 refine At.nx ?_
 rcases Bool.eq_false_or_eq_true o with hb | hb
 next =>
  refine Cd.eqv 8 (.bool o) (.bool true) (congrArg _ hb) ?_
  refine Cd.ct ?_
  refine Cd.sr ?_
  refine At.run 4 [1] [(2, .bool (weq x 0 && (weq y 0 && ((o == true) && true))))] ?_
  refine At.nx ?_
  exact Cd.rv (rt r0) [] (.bool (weq x 0 && (weq y 0 && ((o == true) && true)))) fun W S => ⟨by rw [on_o hb hx hy], S.below⟩
 next =>
  refine Cd.eqv 8 (.bool o) (.bool false) (congrArg _ hb) ?_
  refine Cd.cf ?_
  refine Cd.sk ?_
  show Cd _ _ _ _ _ _ _ _
  refine Cd.seq ?_
  obtain ⟨n1, en1⟩ : ∃ zz, zz = x % PRM true := ⟨_, rfl⟩
  refine Cd.dr 5 [0, 1, 0, 0, 1] [] [] [(2, Lt.sl, fun y W => DN n1 true y W)] [] (fun u4 => [(14, (u4 2).sl), (16, wv y)]) (fun u4 => [(g3, .cells (pcs 0 0 true) 36 (0, 0)), (g1, .cells (pcs x y o) 36 (0, 0))]) (fun u4 => [xdn n1 true (u4 2)]) (stays_cons DN.stay stays_nil) eqs_nil (.cons 2 (fun u4 W S h => num_y en1 hx W) <| .nil) (fun u4 W S h => Sx.addD (S) (h 2 _ rfl) (by kernel_rfl) rfl) fun u4 hu4 => ?_
  obtain ⟨n2, en2⟩ : ∃ zz, zz = y % PRM true := ⟨_, rfl⟩
  refine At.callX 0 [] 17 (fun W S => toX (by kernel_rfl) rfl S (num_y en2 hy W)) fun y3 => ?_
  refine At.run 2 [] [(4, (u4 2).sl), (5, y3.sl)] ?_
  refine At.nx ?_
  refine Cd.sr ?_
  refine At.call 2 [0, 1] 20 (fun W S => below_c hx W) ?_
  refine At.run 1 [] [(21, .bool (decide (x < PRM true)))] ?_
  rcases Bool.eq_false_or_eq_true (decide (x < PRM true)) with hb1 | hb1
  next =>
   refine At.eqv 21 (.bool (decide (x < PRM true))) (.bool true) (congrArg _ hb1) ?_
   refine At.call 2 [0, 1] 24 (fun W S => below_c hy W) ?_
   refine At.run 2 [] [(26, .bool (decide (y < PRM true)))] ?_
   rcases Bool.eq_false_or_eq_true (decide (y < PRM true)) with hb2 | hb2
   next =>
    refine At.eqv 26 (.bool (decide (y < PRM true))) (.bool true) (congrArg _ hb2) ?_
    obtain ⟨n4, en4⟩ : ∃ zz, zz = Ec.fm (PRM true) n2 n2 := ⟨_, rfl⟩
    refine At.callX 2 [] 29 (fun W S => toX (by kernel_rfl) rfl S (mul_y en4 (S.dn 0 rfl) (S.dn 0 rfl))) fun y5 => ?_
    obtain ⟨n6, en6⟩ : ∃ zz, zz = Ec.fm (PRM true) n1 n1 := ⟨_, rfl⟩
    refine At.callX 2 [] 32 (fun W S => toX (by kernel_rfl) rfl S (mul_y en6 (S.dn 2 rfl) (S.dn 2 rfl))) fun y7 => ?_
    obtain ⟨n8, en8⟩ : ∃ zz, zz = Ec.fm (PRM true) n6 n1 := ⟨_, rfl⟩
    refine At.callX 1 [] 34 (fun W S => toX (by kernel_rfl) rfl S (mul_y en8 (S.dn 0 rfl) (S.dn 3 rfl))) fun y9 => ?_
    refine At.sli 0 [] 35 1 (#[.int .u64 7]) 22 fun g35 h35 => ?_
    refine At.as (fun _ S => S.lit 7 (lit1 7) rfl) ?_
    obtain ⟨n10, en10⟩ : ∃ zz, zz = Ec.fa (PRM true) n8 7 := ⟨_, rfl⟩
    refine At.callX 0 [] 36 (fun W S => toX (by kernel_rfl) rfl S (add_y en10 (S.dn 1 rfl) (S.dn 0 rfl))) fun y11 => ?_
    refine At.call 0 [] 37 (fun W S => cmp_y (S.dn 4 rfl) (S.dn 0 rfl)) ?_
    refine At.run 3 [] [(2, .bool ((cmp n4 n10) == 0))] ?_
    refine At.nx ?_
    exact Cd.rv r0 [] (.bool ((cmp n4 n10) == 0)) fun W S => ⟨congrArg (fun b => Ending.returned (.bool b)) (by revert hb hb1 hb2; subst_vars; intro hb hb1 hb2; rw [cmp_eq0]; exact on_m hb hb1 hb2 rfl), S.below⟩
   next =>
    refine At.eqv 26 (.bool (decide (y < PRM true))) (.bool false) (congrArg _ hb2) ?_
    refine At.run 14 [] [(2, .bool false)] ?_
    refine At.nx ?_
    exact Cd.rv r0 [] (.bool false) fun W S => ⟨by rw [← on_n hb (decide_eq_false fun h => (of_decide_eq_false hb2) h.2.1).symm], S.below⟩
  next =>
   refine At.eqv 21 (.bool (decide (x < PRM true))) (.bool false) (congrArg _ hb1) ?_
   refine At.run 19 [] [(2, .bool false)] ?_
   refine At.nx ?_
   exact Cd.rv r0 [] (.bool false) fun W S => ⟨by rw [← on_n hb (decide_eq_false fun h => (of_decide_eq_false hb1) h.1).symm], S.below⟩
set_option maxRecDepth 100000 in
theorem rneg_z {x y z : Nat} {o : Bool} (h : z = Ec.ngN y) (_ : x < W256) (hy : y < W256) (w : World) : Calls Try.prog 83 #[.agg (pcs x y o)] w fun e w' => e = .returned (.agg (pcs x z o)) ∧ Below w.heap.size w w' := by
 refine enterQ 11 (fun q => .seq (q 0) (.seq (q 1) (.seq (q 2) .ret))) (Sx.nil w) Try.func83 ?_
 refine Cd.sr ?_
 refine At.new 0 [] 1 (pcs x y o) 36 fun g1 h1 => ?_
 refine At.new 0 [] 2 (pcs 0 0 false) 36 fun g2 h2 => ?_
 refine At.nx ?_
 refine Cd.sr ?_
 refine At.sli 0 [] 3 0 (#[]) 22 fun g3 h3 => ?_
 refine At.as (fun _ S => S.lit 0 (lit0 ) rfl) ?_
 obtain ⟨n1, en1⟩ : ∃ zz, zz = y % PRM true := ⟨_, rfl⟩
 refine At.callX 2 [0, 1] 6 (fun W S => toX (by kernel_rfl) rfl S (num_y en1 hy W)) fun y2 => ?_
 obtain ⟨n3, en3⟩ : ∃ zz, zz = Ec.fs (PRM true) 0 n1 := ⟨_, rfl⟩
 refine At.callX 0 [] 7 (fun W S => toX (by kernel_rfl) rfl S (sub_y en3 (mnu en1) (S.dn 1 rfl) (S.dn 0 rfl))) fun y4 => ?_
 refine At.call 0 [] 8 (fun W S => rwide_y (prm_w (mfs en3)) (S.dn 0 rfl)) ?_
 refine At.st 1 [] 1 (pcs x n3 o) h1 ?_
 refine At.nx ?_
 refine Cd.sr ?_
 refine At.st 1 [1] 0 (pcs x n3 o) h2 ?_
 refine At.nx ?_
 exact Cd.rv r0 [] (.agg (pcs x n3 o)) fun W S => ⟨by subst_vars; rw [fs_mod]; rfl, S.below⟩
namespace Ec
/-- Both spots together, the document's way. -/
def smN (a b : Spt) : Spt :=
  let m := PRM true
  let xx := fm m a.x b.x
  let yy := fm m a.y b.y
  let zz := fm m a.z b.z
  let xy := fa m (fm m a.x b.y) (fm m b.x a.y)
  let yz := fa m (fm m a.y b.z) (fm m b.y a.z)
  let xz := fa m (fm m a.x b.z) (fm m b.x a.z)
  let more := fa m yy (fm m 21 zz)
  let less := fs m yy (fm m 21 zz)
  let three := fa m (fa m xx xx) xx
  let far := fm m 21 xz
  ⟨fs m (fm m xy less) (fm m yz far), fa m (fm m more less) (fm m far three), fa m (fm m yz more) (fm m three xy)⟩
/-- A point's spot. -/
def ofN (a : Pn) : Spt := if a.o then ⟨0, 1, 0⟩ else ⟨a.x % PRM true, a.y % PRM true, 1⟩
/-- A spot's point. -/
def rpN (s : Spt) : Pn := if s.z = 0 then ⟨0, 0, true⟩ else ⟨fm (PRM true) s.x (riN s.z), fm (PRM true) s.y (riN s.z), false⟩
/-- All three are below P. -/
def SpM (s : Spt) : Prop := s.x < PRM true ∧ s.y < PRM true ∧ s.z < PRM true
end Ec
theorem zsm {s a b : Ec.Spt} (h : s = Ec.smN a b) : Ec.SpM s := by subst h; exact ⟨mfs rfl, mfa rfl, mfa rfl⟩
theorem zof {s : Ec.Spt} {a : Pn} (h : s = Ec.ofN a) : Ec.SpM s := by
  unfold Ec.ofN at h
  split at h
  · subst h; exact ⟨(by decide +kernel : 0 < PRM true), (by decide +kernel : 1 < PRM true), (by decide +kernel : 0 < PRM true)⟩
  · subst h; exact ⟨mnu rfl, mnu rfl, (by decide +kernel : 1 < PRM true)⟩
theorem DN.zero {n : Nat} {y : Lt} {W : World} (h : DN n true y W) : (((y.n : Nat) : Int) == 0) = decide (n = 0) := by
  obtain ⟨g, ds, o, -, h2, h3, h4, -, h6, -⟩ := h
  have ht := h6 rfl
  rw [h2]
  cases hd : ds with
  | nil => subst hd; simp [← h3, val]
  | cons d l =>
    have := trimmed_pos ht (n := l.length) (by rw [hd]; rfl)
    have hp : 0 < 65536 ^ l.length := Nat.pow_pos (by decide)
    rw [Bool.eq_iff_iff]; simp
    omega
set_option maxRecDepth 100000 in
theorem sum_y {a b s : Ec.Spt} {x y : Lt} (h : s = Ec.smN a b) (_ : Ec.SpM a) (_ : Ec.SpM b) {w : World} (hx : DS a x w) (hy : DS b y w) : Calls Try.prog 47 #[dsv x, dsv y] w fun e w' => ∃ z' : Lt, e = .returned (dsv z') ∧ DS s z' w' ∧ Below w.heap.size w w' := by
 refine enterQ 105 (fun q => .seq (q 0) (.seq (q 1) (.seq (q 2) (.seq (q 3) (.seq (q 4) (.seq (q 5) (.seq (q 6) (.seq (q 7) (.seq (q 8) (.seq (q 9) .ret)))))))))) (((Sx.nil w).addS hy rfl rfl).addS hx rfl rfl) Try.func47 ?_
 refine Cd.sr ?_
 refine At.new 0 [] 2 (rcs x.sl x.s2.sl x.s3.sl) 78 fun g2 h2 => ?_
 refine At.new 0 [] 3 (rcs y.sl y.s2.sl y.s3.sl) 78 fun g3 h3 => ?_
 refine At.new 0 [] 4 (rcs (.slice none 0 0) (.slice none 0 0) (.slice none 0 0)) 78 fun g4 h4 => ?_
 refine At.nx ?_
 refine Cd.seq ?_
 obtain ⟨n1, en1⟩ : ∃ zz, zz = Ec.fm (PRM true) a.x b.x := ⟨_, rfl⟩
 obtain ⟨n2, en2⟩ : ∃ zz, zz = Ec.fm (PRM true) a.y b.y := ⟨_, rfl⟩
 refine Cd.dr 14 [0, 2, 0, 1, 0, 0, 2, 0, 1, 0, 0, 2, 0, 1] [] [] [(4, Lt.sl, fun y W => DN n1 true y W), (9, Lt.sl, fun y W => DN n2 true y W)] [] (fun u1 => [(20, (u1 4).sl), (25, (u1 9).sl), (27, x.s3.sl), (29, y.s3.sl)]) (fun u1 => [(g4, .cells (rcs (.slice none 0 0) (.slice none 0 0) (.slice none 0 0)) 78 (0, 0)), (g3, .cells (rcs y.sl y.s2.sl y.s3.sl) 78 (0, 0)), (g2, .cells (rcs x.sl x.s2.sl x.s3.sl) 78 (0, 0))]) (fun u1 => [xdn n2 true (u1 9), xdn n1 true (u1 4), xdn a.x true x, xdn a.y true x.s2, xdn a.z true x.s3, xdn b.x true y, xdn b.y true y.s2, xdn b.z true y.s3]) (stays_cons DN.stay (stays_cons DN.stay stays_nil)) eqs_nil (.cons 4 (fun u1 W S h => mul_y en1 (S.dn 0 rfl) (S.dn 3 rfl)) <| .cons 9 (fun u1 W S h => mul_y en2 (S.dn 1 rfl) (S.dn 4 rfl)) <| .nil) (fun u1 W S h => Sx.addD (Sx.addD (S) (h 4 _ rfl) (by kernel_rfl) rfl) (h 9 _ rfl) (by kernel_rfl) rfl) fun u1 hu1 => ?_
 obtain ⟨n3, en3⟩ : ∃ zz, zz = Ec.fm (PRM true) a.z b.z := ⟨_, rfl⟩
 refine At.callX 0 [] 30 (fun W S => toX (by kernel_rfl) rfl S (mul_y en3 (S.dn 4 rfl) (S.dn 7 rfl))) fun y4 => ?_
 refine At.run 3 [] [(5, (u1 4).sl), (6, (u1 9).sl), (7, y4.sl)] ?_
 refine At.nx ?_
 refine Cd.seq ?_
 obtain ⟨n5, en5⟩ : ∃ zz, zz = Ec.fm (PRM true) a.x b.y := ⟨_, rfl⟩
 refine Cd.dr 9 [0, 2, 0, 1, 0, 0, 1, 0, 2] [] [] [(4, Lt.sl, fun y W => DN n5 true y W)] [] (fun u2 => [(35, (u2 4).sl), (37, y.sl), (39, x.s2.sl)]) (fun u2 => [(g4, .cells (rcs (.slice none 0 0) (.slice none 0 0) (.slice none 0 0)) 78 (0, 0)), (g3, .cells (rcs y.sl y.s2.sl y.s3.sl) 78 (0, 0)), (g2, .cells (rcs x.sl x.s2.sl x.s3.sl) 78 (0, 0))]) (fun u2 => [xdn n5 true (u2 4), xdn n3 true y4, xdn n2 true (u1 9), xdn n1 true (u1 4), xdn a.x true x, xdn a.y true x.s2, xdn a.z true x.s3, xdn b.x true y, xdn b.y true y.s2, xdn b.z true y.s3]) (stays_cons DN.stay stays_nil) eqs_nil (.cons 4 (fun u2 W S h => mul_y en5 (S.dn 3 rfl) (S.dn 7 rfl)) <| .nil) (fun u2 W S h => Sx.addD (S) (h 4 _ rfl) (by kernel_rfl) rfl) fun u2 hu2 => ?_
 obtain ⟨n6, en6⟩ : ∃ zz, zz = Ec.fm (PRM true) b.x a.y := ⟨_, rfl⟩
 refine At.callX 0 [] 40 (fun W S => toX (by kernel_rfl) rfl S (mul_y en6 (S.dn 7 rfl) (S.dn 5 rfl))) fun y7 => ?_
 obtain ⟨n8, en8⟩ : ∃ zz, zz = Ec.fa (PRM true) n5 n6 := ⟨_, rfl⟩
 refine At.callX 0 [] 41 (fun W S => toX (by kernel_rfl) rfl S (add_y en8 (S.dn 1 rfl) (S.dn 0 rfl))) fun y9 => ?_
 refine At.run 1 [] [(8, y9.sl)] ?_
 refine At.nx ?_
 refine Cd.seq ?_
 obtain ⟨n10, en10⟩ : ∃ zz, zz = Ec.fm (PRM true) a.y b.z := ⟨_, rfl⟩
 refine Cd.dr 9 [0, 2, 0, 1, 0, 0, 1, 0, 2] [] [] [(4, Lt.sl, fun y W => DN n10 true y W)] [] (fun u3 => [(46, (u3 4).sl), (48, y.s2.sl), (50, x.s3.sl)]) (fun u3 => [(g4, .cells (rcs (.slice none 0 0) (.slice none 0 0) (.slice none 0 0)) 78 (0, 0)), (g3, .cells (rcs y.sl y.s2.sl y.s3.sl) 78 (0, 0)), (g2, .cells (rcs x.sl x.s2.sl x.s3.sl) 78 (0, 0))]) (fun u3 => [xdn n10 true (u3 4), xdn n8 true y9, xdn n6 true y7, xdn n5 true (u2 4), xdn n3 true y4, xdn n2 true (u1 9), xdn n1 true (u1 4), xdn a.x true x, xdn a.y true x.s2, xdn a.z true x.s3, xdn b.x true y, xdn b.y true y.s2, xdn b.z true y.s3]) (stays_cons DN.stay stays_nil) eqs_nil (.cons 4 (fun u3 W S h => mul_y en10 (S.dn 7 rfl) (S.dn 11 rfl)) <| .nil) (fun u3 W S h => Sx.addD (S) (h 4 _ rfl) (by kernel_rfl) rfl) fun u3 hu3 => ?_
 obtain ⟨n11, en11⟩ : ∃ zz, zz = Ec.fm (PRM true) b.y a.z := ⟨_, rfl⟩
 refine At.callX 0 [] 51 (fun W S => toX (by kernel_rfl) rfl S (mul_y en11 (S.dn 11 rfl) (S.dn 9 rfl))) fun y12 => ?_
 obtain ⟨n13, en13⟩ : ∃ zz, zz = Ec.fa (PRM true) n10 n11 := ⟨_, rfl⟩
 refine At.callX 0 [] 52 (fun W S => toX (by kernel_rfl) rfl S (add_y en13 (S.dn 1 rfl) (S.dn 0 rfl))) fun y14 => ?_
 refine At.run 1 [] [(9, y14.sl)] ?_
 refine At.nx ?_
 refine Cd.seq ?_
 obtain ⟨n15, en15⟩ : ∃ zz, zz = Ec.fm (PRM true) a.x b.z := ⟨_, rfl⟩
 refine Cd.dr 9 [0, 2, 0, 1, 0, 0, 1, 0, 2] [] [] [(4, Lt.sl, fun y W => DN n15 true y W)] [] (fun u4 => [(57, (u4 4).sl), (59, y.sl), (61, x.s3.sl)]) (fun u4 => [(g4, .cells (rcs (.slice none 0 0) (.slice none 0 0) (.slice none 0 0)) 78 (0, 0)), (g3, .cells (rcs y.sl y.s2.sl y.s3.sl) 78 (0, 0)), (g2, .cells (rcs x.sl x.s2.sl x.s3.sl) 78 (0, 0))]) (fun u4 => [xdn n15 true (u4 4), xdn n13 true y14, xdn n11 true y12, xdn n10 true (u3 4), xdn n8 true y9, xdn n6 true y7, xdn n5 true (u2 4), xdn n3 true y4, xdn n2 true (u1 9), xdn n1 true (u1 4), xdn a.x true x, xdn a.y true x.s2, xdn a.z true x.s3, xdn b.x true y, xdn b.y true y.s2, xdn b.z true y.s3]) (stays_cons DN.stay stays_nil) eqs_nil (.cons 4 (fun u4 W S h => mul_y en15 (S.dn 9 rfl) (S.dn 14 rfl)) <| .nil) (fun u4 W S h => Sx.addD (S) (h 4 _ rfl) (by kernel_rfl) rfl) fun u4 hu4 => ?_
 obtain ⟨n16, en16⟩ : ∃ zz, zz = Ec.fm (PRM true) b.x a.z := ⟨_, rfl⟩
 refine At.callX 0 [] 62 (fun W S => toX (by kernel_rfl) rfl S (mul_y en16 (S.dn 13 rfl) (S.dn 12 rfl))) fun y17 => ?_
 obtain ⟨n18, en18⟩ : ∃ zz, zz = Ec.fa (PRM true) n15 n16 := ⟨_, rfl⟩
 refine At.callX 0 [] 63 (fun W S => toX (by kernel_rfl) rfl S (add_y en18 (S.dn 1 rfl) (S.dn 0 rfl))) fun y19 => ?_
 refine At.run 1 [] [(10, y19.sl)] ?_
 refine At.nx ?_
 refine Cd.sr ?_
 refine At.sli 0 [] 64 1 (#[.int .u64 21]) 22 fun g64 h64 => ?_
 refine At.as (fun _ S => S.lit 21 (lit1 21) rfl) ?_
 refine At.run 1 [] [(11, .slice (some ⟨g64, 0, none⟩) 1 1)] ?_
 refine At.nx ?_
 refine Cd.sr ?_
 obtain ⟨n20, en20⟩ : ∃ zz, zz = Ec.fm (PRM true) 21 n3 := ⟨_, rfl⟩
 refine At.run 3 [] [(65, (u1 9).sl), (66, .slice (some ⟨g64, 0, none⟩) 1 1), (67, y4.sl)] ?_
 refine At.callX 0 [] 68 (fun W S => toX (by kernel_rfl) rfl S (mul_y en20 (S.dn 0 rfl) (S.dn 10 rfl))) fun y21 => ?_
 obtain ⟨n22, en22⟩ : ∃ zz, zz = Ec.fa (PRM true) n2 n20 := ⟨_, rfl⟩
 refine At.callX 0 [] 69 (fun W S => toX (by kernel_rfl) rfl S (add_y en22 (S.dn 12 rfl) (S.dn 0 rfl))) fun y23 => ?_
 obtain ⟨n24, en24⟩ : ∃ zz, zz = Ec.fm (PRM true) 21 n3 := ⟨_, rfl⟩
 refine At.run 3 [] [(70, (u1 9).sl), (71, .slice (some ⟨g64, 0, none⟩) 1 1), (72, y4.sl)] ?_
 refine At.callX 0 [] 73 (fun W S => toX (by kernel_rfl) rfl S (mul_y en24 (S.dn 2 rfl) (S.dn 12 rfl))) fun y25 => ?_
 obtain ⟨n26, en26⟩ : ∃ zz, zz = Ec.fs (PRM true) n2 n24 := ⟨_, rfl⟩
 refine At.callX 0 [] 74 (fun W S => toX (by kernel_rfl) rfl S (sub_y en26 (mfm en24) (S.dn 14 rfl) (S.dn 0 rfl))) fun y27 => ?_
 refine At.run 2 [] [(12, y23.sl), (13, y27.sl)] ?_
 refine At.nx ?_
 refine Cd.sr ?_
 obtain ⟨n28, en28⟩ : ∃ zz, zz = Ec.fa (PRM true) n1 n1 := ⟨_, rfl⟩
 refine At.callX 2 [] 77 (fun W S => toX (by kernel_rfl) rfl S (add_y en28 (S.dn 16 rfl) (S.dn 16 rfl))) fun y29 => ?_
 obtain ⟨n30, en30⟩ : ∃ zz, zz = Ec.fa (PRM true) n28 n1 := ⟨_, rfl⟩
 refine At.callX 1 [] 79 (fun W S => toX (by kernel_rfl) rfl S (add_y en30 (S.dn 0 rfl) (S.dn 17 rfl))) fun y31 => ?_
 refine At.run 1 [] [(14, y31.sl)] ?_
 refine At.nx ?_
 refine Cd.sr ?_
 obtain ⟨n32, en32⟩ : ∃ zz, zz = Ec.fm (PRM true) 21 n18 := ⟨_, rfl⟩
 refine At.callX 2 [] 82 (fun W S => toX (by kernel_rfl) rfl S (mul_y en32 (S.dn 6 rfl) (S.dn 7 rfl))) fun y33 => ?_
 refine At.run 1 [] [(15, y33.sl)] ?_
 refine At.nx ?_
 refine Cd.sr ?_
 obtain ⟨n34, en34⟩ : ∃ zz, zz = Ec.fm (PRM true) n8 n26 := ⟨_, rfl⟩
 refine At.callX 2 [] 85 (fun W S => toX (by kernel_rfl) rfl S (mul_y en34 (S.dn 14 rfl) (S.dn 3 rfl))) fun y35 => ?_
 obtain ⟨n36, en36⟩ : ∃ zz, zz = Ec.fm (PRM true) n13 n32 := ⟨_, rfl⟩
 refine At.callX 2 [] 88 (fun W S => toX (by kernel_rfl) rfl S (mul_y en36 (S.dn 12 rfl) (S.dn 1 rfl))) fun y37 => ?_
 obtain ⟨n38, en38⟩ : ∃ zz, zz = Ec.fs (PRM true) n34 n36 := ⟨_, rfl⟩
 refine At.callX 0 [] 89 (fun W S => toX (by kernel_rfl) rfl S (sub_y en38 (mfm en36) (S.dn 1 rfl) (S.dn 0 rfl))) fun y39 => ?_
 obtain ⟨n40, en40⟩ : ∃ zz, zz = Ec.fm (PRM true) n22 n26 := ⟨_, rfl⟩
 refine At.callX 2 [] 92 (fun W S => toX (by kernel_rfl) rfl S (mul_y en40 (S.dn 8 rfl) (S.dn 6 rfl))) fun y41 => ?_
 obtain ⟨n42, en42⟩ : ∃ zz, zz = Ec.fm (PRM true) n32 n30 := ⟨_, rfl⟩
 refine At.callX 2 [] 95 (fun W S => toX (by kernel_rfl) rfl S (mul_y en42 (S.dn 4 rfl) (S.dn 5 rfl))) fun y43 => ?_
 obtain ⟨n44, en44⟩ : ∃ zz, zz = Ec.fa (PRM true) n40 n42 := ⟨_, rfl⟩
 refine At.callX 0 [] 96 (fun W S => toX (by kernel_rfl) rfl S (add_y en44 (S.dn 1 rfl) (S.dn 0 rfl))) fun y45 => ?_
 obtain ⟨n46, en46⟩ : ∃ zz, zz = Ec.fm (PRM true) n13 n22 := ⟨_, rfl⟩
 refine At.callX 2 [] 99 (fun W S => toX (by kernel_rfl) rfl S (mul_y en46 (S.dn 17 rfl) (S.dn 11 rfl))) fun y47 => ?_
 obtain ⟨n48, en48⟩ : ∃ zz, zz = Ec.fm (PRM true) n30 n8 := ⟨_, rfl⟩
 refine At.callX 2 [] 102 (fun W S => toX (by kernel_rfl) rfl S (mul_y en48 (S.dn 8 rfl) (S.dn 21 rfl))) fun y49 => ?_
 obtain ⟨n50, en50⟩ : ∃ zz, zz = Ec.fa (PRM true) n46 n48 := ⟨_, rfl⟩
 refine At.callX 0 [] 103 (fun W S => toX (by kernel_rfl) rfl S (add_y en50 (S.dn 1 rfl) (S.dn 0 rfl))) fun y51 => ?_
 refine At.st 1 [] 0 (rcs y39.sl y45.sl y51.sl) h4 ?_
 refine At.nx ?_
 exact Cd.rv r0 [] (.agg (rcs y39.sl y45.sl y51.sl)) fun W S => by subst_vars; exact ⟨lt3 y39 y45 y51, rfl, ⟨S.dn 6 rfl, S.dn 3 rfl, S.dn 0 rfl⟩, S.below⟩
set_option maxRecDepth 100000 in
theorem of_y {a : Pn} {s : Ec.Spt} (h : s = Ec.ofN a) (ha : a.x < W256 ∧ a.y < W256) (w : World) : Calls Try.prog 46 #[pnv a] w fun e w' => ∃ z' : Lt, e = .returned (dsv z') ∧ DS s z' w' ∧ Below w.heap.size w w' := by
 refine enterQ 17 (fun q => .seq (q 0) (.seq (.seq (q 1) (.cond (.tmp 4) (.seq (q 2) .ret) .skip)) (.seq (q 3) .ret))) (Sx.nil w) Try.func46 ?_
 refine Cd.sr ?_
 refine At.new 0 [] 1 (pcs a.x a.y a.o) 36 fun g1 h1 => ?_
 refine At.new 0 [] 2 (rcs (.slice none 0 0) (.slice none 0 0) (.slice none 0 0)) 78 fun g2 h2 => ?_
 refine At.nx ?_
 refine Cd.seq ?_
 refine Cd.sr ?_
 refine At.run 2 [0, 1] [(4, .bool a.o)] ?_
 refine At.nx ?_
 rcases Bool.eq_false_or_eq_true a.o with hb | hb
 next =>
  refine Cd.eqv 4 (.bool a.o) (.bool true) (congrArg _ hb) ?_
  refine Cd.ct ?_
  refine Cd.sr ?_
  refine At.sli 0 [] 5 0 (#[]) 22 fun g5 h5 => ?_
  refine At.as (fun _ S => S.lit 0 (lit0 ) rfl) ?_
  refine At.sli 0 [] 6 1 (#[.int .u64 1]) 22 fun g6 h6 => ?_
  refine At.as (fun _ S => S.lit 1 (lit1 1) rfl) ?_
  refine At.sli 0 [] 7 0 (#[]) 22 fun g7 h7 => ?_
  refine At.as (fun _ S => S.lit 0 (lit0 ) rfl) ?_
  refine At.st 1 [] 0 (rcs (.slice (some ⟨g5, 0, none⟩) 0 0) (.slice (some ⟨g6, 0, none⟩) 1 1) (.slice (some ⟨g7, 0, none⟩) 0 0)) h2 ?_
  refine At.nx ?_
  exact Cd.rv (rt r0) [] (.agg (rcs (.slice (some ⟨g5, 0, none⟩) 0 0) (.slice (some ⟨g6, 0, none⟩) 1 1) (.slice (some ⟨g7, 0, none⟩) 0 0))) fun W S => by rw [Ec.ofN, if_pos hb] at h; subst h; exact ⟨lt3 (lt0 (some ⟨g5, 0, none⟩) 0 0) (lt0 (some ⟨g6, 0, none⟩) 1 1) (lt0 (some ⟨g7, 0, none⟩) 0 0), rfl, ⟨S.dn 2 rfl, S.dn 1 rfl, S.dn 0 rfl⟩, S.below⟩
 next =>
  refine Cd.eqv 4 (.bool a.o) (.bool false) (congrArg _ hb) ?_
  refine Cd.cf ?_
  refine Cd.sk ?_
  show Cd _ _ _ _ _ _ _ _
  refine Cd.seq ?_
  obtain ⟨n1, en1⟩ : ∃ zz, zz = a.x % PRM true := ⟨_, rfl⟩
  obtain ⟨n2, en2⟩ : ∃ zz, zz = a.y % PRM true := ⟨_, rfl⟩
  refine Cd.dr 7 [0, 1, 0, 0, 1] [] [(6, ⟨some 1, #[.int .u64 1], 22⟩)] [(2, Lt.sl, fun y W => DN n1 true y W), (5, Lt.sl, fun y W => DN n2 true y W)] [] (fun u3 => [(11, (u3 2).sl), (14, (u3 5).sl), (15, .slice (some ⟨(u3 6).n, 0, none⟩) 1 1)]) (fun u3 => [(g2, .cells (rcs (.slice none 0 0) (.slice none 0 0) (.slice none 0 0)) 78 (0, 0)), (g1, .cells (pcs a.x a.y a.o) 36 (0, 0))]) (fun u3 => [xdn n2 true (u3 5), xdn n1 true (u3 2), xdn 1 true (lt0 (some ⟨(u3 6).n, 0, none⟩) 1 1)]) (stays_cons DN.stay (stays_cons DN.stay stays_nil)) eqs_nil (.cons 2 (fun u3 W S h => num_y en1 ha.1 W) <| .cons 5 (fun u3 W S h => num_y en2 ha.2 W) <| .nil) (fun u3 W S h => Sx.addD (Sx.addD ((S).lit 1 (lit1 1) rfl) (h 2 _ rfl) (by kernel_rfl) rfl) (h 5 _ rfl) (by kernel_rfl) rfl) fun u3 hu3 => ?_
  refine At.st 1 [] 0 (rcs ((u3 2).sl) ((u3 5).sl) (.slice (some ⟨(u3 6).n, 0, none⟩) 1 1)) h2 ?_
  refine At.nx ?_
  exact Cd.rv r0 [] (.agg (rcs ((u3 2).sl) ((u3 5).sl) (.slice (some ⟨(u3 6).n, 0, none⟩) 1 1))) fun W S => by rw [Ec.ofN, if_neg (by rw [hb]; decide), ← en1, ← en2] at h; subst h; exact ⟨lt3 (u3 2) (u3 5) (lt0 (some ⟨(u3 6).n, 0, none⟩) 1 1), rfl, ⟨S.dn 1 rfl, S.dn 0 rfl, S.dn 2 rfl⟩, S.below⟩
set_option maxRecDepth 100000 in
theorem rpoint_z {a : Pn} {s : Ec.Spt} {x : Lt} (h : a = Ec.rpN s) (_ : Ec.SpM s) {w : World} (hx : DS s x w) : Calls Try.prog 48 #[dsv x] w fun e w' => e = .returned (pnv a) ∧ Below w.heap.size w w' := by
 refine enterQ 23 (fun q => .seq (q 0) (.seq (.seq (q 1) (.cond (.tmp 7) (.seq (q 2) .ret) .skip)) (.seq (q 3) (.seq (q 4) .ret)))) ((Sx.nil w).addS hx rfl rfl) Try.func48 ?_
 refine Cd.sr ?_
 refine At.new 0 [] 1 (rcs x.sl x.s2.sl x.s3.sl) 78 fun g1 h1 => ?_
 refine At.new 0 [] 2 (pcs 0 0 false) 36 fun g2 h2 => ?_
 refine At.nx ?_
 refine Cd.seq ?_
 have hz0 := hx.2.2.zero
 refine Cd.sr ?_
 refine At.run 4 [0, 1] [(7, .bool (((x.s3.n : Nat) : Int) == 0))] ?_
 refine At.nx ?_
 rcases Bool.eq_false_or_eq_true (((x.s3.n : Nat) : Int) == 0) with hb | hb
 next =>
  refine Cd.eqv 7 (.bool (((x.s3.n : Nat) : Int) == 0)) (.bool true) (congrArg _ hb) ?_
  refine Cd.ct ?_
  refine Cd.sr ?_
  refine At.st 1 [] 0 (pcs 0 0 true) h2 ?_
  refine At.nx ?_
  exact Cd.rv (rt r0) [] (.agg (pcs 0 0 true)) fun W S => ⟨by rw [hz0] at hb; rw [h, Ec.rpN, if_pos (of_decide_eq_true hb)], S.below⟩
 next =>
  refine Cd.eqv 7 (.bool (((x.s3.n : Nat) : Int) == 0)) (.bool false) (congrArg _ hb) ?_
  refine Cd.cf ?_
  refine Cd.sk ?_
  show Cd _ _ _ _ _ _ _ _
  refine Cd.sr ?_
  obtain ⟨n1, en1⟩ : ∃ zz, zz = Ec.riN s.z := ⟨_, rfl⟩
  refine At.callX 2 [0, 1] 11 (fun W S => toX (by kernel_rfl) rfl S (rinv_y en1 (S.dn 2 rfl))) fun y2 => ?_
  refine At.run 1 [] [(3, y2.sl)] ?_
  refine At.nx ?_
  refine Cd.seq ?_
  obtain ⟨n3, en3⟩ : ∃ zz, zz = Ec.fm (PRM true) s.x n1 := ⟨_, rfl⟩
  refine Cd.dr 8 [0, 1, 0, 0, 0, 0, 1] [(4, wv n3)] [] [(3, Lt.sl, fun y W => DN n3 true y W)] [] (fun u4 => [(16, wv n3), (18, x.s2.sl), (19, y2.sl)]) (fun u4 => [(g2, .cells (pcs 0 0 false) 36 (0, 0)), (g1, .cells (rcs x.sl x.s2.sl x.s3.sl) 78 (0, 0))]) (fun u4 => [xdn n3 true (u4 3), xdn n1 true y2, xdn s.x true x, xdn s.y true x.s2, xdn s.z true x.s3]) (stays_cons DN.stay stays_nil) eqs_nil (.cons 3 (fun u4 W S h => mul_y en3 (S.dn 1 rfl) (S.dn 0 rfl)) <| .cons 4 (fun u4 W S h => rwide_y (prm_w (mfm en3)) (h.2 3 _ rfl (by kernel_rfl))) <| .nil) (fun u4 W S h => Sx.addD (S) (h 3 _ rfl) (by kernel_rfl) rfl) fun u4 hu4 => ?_
  obtain ⟨n4, en4⟩ : ∃ zz, zz = Ec.fm (PRM true) s.y n1 := ⟨_, rfl⟩
  refine At.callX 0 [] 20 (fun W S => toX (by kernel_rfl) rfl S (mul_y en4 (S.dn 3 rfl) (S.dn 1 rfl))) fun y5 => ?_
  refine At.call 0 [] 21 (fun W S => rwide_y (prm_w (mfm en4)) (S.dn 0 rfl)) ?_
  refine At.st 1 [] 0 (pcs n3 n4 false) h2 ?_
  refine At.nx ?_
  exact Cd.rv r0 [] (.agg (pcs n3 n4 false)) fun W S => ⟨by rw [hz0] at hb; rw [h, Ec.rpN, if_neg (of_decide_eq_false hb)]; revert hb; subst_vars; intro hb; rfl, S.below⟩
end Go.Proofs.Ytknoamaapnbibaa
namespace Go.Proofs.Ytknoamaapnbibaa
open Go.RowKit
/-- Are two points the same? As the program asks it. -/
def pq (a b : Pn) : Bool := (weq a.x b.x && (weq a.y b.y && ((a.o == b.o) && true)))
namespace Ec
/-- The rise, and along what. -/
def rdU (a b : Pn) : Nat × Nat :=
  if pq a b = true then (fa (PRM true) (fa (PRM true) (fm (PRM true) (a.x % PRM true) (a.x % PRM true)) (fm (PRM true) (a.x % PRM true) (a.x % PRM true))) (fm (PRM true) (a.x % PRM true) (a.x % PRM true)), fa (PRM true) (a.y % PRM true) (a.y % PRM true))
  else (fs (PRM true) (b.y % PRM true) (a.y % PRM true), fs (PRM true) (b.x % PRM true) (a.x % PRM true))
/-- Both points together, the document's way: behind the rise s. -/
def rdS (a b : Pn) (s : Nat) : Pn :=
  ⟨fs (PRM true) (fs (PRM true) (fm (PRM true) s s) (a.x % PRM true)) (b.x % PRM true), fs (PRM true) (fm (PRM true) s (fs (PRM true) (a.x % PRM true) (fs (PRM true) (fs (PRM true) (fm (PRM true) s s) (a.x % PRM true)) (b.x % PRM true)))) (a.y % PRM true), false⟩
def rdN (a b : Pn) : Pn :=
  if a.o then b else if b.o then a else if pq b ⟨a.x, ngN a.y, a.o⟩ = true then ⟨0, 0, true⟩ else rdS a b (fm (PRM true) (rdU a b).1 (riN (rdU a b).2))
/-- The document's Times: what comes of i bits, and the power. -/
def rtN (k : Nat) (A : Pn) : Nat → Spt × Spt
  | 0 => (ofN ⟨0, 0, true⟩, ofN A)
  | i + 1 => (if k / 2 ^ i % 2 = 1 then smN (rtN k A i).1 (rtN k A i).2 else (rtN k A i).1, smN (rtN k A i).2 (rtN k A i).2)
def rttN (k : Nat) (A : Pn) : Pn := rpN (rtN k A (blen k)).1
end Ec
theorem zrt {k : Nat} {A : Pn} : ∀ i, Ec.SpM (Ec.rtN k A i).1 ∧ Ec.SpM (Ec.rtN k A i).2
  | 0 => ⟨zof (a := ⟨0, 0, true⟩) rfl, zof (a := A) rfl⟩
  | i + 1 => ⟨by unfold Ec.rtN; dsimp only; split; exact zsm rfl; exact (zrt i).1, zsm rfl⟩
set_option maxRecDepth 100000 in
theorem radd4_z {a b c : Pn} (h : c = Ec.rdN a b) (ha : a.x < W256 ∧ a.y < W256) (hb' : b.x < W256 ∧ b.y < W256) (w : World) : Calls Try.prog 52 #[pnv a, pnv b] w fun e w' => e = .returned (pnv c) ∧ Below w.heap.size w w' := by
 refine enterQ 89 (fun q => .seq (q 0) (.seq (.seq (q 1) (.cond (.tmp 12) (.seq (q 2) .ret) .skip)) (.seq (.seq (q 3) (.cond (.tmp 15) (.seq (q 4) .ret) .skip)) (.seq (.seq (q 5) (.cond (.tmp 20) (.seq (q 6) .ret) .skip)) (.seq (q 7) (.seq (.seq (q 8) (.cond (.tmp 38) (.seq (q 9) (.seq (q 10) (q 11))) .skip)) (.seq (q 12) (.seq (q 13) (.seq (q 14) (.seq (q 15) .ret)))))))))) (Sx.nil w) Try.func52 ?_
 refine Cd.sr ?_
 refine At.new 0 [] 2 (pcs a.x a.y a.o) 36 fun g2 h2 => ?_
 refine At.new 0 [] 3 (pcs b.x b.y b.o) 36 fun g3 h3 => ?_
 refine At.new 0 [] 4 (pcs 0 0 false) 36 fun g4 h4 => ?_
 refine At.nx ?_
 refine Cd.seq ?_
 refine Cd.sr ?_
 refine At.run 2 [0, 2] [(12, .bool a.o)] ?_
 refine At.nx ?_
 rcases Bool.eq_false_or_eq_true a.o with hb | hb
 next =>
  refine Cd.eqv 12 (.bool a.o) (.bool true) (congrArg _ hb) ?_
  refine Cd.ct ?_
  refine Cd.sr ?_
  refine At.st 1 [1] 0 (pcs b.x b.y b.o) h4 ?_
  refine At.nx ?_
  exact Cd.rv (rt r0) [] (.agg (pcs b.x b.y b.o)) fun W S => ⟨by rw [h, Ec.rdN, if_pos hb], S.below⟩
 next =>
  refine Cd.eqv 12 (.bool a.o) (.bool false) (congrArg _ hb) ?_
  refine Cd.cf ?_
  refine Cd.sk ?_
  show Cd _ _ _ _ _ _ _ _
  refine Cd.seq ?_
  refine Cd.sr ?_
  refine At.run 2 [0, 1] [(15, .bool b.o)] ?_
  refine At.nx ?_
  rcases Bool.eq_false_or_eq_true b.o with hb1 | hb1
  next =>
   refine Cd.eqv 15 (.bool b.o) (.bool true) (congrArg _ hb1) ?_
   refine Cd.ct ?_
   refine Cd.sr ?_
   refine At.st 1 [2] 0 (pcs a.x a.y a.o) h4 ?_
   refine At.nx ?_
   exact Cd.rv (rt r0) [] (.agg (pcs a.x a.y a.o)) fun W S => ⟨by rw [h, Ec.rdN, if_neg (by rw [hb]; decide), if_pos hb1], S.below⟩
  next =>
   refine Cd.eqv 15 (.bool b.o) (.bool false) (congrArg _ hb1) ?_
   refine Cd.cf ?_
   refine Cd.sk ?_
   show Cd _ _ _ _ _ _ _ _
   refine Cd.seq ?_
   refine Cd.seq ?_
   obtain ⟨n1, en1⟩ : ∃ zz, zz = Ec.ngN a.y := ⟨_, rfl⟩
   refine Cd.dk 3 [1, 2] [(2, .agg (pcs a.x n1 a.o))] [(17, .agg (pcs b.x b.y b.o)), (19, .agg (pcs a.x n1 a.o))] (.cons 2 (fun _ W S _ => rneg_z (o := a.o) en1 ha.1 ha.2 W) <| .nil) ?_
   refine At.run 1 [] [(20, .bool (weq b.x a.x && (weq b.y n1 && ((b.o == a.o) && true))))] ?_
   refine At.nx ?_
   rcases Bool.eq_false_or_eq_true (weq b.x a.x && (weq b.y n1 && ((b.o == a.o) && true))) with hb2 | hb2
   next =>
    refine Cd.eqv 20 (.bool (weq b.x a.x && (weq b.y n1 && ((b.o == a.o) && true)))) (.bool true) (congrArg _ hb2) ?_
    refine Cd.ct ?_
    refine Cd.sr ?_
    refine At.st 1 [] 0 (pcs 0 0 true) h4 ?_
    refine At.nx ?_
    exact Cd.rv (rt r0) [] (.agg (pcs 0 0 true)) fun W S => ⟨by rw [h, Ec.rdN, if_neg (by rw [hb]; decide), if_neg (by rw [hb1]; decide), if_pos (by rw [← hb2, en1]; rfl)], S.below⟩
   next =>
    refine Cd.eqv 20 (.bool (weq b.x a.x && (weq b.y n1 && ((b.o == a.o) && true)))) (.bool false) (congrArg _ hb2) ?_
    refine Cd.cf ?_
    refine Cd.sk ?_
    show Cd _ _ _ _ _ _ _ _
    refine Cd.seq ?_
    obtain ⟨n2, en2⟩ : ∃ zz, zz = b.y % PRM true := ⟨_, rfl⟩
    obtain ⟨n3, en3⟩ : ∃ zz, zz = a.y % PRM true := ⟨_, rfl⟩
    obtain ⟨n4, en4⟩ : ∃ zz, zz = Ec.fs (PRM true) n2 n3 := ⟨_, rfl⟩
    obtain ⟨n5, en5⟩ : ∃ zz, zz = b.x % PRM true := ⟨_, rfl⟩
    refine Cd.dr 12 [0, 1, 0, 0, 2, 0, 0, 0, 1, 0, 0, 2] [] [] [(2, Lt.sl, fun y W => DN n2 true y W), (5, Lt.sl, fun y W => DN n3 true y W), (6, Lt.sl, fun y W => DN n4 true y W), (9, Lt.sl, fun y W => DN n5 true y W)] [] (fun u7 => [(28, (u7 6).sl), (31, (u7 9).sl), (33, wv a.x)]) (fun u7 => [(g4, .cells (pcs 0 0 false) 36 (0, 0)), (g3, .cells (pcs b.x b.y b.o) 36 (0, 0)), (g2, .cells (pcs a.x a.y a.o) 36 (0, 0))]) (fun u7 => [xdn n5 true (u7 9), xdn n4 true (u7 6), xdn n3 true (u7 5), xdn n2 true (u7 2)]) (stays_cons DN.stay (stays_cons DN.stay (stays_cons DN.stay (stays_cons DN.stay stays_nil)))) eqs_nil (.cons 2 (fun u7 W S h => num_y en2 hb'.2 W) <| .cons 5 (fun u7 W S h => num_y en3 ha.2 W) <| .cons 6 (fun u7 W S h => sub_y en4 (mnu en3) (h.2 2 _ rfl (by kernel_rfl)) (h.2 5 _ rfl (by kernel_rfl))) <| .cons 9 (fun u7 W S h => num_y en5 hb'.1 W) <| .nil) (fun u7 W S h => Sx.addD (Sx.addD (Sx.addD (Sx.addD (S) (h 2 _ rfl) (by kernel_rfl) rfl) (h 5 _ rfl) (by kernel_rfl) rfl) (h 6 _ rfl) (by kernel_rfl) rfl) (h 9 _ rfl) (by kernel_rfl) rfl) fun u7 hu7 => ?_
    obtain ⟨n6, en6⟩ : ∃ zz, zz = a.x % PRM true := ⟨_, rfl⟩
    refine At.callX 0 [] 34 (fun W S => toX (by kernel_rfl) rfl S (num_y en6 ha.1 W)) fun y7 => ?_
    obtain ⟨n8, en8⟩ : ∃ zz, zz = Ec.fs (PRM true) n5 n6 := ⟨_, rfl⟩
    refine At.callX 0 [] 35 (fun W S => toX (by kernel_rfl) rfl S (sub_y en8 (mnu en6) (S.dn 1 rfl) (S.dn 0 rfl))) fun y9 => ?_
    refine At.run 2 [] [(5, (u7 6).sl), (6, y9.sl)] ?_
    refine At.nx ?_
    refine Cd.seqj (ι := {q : (Lt × Lt) × (Nat × Nat) // q.2.1 < PRM true ∧ q.2.2 < PRM true ∧ q.2 = Ec.rdU a b}) (fun q => [(2, pt g2), (3, pt g3), (4, pt g4), (5, q.1.1.1.sl), (6, q.1.1.2.sl)]) (fun q => [(g4, .cells (pcs 0 0 false) 36 (0, 0)), (g3, .cells (pcs b.x b.y b.o) 36 (0, 0)), (g2, .cells (pcs a.x a.y a.o) 36 (0, 0))]) (fun q => [xdn q.1.2.1 true q.1.1.1, xdn q.1.2.2 true q.1.1.2]) (fun q => ?_) ?_
    next =>
     obtain ⟨⟨⟨y1, y2⟩, n1, n2⟩, hn1, hn2, hn⟩ := q
     dsimp only at hn1 hn2 hn
     refine Cd.sr ?_
     obtain ⟨n30, en30⟩ : ∃ zz, zz = Ec.riN n2 := ⟨_, rfl⟩
     refine At.run 2 [] [(58, y1.sl), (59, y2.sl)] ?_
     refine At.callX 0 [] 60 (fun W S => toX (by kernel_rfl) rfl S (rinv_y en30 (S.dn 1 rfl))) fun y31 => ?_
     obtain ⟨n32, en32⟩ : ∃ zz, zz = Ec.fm (PRM true) n1 n30 := ⟨_, rfl⟩
     refine At.callX 0 [] 61 (fun W S => toX (by kernel_rfl) rfl S (mul_y en32 (S.dn 1 rfl) (S.dn 0 rfl))) fun y33 => ?_
     refine At.run 1 [] [(8, y33.sl)] ?_
     refine At.nx ?_
     refine Cd.seq ?_
     obtain ⟨n34, en34⟩ : ∃ zz, zz = Ec.fm (PRM true) n32 n32 := ⟨_, rfl⟩
     obtain ⟨n35, en35⟩ : ∃ zz, zz = a.x % PRM true := ⟨_, rfl⟩
     obtain ⟨n36, en36⟩ : ∃ zz, zz = Ec.fs (PRM true) n34 n35 := ⟨_, rfl⟩
     refine Cd.dr 9 [0, 0, 0, 0, 2, 0, 0, 0, 1] [] [] [(2, Lt.sl, fun y W => DN n34 true y W), (5, Lt.sl, fun y W => DN n35 true y W), (6, Lt.sl, fun y W => DN n36 true y W)] [] (fun u13 => [(68, (u13 6).sl), (70, wv b.x)]) (fun u13 => [(g4, .cells (pcs 0 0 false) 36 (0, 0)), (g3, .cells (pcs b.x b.y b.o) 36 (0, 0)), (g2, .cells (pcs a.x a.y a.o) 36 (0, 0))]) (fun u13 => [xdn n36 true (u13 6), xdn n35 true (u13 5), xdn n34 true (u13 2), xdn n32 true y33, xdn n30 true y31, xdn n1 true y1, xdn n2 true y2]) (stays_cons DN.stay (stays_cons DN.stay (stays_cons DN.stay stays_nil))) eqs_nil (.cons 2 (fun u13 W S h => mul_y en34 (S.dn 0 rfl) (S.dn 0 rfl)) <| .cons 5 (fun u13 W S h => num_y en35 ha.1 W) <| .cons 6 (fun u13 W S h => sub_y en36 (mnu en35) (h.2 2 _ rfl (by kernel_rfl)) (h.2 5 _ rfl (by kernel_rfl))) <| .nil) (fun u13 W S h => Sx.addD (Sx.addD (Sx.addD (S) (h 2 _ rfl) (by kernel_rfl) rfl) (h 5 _ rfl) (by kernel_rfl) rfl) (h 6 _ rfl) (by kernel_rfl) rfl) fun u13 hu13 => ?_
     obtain ⟨n37, en37⟩ : ∃ zz, zz = b.x % PRM true := ⟨_, rfl⟩
     refine At.callX 0 [] 71 (fun W S => toX (by kernel_rfl) rfl S (num_y en37 hb'.1 W)) fun y38 => ?_
     obtain ⟨n39, en39⟩ : ∃ zz, zz = Ec.fs (PRM true) n36 n37 := ⟨_, rfl⟩
     refine At.callX 0 [] 72 (fun W S => toX (by kernel_rfl) rfl S (sub_y en39 (mnu en37) (S.dn 1 rfl) (S.dn 0 rfl))) fun y40 => ?_
     refine At.run 1 [] [(9, y40.sl)] ?_
     refine At.nx ?_
     refine Cd.seq ?_
     obtain ⟨n41, en41⟩ : ∃ zz, zz = a.x % PRM true := ⟨_, rfl⟩
     obtain ⟨n42, en42⟩ : ∃ zz, zz = Ec.fs (PRM true) n41 n39 := ⟨_, rfl⟩
     obtain ⟨n43, en43⟩ : ∃ zz, zz = Ec.fm (PRM true) n32 n42 := ⟨_, rfl⟩
     refine Cd.dr 9 [0, 0, 2, 0, 0, 0, 0, 0, 2] [] [] [(3, Lt.sl, fun y W => DN n41 true y W), (5, Lt.sl, fun y W => DN n42 true y W), (6, Lt.sl, fun y W => DN n43 true y W)] [] (fun u14 => [(79, (u14 6).sl), (81, wv a.y)]) (fun u14 => [(g4, .cells (pcs 0 0 false) 36 (0, 0)), (g3, .cells (pcs b.x b.y b.o) 36 (0, 0)), (g2, .cells (pcs a.x a.y a.o) 36 (0, 0))]) (fun u14 => [xdn n43 true (u14 6), xdn n42 true (u14 5), xdn n41 true (u14 3), xdn n39 true y40, xdn n37 true y38, xdn n36 true (u13 6), xdn n35 true (u13 5), xdn n34 true (u13 2), xdn n32 true y33, xdn n30 true y31, xdn n1 true y1, xdn n2 true y2]) (stays_cons DN.stay (stays_cons DN.stay (stays_cons DN.stay stays_nil))) eqs_nil (.cons 3 (fun u14 W S h => num_y en41 ha.1 W) <| .cons 5 (fun u14 W S h => sub_y en42 (mfs en39) (h.2 3 _ rfl (by kernel_rfl)) (S.dn 0 rfl)) <| .cons 6 (fun u14 W S h => mul_y en43 (S.dn 5 rfl) (h.2 5 _ rfl (by kernel_rfl))) <| .nil) (fun u14 W S h => Sx.addD (Sx.addD (Sx.addD (S) (h 3 _ rfl) (by kernel_rfl) rfl) (h 5 _ rfl) (by kernel_rfl) rfl) (h 6 _ rfl) (by kernel_rfl) rfl) fun u14 hu14 => ?_
     obtain ⟨n44, en44⟩ : ∃ zz, zz = a.y % PRM true := ⟨_, rfl⟩
     refine At.callX 0 [] 82 (fun W S => toX (by kernel_rfl) rfl S (num_y en44 ha.2 W)) fun y45 => ?_
     obtain ⟨n46, en46⟩ : ∃ zz, zz = Ec.fs (PRM true) n43 n44 := ⟨_, rfl⟩
     refine At.callX 0 [] 83 (fun W S => toX (by kernel_rfl) rfl S (sub_y en46 (mnu en44) (S.dn 1 rfl) (S.dn 0 rfl))) fun y47 => ?_
     refine At.run 1 [] [(10, y47.sl)] ?_
     refine At.nx ?_
     refine Cd.sr ?_
     refine At.call 1 [] 85 (fun W S => rwide_y (prm_w (mfs en39)) (S.dn 5 rfl)) ?_
     refine At.call 1 [] 87 (fun W S => rwide_y (prm_w (mfs en46)) (S.dn 0 rfl)) ?_
     refine At.st 1 [] 0 (pcs n39 n46 false) h4 ?_
     refine At.nx ?_
     exact Cd.rv r0 [] (.agg (pcs n39 n46 false)) fun W S => ⟨by rw [h, Ec.rdN, if_neg (by rw [hb]; decide), if_neg (by rw [hb1]; decide), if_neg (by rw [show pq b ⟨a.x, Ec.ngN a.y, a.o⟩ = false by rw [← hb2, en1]; rfl]; decide), ← hn]; clear hb hb1 hb2 h hn; subst_vars; rfl, S.below⟩
    next =>
     refine Cd.sr ?_
     refine At.run 3 [2, 1] [(38, .bool (weq a.x b.x && (weq a.y b.y && ((a.o == b.o) && true))))] ?_
     refine At.nx ?_
     rcases Bool.eq_false_or_eq_true (weq a.x b.x && (weq a.y b.y && ((a.o == b.o) && true))) with hb3 | hb3
     next =>
      refine Cd.eqv 38 (.bool (weq a.x b.x && (weq a.y b.y && ((a.o == b.o) && true)))) (.bool true) (congrArg _ hb3) ?_
      refine Cd.ct ?_
      refine Cd.seq ?_
      obtain ⟨n48, en48⟩ : ∃ zz, zz = a.x % PRM true := ⟨_, rfl⟩
      refine Cd.dr 5 [0, 2, 0, 0, 2] [] [] [(2, Lt.sl, fun y W => DN n48 true y W)] [] (fun u9 => [(41, (u9 2).sl), (43, wv a.x)]) (fun u9 => [(g4, .cells (pcs 0 0 false) 36 (0, 0)), (g3, .cells (pcs b.x b.y b.o) 36 (0, 0)), (g2, .cells (pcs a.x a.y a.o) 36 (0, 0))]) (fun u9 => [xdn n48 true (u9 2), xdn n8 true y9, xdn n6 true y7, xdn n5 true (u7 9), xdn n4 true (u7 6), xdn n3 true (u7 5), xdn n2 true (u7 2)]) (stays_cons DN.stay stays_nil) eqs_nil (.cons 2 (fun u9 W S h => num_y en48 ha.1 W) <| .nil) (fun u9 W S h => Sx.addD (S) (h 2 _ rfl) (by kernel_rfl) rfl) fun u9 hu9 => ?_
      obtain ⟨n49, en49⟩ : ∃ zz, zz = a.x % PRM true := ⟨_, rfl⟩
      refine At.callX 0 [] 44 (fun W S => toX (by kernel_rfl) rfl S (num_y en49 ha.1 W)) fun y50 => ?_
      obtain ⟨n51, en51⟩ : ∃ zz, zz = Ec.fm (PRM true) n48 n49 := ⟨_, rfl⟩
      refine At.callX 0 [] 45 (fun W S => toX (by kernel_rfl) rfl S (mul_y en51 (S.dn 1 rfl) (S.dn 0 rfl))) fun y52 => ?_
      refine At.run 1 [] [(7, y52.sl)] ?_
      refine At.nx ?_
      refine Cd.sr ?_
      obtain ⟨n53, en53⟩ : ∃ zz, zz = Ec.fa (PRM true) n51 n51 := ⟨_, rfl⟩
      refine At.callX 2 [] 48 (fun W S => toX (by kernel_rfl) rfl S (add_y en53 (S.dn 0 rfl) (S.dn 0 rfl))) fun y54 => ?_
      obtain ⟨n55, en55⟩ : ∃ zz, zz = Ec.fa (PRM true) n53 n51 := ⟨_, rfl⟩
      refine At.callX 1 [] 50 (fun W S => toX (by kernel_rfl) rfl S (add_y en55 (S.dn 0 rfl) (S.dn 1 rfl))) fun y56 => ?_
      refine At.run 1 [] [(5, y56.sl)] ?_
      refine At.nx ?_
      obtain ⟨n57, en57⟩ : ∃ zz, zz = a.y % PRM true := ⟨_, rfl⟩
      refine Cd.dr 5 [0, 2, 0, 0, 2] [] [] [(2, Lt.sl, fun y W => DN n57 true y W)] [] (fun u11 => [(53, (u11 2).sl), (55, wv a.y)]) (fun u11 => [(g4, .cells (pcs 0 0 false) 36 (0, 0)), (g3, .cells (pcs b.x b.y b.o) 36 (0, 0)), (g2, .cells (pcs a.x a.y a.o) 36 (0, 0))]) (fun u11 => [xdn n57 true (u11 2), xdn n55 true y56, xdn n53 true y54, xdn n51 true y52, xdn n49 true y50, xdn n48 true (u9 2), xdn n8 true y9, xdn n6 true y7, xdn n5 true (u7 9), xdn n4 true (u7 6), xdn n3 true (u7 5), xdn n2 true (u7 2)]) (stays_cons DN.stay stays_nil) eqs_nil (.cons 2 (fun u11 W S h => num_y en57 ha.2 W) <| .nil) (fun u11 W S h => Sx.addD (S) (h 2 _ rfl) (by kernel_rfl) rfl) fun u11 hu11 => ?_
      obtain ⟨n58, en58⟩ : ∃ zz, zz = a.y % PRM true := ⟨_, rfl⟩
      refine At.callX 0 [] 56 (fun W S => toX (by kernel_rfl) rfl S (num_y en58 ha.2 W)) fun y59 => ?_
      obtain ⟨n60, en60⟩ : ∃ zz, zz = Ec.fa (PRM true) n57 n58 := ⟨_, rfl⟩
      refine At.callX 0 [] 57 (fun W S => toX (by kernel_rfl) rfl S (add_y en60 (S.dn 1 rfl) (S.dn 0 rfl))) fun y61 => ?_
      refine At.run 1 [] [(6, y61.sl)] ?_
      refine At.fin ?_
      exact join_of (⟨((y56, y61), (n55, n60)), (mfa en55), (mfa en60), by rw [Ec.rdU, if_pos (show pq a b = true from hb3)]; clear hb hb1 hb2 hb3; subst_vars; rfl⟩) (fun _ S => S.selX [3, 0] rfl)
     next =>
      refine Cd.eqv 38 (.bool (weq a.x b.x && (weq a.y b.y && ((a.o == b.o) && true)))) (.bool false) (congrArg _ hb3) ?_
      refine Cd.cf ?_
      refine Cd.sk ?_
      exact join_of (⟨(((u7 6), y9), (n4, n8)), (mfs en4), (mfs en8), by rw [Ec.rdU, if_neg (by rw [show pq a b = false from hb3]; decide)]; clear hb hb1 hb2 hb3; subst_vars; rfl⟩) (fun _ S => S.selX [3, 0] rfl)
theorem conv_u (r : Nat) (h : r < 64) : IntKind.u64.wrap (((r : Nat) : Int)) = ((r : Nat) : Int) := by rw [IntKind.wrap_u64]; omega
theorem rem2 (n : Nat) : Int.tmod (n : Int) 2 = ((n % 2 : Nat) : Int) := by
  rw [show ((2 : Int)) = ((2 : Nat) : Int) from rfl, ← Int.ofNat_tmod]
theorem add1 (n : Nat) (h : n ≤ 256) : IntKind.i64.wrap (((n : Nat) : Int) + 1) = ((n + 1 : Nat) : Int) := by rw [IntKind.wrap_i64]; omega
theorem rt_t {k i : Nat} {A : Pn} {o p : Ec.Spt} (h : (o, p) = Ec.rtN k A i) (hb : ((((k / 2 ^ i % 2 : Nat) : Int)) == 1) = true) : Ec.rtN k A (i + 1) = (Ec.smN o p, Ec.smN p p) := by
  rw [beq1] at hb; rw [Ec.rtN, ← h, if_pos (of_decide_eq_true hb)]
theorem rt_f {k i : Nat} {A : Pn} {o p : Ec.Spt} (h : (o, p) = Ec.rtN k A i) (hb : ((((k / 2 ^ i % 2 : Nat) : Int)) == 1) = false) : Ec.rtN k A (i + 1) = (o, Ec.smN p p) := by
  rw [beq1] at hb; rw [Ec.rtN, ← h, if_neg (of_decide_eq_false hb)]
set_option maxRecDepth 100000 in
theorem rtimes_z {k : Nat} {a c : Pn} (h : c = Ec.rttN k a) (hk : k < W256) (ha : a.x < W256 ∧ a.y < W256) (w : World) : Calls Try.prog 14 #[wv k, pnv a] w fun e w' => e = .returned (pnv c) ∧ Below w.heap.size w w' := by
 refine enterQ 39 (fun q => .seq (q 0) (.seq (q 1) (.seq (q 2) (.seq (.seq (q 3) (.block 0 (.loop (.seq (.seq (q 4) (.cond (.tmp 18) .skip (.exit 0))) (.seq (.block 1 (.seq (.seq (q 6) (.cond (.tmp 30) (q 7) .skip)) (q 8))) (q 5)))))) (.seq (q 9) .ret))))) (Sx.nil w) Try.func14 ?_
 refine Cd.sr ?_
 refine At.new 0 [] 2 (limbs4 k) 24 fun g2 h2 => ?_
 refine At.new 0 [] 3 (pcs a.x a.y a.o) 36 fun g3 h3 => ?_
 refine At.new 0 [] 4 (pcs 0 0 false) 36 fun g4 h4 => ?_
 refine At.nx ?_
 refine Cd.seq ?_
 obtain ⟨s1, es1⟩ : ∃ zz, zz = Ec.ofN (⟨0, 0, true⟩) := ⟨_, rfl⟩
 obtain ⟨s2, es2⟩ : ∃ zz, zz = Ec.ofN a := ⟨_, rfl⟩
 refine Cd.dr 6 [0, 0, 1] [] [(4, ⟨none, rcs (.slice none 0 0) (.slice none 0 0) (.slice none 0 0), 78⟩), (5, ⟨none, rcs (.slice none 0 0) (.slice none 0 0) (.slice none 0 0), 78⟩)] [(1, dsv, DS s1), (3, dsv, DS s2)] [] (fun u1 => [(10, .agg (rcs ((u1 1).sl) (((u1 1).s2).sl) (((u1 1).s3).sl))), (12, .agg (rcs ((u1 3).sl) (((u1 3).s2).sl) (((u1 3).s3).sl))), (5, pt ((u1 4).n)), (6, pt ((u1 5).n))]) (fun u1 => [((u1 4).n, .cells (rcs (.slice none 0 0) (.slice none 0 0) (.slice none 0 0)) 78 (0, 0)), ((u1 5).n, .cells (rcs (.slice none 0 0) (.slice none 0 0) (.slice none 0 0)) 78 (0, 0)), (g4, .cells (pcs 0 0 false) 36 (0, 0)), (g3, .cells (pcs a.x a.y a.o) 36 (0, 0)), (g2, .cells (limbs4 k) 24 (0, 0))]) (fun u1 => [xdn s2.x true (u1 3), xdn s2.y true ((u1 3).s2), xdn s2.z true ((u1 3).s3), xdn s1.x true (u1 1), xdn s1.y true ((u1 1).s2), xdn s1.z true ((u1 1).s3)]) (stays_cons DS.stay (stays_cons DS.stay stays_nil)) eqs_nil (.cons 1 (fun u1 W S h => of_y es1 ⟨(by decide), (by decide)⟩ W) <| .cons 3 (fun u1 W S h => of_y es2 ⟨ha.1, ha.2⟩ W) <| .nil) (fun u1 W S h => Sx.addS (Sx.addS (S) (h 1 _ rfl) (by kernel_rfl) rfl) (h 3 _ rfl) (by kernel_rfl) rfl) fun u1 hu1 => ?_
 refine At.st 0 [] 0 (rcs ((u1 1).sl) (((u1 1).s2).sl) (((u1 1).s3).sl)) (hu1 4 _ rfl) ?_
 refine At.st 0 [] 1 (rcs ((u1 3).sl) (((u1 3).s2).sl) (((u1 3).s3).sl)) (hu1 5 _ rfl) ?_
 refine At.nx ?_
 refine Cd.sr ?_
 refine At.callX 1 [4] 14 (fun W S => toX (by kernel_rfl) rfl S (of2_y hk W)) fun y3 => ?_
 refine At.call 0 [] 15 (fun W S => rbits_y (S.dn 0 rfl)) ?_
 refine At.run 1 [] [(7, .int .i64 ((blen k : Nat) : Int))] ?_
 refine At.nx ?_
 refine Cd.seq ?_
 refine Cd.sr ?_
 refine At.run 1 [] [(8, .int .i64 0)] ?_
 refine At.nx ?_
 refine Cd.blk ?_
 refine Cd.loop (ι := {q : (Nat × Ec.Spt × Ec.Spt) × (Lt × Lt) // q.1.1 ≤ blen k ∧ (q.1.2.1, q.1.2.2) = Ec.rtN k a q.1.1}) (fun q => blen k - q.1.1.1) (fun q => [(2, pt g2), (3, pt g3), (4, pt g4), (5, pt ((u1 4).n)), (6, pt ((u1 5).n)), (7, .int .i64 ((blen k : Nat) : Int)), (8, .int .i64 ((q.1.1.1 : Nat) : Int))]) (fun q => [((u1 4).n, .cells (rcs q.1.2.1.sl q.1.2.1.s2.sl q.1.2.1.s3.sl) 78 (0, 0)), ((u1 5).n, .cells (rcs q.1.2.2.sl q.1.2.2.s2.sl q.1.2.2.s3.sl) 78 (0, 0)), (g4, .cells (pcs 0 0 false) 36 (0, 0)), (g3, .cells (pcs a.x a.y a.o) 36 (0, 0)), (g2, .cells (limbs4 k) 24 (0, 0))]) (fun q => [xdn q.1.1.2.1.x true q.1.2.1, xdn q.1.1.2.1.y true q.1.2.1.s2, xdn q.1.1.2.1.z true q.1.2.1.s3, xdn q.1.1.2.2.x true q.1.2.2, xdn q.1.1.2.2.y true q.1.2.2.s2, xdn q.1.1.2.2.z true q.1.2.2.s3]) (⟨((0, s1, s2), ((u1 1), (u1 3))), Nat.zero_le _, by rw [es1, es2]; rfl⟩) (fun _ S => S.selX [4, 5, 6, 1, 2, 3] rfl) (fun q => ?_) 
 obtain ⟨⟨⟨i, so, sp⟩, yo, yp⟩, hi, hi2⟩ := q
 dsimp only at hi hi2
 have hm := zrt (k := k) (A := a) i
 rw [← hi2] at hm
 refine Cd.seq ?_
 refine Cd.sr ?_
 refine At.run 3 [] [(18, .bool (decide (((i : Nat) : Int) < ((blen k : Nat) : Int))))] ?_
 refine At.nx ?_
 rcases Bool.eq_false_or_eq_true (decide (((i : Nat) : Int) < ((blen k : Nat) : Int))) with hb | hb
 next =>
  refine Cd.eqv 18 (.bool (decide (((i : Nat) : Int) < ((blen k : Nat) : Int)))) (.bool true) (congrArg _ hb) ?_
  refine Cd.ct ?_
  refine Cd.sk ?_
  show Cd _ _ _ _ _ _ _ _
  refine Cd.seq ?_
  refine Cd.blk ?_
  refine Cd.seq ?_
  have hi3 : i < 256 := by have := of_decide_eq_true hb; have := bl256 hk; omega
  have hq := quo64 i hi3
  refine Cd.sr ?_
  refine At.ar 2 [] 22 (.int .i64 (IntKind.i64.wrap (Int.tdiv (i : Int) 64))) (.int .i64 ((i / 64 : Nat) : Int)) (congrArg _ hq) ?_
  refine At.ixa 0 [] 23 4 1 g2 0 .i64 (i / 64) (by omega) ?_
  refine At.ld 0 [] 24 g2 (0 + i / 64 * 1) (.int .u64 (limb k (i / 64) : Nat)) (fun W S => limb_cell k (S.at 4 rfl) (by omega)) ?_
  refine At.ar 2 [] 26 (.int .i64 (Int.tmod (i : Int) 64)) (.int .i64 ((i % 64 : Nat) : Int)) (congrArg _ (rem64 i)) ?_
  refine At.ar 1 [] 27 (.int .u64 (IntKind.u64.wrap ((i % 64 : Nat) : Int))) (.int .u64 ((i % 64 : Nat) : Int)) (congrArg _ (conv_u (i % 64) (by omega))) ?_
  refine At.bin 0 [] 28 .shr (.int .u64 (limb k (i / 64) : Nat)) (.int .u64 ((i % 64 : Nat) : Int)) (.int .u64 ((limb k (i / 64) / 2 ^ (i % 64) : Nat) : Int)) (fun t W => (run_shr t W).trans (by rw [show IntKind.u64.bits = 64 from rfl, shr64 (limb k (i / 64)) (i % 64) (by omega)])) ?_
  refine At.ar 1 [] 29 (.int .u64 (Int.tmod ((limb k (i / 64) / 2 ^ (i % 64) : Nat) : Int) 2)) (.int .u64 ((k / 2 ^ i % 2 : Nat) : Int)) (congrArg _ ((rem2 _).trans (by rw [limb_bit]))) ?_
  refine At.run 1 [] [(30, .bool (((k / 2 ^ i % 2 : Nat) : Int) == 1))] ?_
  refine At.nx ?_
  rcases Bool.eq_false_or_eq_true (((k / 2 ^ i % 2 : Nat) : Int) == 1) with hb1 | hb1
  next =>
   refine Cd.eqv 30 (.bool (((k / 2 ^ i % 2 : Nat) : Int) == 1)) (.bool true) (congrArg _ hb1) ?_
   refine Cd.ct ?_
   refine Cd.rg ?_
   obtain ⟨s4, es4⟩ : ∃ zz, zz = Ec.smN so sp := ⟨_, rfl⟩
   refine At.callX 2 [0, 1] 33 (fun W S => toS (by kernel_rfl) rfl S (sum_y es4 ⟨hm.1.1, hm.1.2.1, hm.1.2.2⟩ ⟨hm.2.1, hm.2.2.1, hm.2.2.2⟩ ⟨(S.dn 0 rfl), (S.dn 1 rfl), (S.dn 2 rfl)⟩ ⟨(S.dn 3 rfl), (S.dn 4 rfl), (S.dn 5 rfl)⟩)) fun y5 => ?_
   refine At.st 0 [] 0 (rcs y5.sl y5.s2.sl y5.s3.sl) (hu1 4 _ rfl) ?_
   refine At.fin ?_
   show Cd _ _ _ _ _ _ _ _
   refine Cd.rg ?_
   obtain ⟨s6, es6⟩ : ∃ zz, zz = Ec.smN sp sp := ⟨_, rfl⟩
   refine At.callX 2 [1, 1] 36 (fun W S => toS (by kernel_rfl) rfl S (sum_y es6 ⟨hm.2.1, hm.2.2.1, hm.2.2.2⟩ ⟨hm.2.1, hm.2.2.1, hm.2.2.2⟩ ⟨(S.dn 6 rfl), (S.dn 7 rfl), (S.dn 8 rfl)⟩ ⟨(S.dn 6 rfl), (S.dn 7 rfl), (S.dn 8 rfl)⟩)) fun y7 => ?_
   refine At.st 0 [] 1 (rcs y7.sl y7.s2.sl y7.s3.sl) (hu1 5 _ rfl) ?_
   refine At.fin ?_
   show Cd _ _ _ _ _ _ _ _
   refine Cd.rg ?_
   refine At.ar 2 [] 20 (.int .i64 (IntKind.i64.wrap (((i : Nat) : Int) + 1))) (.int .i64 ((i + 1 : Nat) : Int)) (congrArg _ (add1 i (by omega))) ?_
   refine At.run 1 [] [(8, .int .i64 ((i + 1 : Nat) : Int))] ?_
   refine At.fin ?_
   exact again_of (⟨((i + 1, s4, s6), (y5, y7)), (by have := of_decide_eq_true hb; dsimp only; omega), (by rw [rt_t hi2 hb1, ← es4, ← es6])⟩) (show blen k - (i + 1) < blen k - i by have := of_decide_eq_true hb; omega) (fun _ S => S.selX [3, 4, 5, 0, 1, 2] rfl)
  next =>
   refine Cd.eqv 30 (.bool (((k / 2 ^ i % 2 : Nat) : Int) == 1)) (.bool false) (congrArg _ hb1) ?_
   refine Cd.cf ?_
   refine Cd.sk ?_
   show Cd _ _ _ _ _ _ _ _
   refine Cd.rg ?_
   obtain ⟨s8, es8⟩ : ∃ zz, zz = Ec.smN sp sp := ⟨_, rfl⟩
   refine At.callX 2 [1, 1] 36 (fun W S => toS (by kernel_rfl) rfl S (sum_y es8 ⟨hm.2.1, hm.2.2.1, hm.2.2.2⟩ ⟨hm.2.1, hm.2.2.1, hm.2.2.2⟩ ⟨(S.dn 3 rfl), (S.dn 4 rfl), (S.dn 5 rfl)⟩ ⟨(S.dn 3 rfl), (S.dn 4 rfl), (S.dn 5 rfl)⟩)) fun y9 => ?_
   refine At.st 0 [] 1 (rcs y9.sl y9.s2.sl y9.s3.sl) (hu1 5 _ rfl) ?_
   refine At.fin ?_
   show Cd _ _ _ _ _ _ _ _
   refine Cd.rg ?_
   refine At.ar 2 [] 20 (.int .i64 (IntKind.i64.wrap (((i : Nat) : Int) + 1))) (.int .i64 ((i + 1 : Nat) : Int)) (congrArg _ (add1 i (by omega))) ?_
   refine At.run 1 [] [(8, .int .i64 ((i + 1 : Nat) : Int))] ?_
   refine At.fin ?_
   exact again_of (⟨((i + 1, so, s8), (yo, y9)), (by have := of_decide_eq_true hb; dsimp only; omega), (by rw [rt_f hi2 hb1, ← es8])⟩) (show blen k - (i + 1) < blen k - i by have := of_decide_eq_true hb; omega) (fun _ S => S.selX [3, 4, 5, 0, 1, 2] rfl)
 next =>
  refine Cd.eqv 18 (.bool (decide (((i : Nat) : Int) < ((blen k : Nat) : Int)))) (.bool false) (congrArg _ hb) ?_
  refine Cd.cf ?_
  refine Cd.ex ?_
  show Cd _ _ _ _ _ _ _ _
  refine Cd.sr ?_
  obtain ⟨p10, ep10⟩ : ∃ zz, zz = Ec.rpN so := ⟨_, rfl⟩
  refine At.call 1 [] 38 (fun W S => rpoint_z ep10 ⟨hm.1.1, hm.1.2.1, hm.1.2.2⟩ ⟨(S.dn 0 rfl), (S.dn 1 rfl), (S.dn 2 rfl)⟩) ?_
  refine At.st 0 [] 2 (pcs p10.x p10.y p10.o) h4 ?_
  refine At.nx ?_
  exact Cd.rv r0 [2] (.agg (pcs p10.x p10.y p10.o)) fun W S => ⟨by have he : i = blen k := (by have := of_decide_eq_false hb; omega); subst he; rw [show c = p10 from h.trans (by rw [Ec.rttN, ← hi2, ep10])], S.below⟩
end Go.Proofs.Ytknoamaapnbibaa
namespace Go.Proofs.Ytknoamaapnbibaa
namespace Ec
section ring
variable {α : Type} [CR α]
theorem sl_same {x y l : α} (h : l * (2 * y) = 3 * (x * x)) : Sl x y x y l := ⟨by clear h; grind, by grind⟩
theorem sl_other (K : Fld (α)) {x1 y1 x2 y2 l : α} (h1 : On (.af x1 y1)) (h2 : On (.af x2 y2)) (hx : x1 ≠ x2) (h : l * (x2 - x1) = y2 - y1) : Sl x1 y1 x2 y2 l := by
  refine ⟨h, ?_⟩
  have hd : x2 - x1 ≠ 0 := fun e => hx (eq_sub e)
  have e1 : y1 * y1 = x1 * x1 * x1 + 7 := h1
  have e2 : y2 * y2 = x2 * x2 * x2 + 7 := h2
  refine cancel K hd ?_
  have a1 : (x2 - x1) * (l * (y1 + y2)) = (l * (x2 - x1)) * (y1 + y2) := by clear h e1 e2 h1 h2; grind
  rw [a1, h]
  clear h a1 hd hx h1 h2
  grind
theorem zero_sub' (y : α) : 0 - y = -y := by grind
theorem neg_add' (y : α) : y + -y = 0 := by grind
theorem dbl (y : α) : y + y = 2 * y := by grind
theorem trp (x : α) : x * x + x * x + x * x = 3 * (x * x) := by grind
theorem mul_back {a v i : α} (h : v * i = 1) : a * i * v = a := by
  have e : a * i * v = a * (v * i) := by clear h; grind
  rw [e, h]; clear e h; grind
end ring
section gen
variable (n : Nat) [NeZero n]
/-- A point as numbers. -/
def vl : Pt (Fin n) → Pn
  | .none => ⟨0, 0, true⟩
  | .af x y => ⟨x.val, y.val, false⟩
theorem vl_inj {A B : Pt (Fin n)} (h : vl n A = vl n B) : A = B := by
  cases A with
  | none => cases B with
    | none => rfl
    | af x y => simp [vl] at h
  | af x y => cases B with
    | none => simp [vl] at h
    | af x' y' =>
      simp only [vl, Pn.mk.injEq, and_true] at h
      rw [Fin.ext h.1, Fin.ext h.2]
theorem vl_lt (A : Pt (Fin n)) : (vl n A).x < n ∧ (vl n A).y < n := by
  cases A with
  | none => exact ⟨n_pos n, n_pos n⟩
  | af x y => exact ⟨x.isLt, y.isLt⟩
theorem inv_gen (hp : Pr n) (_ : 1 < n) {z : Nat} (hz : z % n ≠ 0) : fofn n z * fofn n (z ^ (n - 2) % n) = 1 := by
  rw [← fofn_mul, Nat.mul_mod_mod, pr_inv hp hz]; rfl
theorem val_fm (a b : Nat) : (fofn n (fm n a b)).val = fm n a b := fofn_small n (fm_lt n a b)
theorem val_fs (a b : Nat) : (fofn n (fs n a b)).val = fs n a b := fofn_small n (fs_lt n a b)
theorem pt_zero {s : Spt} {A : Pt (Fin n)} (h : JacN n s A) (hz : s.z = 0) : A = .none := by
  cases A with
  | none => rfl
  | af x y => exact absurd (by rw [hz]; exact tp_none n) h.1
theorem pt_gen {s : Spt} {A : Pt (Fin n)} {i : Nat} (h : JacN n s A) (hz : fofn n s.z ≠ 0) (hi : fofn n s.z * fofn n i = 1) : vl n A = ⟨fm n s.x (fm n i i), fm n s.y (fm n (fm n i i) i), false⟩ := by
  rw [jac_point h hi hz]
  show (⟨(fofn n s.x * (fofn n i * fofn n i)).val, (fofn n s.y * (fofn n i * fofn n i * fofn n i)).val, false⟩ : Pn) = _
  rw [← tp_fm, ← tp_fm, ← tp_fm, ← tp_fm, val_fm, val_fm]
/-- The document's spots. -/
def ProjN (s : Spt) (A : Pt (Fin n)) : Prop := Proj (fofn n s.x) (fofn n s.y) (fofn n s.z) A
theorem rp_zero {s : Spt} {A : Pt (Fin n)} (h : ProjN n s A) (hz : s.z = 0) : A = .none := by
  cases A with
  | none => rfl
  | af x y => exact absurd (by rw [hz]; exact tp_none n) h.1
theorem rp_gen {s : Spt} {A : Pt (Fin n)} {i : Nat} (h : ProjN n s A) (hz : fofn n s.z ≠ 0) (hi : fofn n s.z * fofn n i = 1) : vl n A = ⟨fm n s.x i, fm n s.y i, false⟩ := by
  rw [proj_point h hi hz]
  show (⟨(fofn n s.x * fofn n i).val, (fofn n s.y * fofn n i).val, false⟩ : Pn) = _
  rw [← tp_fm, ← tp_fm, val_fm, val_fm]
end gen
abbrev vp (A : Pt FP) : Pn := vl (PRM true) A
theorem vp_w (A : Pt FP) : (vp A).x < W256 ∧ (vp A).y < W256 := ⟨prm_w (vl_lt _ A).1, prm_w (vl_lt _ A).2⟩
theorem vp_base : vp GB = ⟨GX, GY, false⟩ := by
  show (⟨(fofn (PRM true) GX).val, (fofn (PRM true) GY).val, false⟩ : Pn) = _
  rw [fofn_small _ gx_lt, fofn_small _ gy_lt]
theorem nz {z : Nat} (h : z < PRM true) (hz : z ≠ 0) : fofn (PRM true) z ≠ 0 := fun e => hz ((tp_zero _ h).1 e)
theorem pt_val {s : Spt} {A : Pt FP} (hs : SpOk (PRM true) s) (h : JacN (PRM true) s A) : ptN s = vp A := by
  unfold ptN
  have hm : s.z % PRM true = s.z := Nat.mod_eq_of_lt hs.2.2
  by_cases hz : s.z = 0
  · rw [if_pos (hm.trans hz), pt_zero _ h hz]; rfl
  · have hz' : s.z % PRM true ≠ 0 := by rw [hm]; exact hz
    have hi : fofn (PRM true) s.z * fofn (PRM true) (ivN true s.z) = 1 := by
      unfold ivN; rw [if_neg hz']; exact inv_gen (PRM true) prm_pr prm_one hz'
    rw [if_neg hz', vp, pt_gen _ h (nz hs.2.2 hz) hi]
theorem rp_val {s : Spt} {A : Pt FP} (hs : SpM s) (h : ProjN (PRM true) s A) : rpN s = vp A := by
  unfold rpN
  by_cases hz : s.z = 0
  · rw [if_pos hz, rp_zero _ h hz]; rfl
  · have hz' : s.z % PRM true ≠ 0 := by rw [Nat.mod_eq_of_lt hs.2.2]; exact hz
    have hi : fofn (PRM true) s.z * fofn (PRM true) (riN s.z) = 1 := inv_gen (PRM true) prm_pr prm_one hz'
    rw [if_neg hz, vp, rp_gen _ h (nz hs.2.2 hz) hi]
/-- The point of a point's numbers. -/
theorem at_val {x y : FP} : Pt.af (fofn (PRM true) x.val) (fofn (PRM true) y.val) = .af x y := by rw [fofn_self, fofn_self]
/-- What the document's spots are. -/
theorem ofs_val (A : Pt FP) : ProjN (PRM true) (ofN (vp A)) A := by
  cases A with
  | none => exact ⟨tp_none _, by rw [show fofn (PRM true) (ofN (vp .none)).y = 1 from tp_one _]; exact one_ne _ prm_one, tp_none _⟩
  | af x y =>
    have h : ofN (vp (.af x y)) = ⟨x.val % PRM true, y.val % PRM true, 1⟩ := rfl
    rw [h]
    refine ⟨by rw [show fofn (PRM true) (Spt.mk (x.val % PRM true) (y.val % PRM true) 1).z = 1 from tp_one _]; exact one_ne _ prm_one, ?_, ?_⟩
    · show fofn (PRM true) (x.val % PRM true) = x * fofn (PRM true) 1
      rw [fofn_mod, fofn_self, tp_one, Ec.r_mul_one]
    · show fofn (PRM true) (y.val % PRM true) = y * fofn (PRM true) 1
      rw [fofn_mod, fofn_self, tp_one, Ec.r_mul_one]
theorem tp_21 (n : Nat) [NeZero n] : fofn n 21 = 21 := Fin.ext rfl
theorem sum_val {a b : Spt} {A B : Pt FP} (hA : On A) (hB : On B) (ha : ProjN (PRM true) a A) (hb : ProjN (PRM true) b B) : ProjN (PRM true) (smN a b) (add KP A B) := by
  have := proj_sum KP hA hB ha hb
  unfold ProjN smN
  simp only [tp_fm, tp_fa, tp_fs, tp_21]
  exact this
theorem on_gb : On (Pt.af (fofn (PRM true) GX) (fofn (PRM true) GY)) := on_base
/-- Many times the base and many times another one, bit by bit. -/
theorem bo_jac {k m n : Nat} {A : Pt FP} (hA : On A) (hm : A = .none → m = 0) (hk2 : k < 2 ^ n) (hm2 : m < 2 ^ n) : ∀ t, t ≤ n → JacN (PRM true) (boN k m (vp A).x (vp A).y n t) (add KP (mul KP (k / 2 ^ (n - t)) GB) (mul KP (m / 2 ^ (n - t)) A)) ∧ SpOk (PRM true) (boN k m (vp A).x (vp A).y n t)
  | 0, _ => by
    rw [Nat.sub_zero, Nat.div_eq_of_lt hk2, Nat.div_eq_of_lt hm2]
    exact ⟨tp_none _, prm_pos, prm_pos, prm_pos⟩
  | t + 1, ht => by
    obtain ⟨h1, h2⟩ := bo_jac hA hm hk2 hm2 t (by omega)
    obtain ⟨i, hi⟩ : ∃ i, i = n - 1 - t := ⟨_, rfl⟩
    rw [show n - t = i + 1 by omega] at h1
    rw [show n - (t + 1) = i by omega, half_up' k i, half_up' m i, boN, ← hi]
    generalize boN k m (vp A).x (vp A).y n t = s at h1 h2 ⊢
    generalize ha : k / 2 ^ (i + 1) = a at h1 ⊢
    generalize hb : m / 2 ^ (i + 1) = b at h1 ⊢
    have oG := on_mul KP on_base
    have oA := on_mul KP hA
    have hP := on_add KP (oG a) (oA b)
    have t1 := twN_jac (PRM true) KP hP h1
    rw [add4 KP (oG a) (oA b) (oG a) (oA b), ← mul_two KP on_base, ← mul_two KP hA] at t1
    have t2 : SpOk (PRM true) (twN (PRM true) s) := twN_ok _ s
    unfold boR
    generalize twN (PRM true) s = s1 at t1 t2 ⊢
    have k1 : ∃ s2, (if k / 2 ^ i % 2 = 1 then plN (PRM true) s1 GX GY else s1) = s2 ∧ JacN (PRM true) s2 (add KP (mul KP (2 * a + k / 2 ^ i % 2) GB) (mul KP (2 * b) A)) ∧ SpOk (PRM true) s2 := by
      refine ⟨_, rfl, ?_⟩
      by_cases e : k / 2 ^ i % 2 = 1
      · rw [if_pos e, e]
        refine ⟨?_, plN_ok _ prm_one _ gx_lt gy_lt⟩
        have := plN_jac (PRM true) KP prm_one t2 (on_add KP (oG (2 * a)) (oA (2 * b))) on_gb t1
        have e2 : add KP (add KP (mul KP (2 * a) GB) (mul KP (2 * b) A)) GB = add KP (mul KP (2 * a + 1) GB) (mul KP (2 * b) A) := by
          rw [assoc KP (oG _) (oA _) on_base, add_comm KP (oA _) on_base, ← assoc KP (oG _) on_base (oA _)]; rfl
        rw [← e2]; exact this
      · rw [if_neg e, show k / 2 ^ i % 2 = 0 by omega, Nat.add_zero]
        exact ⟨t1, t2⟩
    obtain ⟨s2, e2, j1, j2⟩ := k1
    rw [e2]
    by_cases e : m / 2 ^ i % 2 = 1
    · rw [if_pos e, e]
      cases A with
      | none => rw [hm rfl, Nat.zero_div] at e; cases e
      | af x y =>
        have hA' : On (.af (fofn (PRM true) x.val) (fofn (PRM true) y.val)) := by rw [at_val]; exact hA
        have := plN_jac (PRM true) KP prm_one j2 (on_add KP (oG _) (oA (2 * b))) hA' j1
        rw [at_val, assoc KP (oG _) (oA _) hA] at this
        exact ⟨this, plN_ok _ prm_one _ x.isLt y.isLt⟩
    · rw [if_neg e, show m / 2 ^ i % 2 = 0 by omega, Nat.add_zero]
      exact ⟨j1, j2⟩
theorem bt_val {k m : Nat} {A : Pt FP} (hA : On A) : btN k m (vp A) = vp (add KP (mul KP k GB) (mul KP m A)) := by
  unfold btN
  dsimp only
  obtain ⟨m', hm'⟩ : ∃ x, (if (vp A).o = true then 0 else m) = x := ⟨_, rfl⟩
  rw [hm']
  obtain ⟨n, hn⟩ : ∃ n, max (blen k) (blen m') = n := ⟨_, rfl⟩
  rw [hn]
  have hk2 : k < 2 ^ n := (blen_le_iff k n).1 (by omega)
  have hm2 : m' < 2 ^ n := (blen_le_iff m' n).1 (by omega)
  have hz : A = .none → m' = 0 := fun e => by subst e; exact hm'.symm
  have e1 : mul KP m' A = mul KP m A := by
    cases A with
    | none => rw [mul_none, mul_none]
    | af x y => rw [← hm']; rfl
  obtain ⟨h1, h2⟩ := bo_jac hA hz hk2 hm2 n (Nat.le_refl _)
  rw [Nat.sub_self, Nat.pow_zero, Nat.div_one, Nat.div_one, e1] at h1
  exact pt_val h2 h1
/-- The document's Times. -/
theorem rt_proj {k : Nat} {A : Pt FP} (hA : On A) : ∀ i, ProjN (PRM true) (rtN k (vp A) i).1 (mul KP (k % 2 ^ i) A) ∧ ProjN (PRM true) (rtN k (vp A) i).2 (mul KP (2 ^ i) A)
  | 0 => by
    rw [Nat.pow_zero, Nat.mod_one]
    exact ⟨ofs_val .none, ofs_val A⟩
  | i + 1 => by
    obtain ⟨h1, h2⟩ := rt_proj hA i
    have o := on_mul KP hA
    refine ⟨?_, ?_⟩
    · rw [rtN]; dsimp only
      have e := Nat.mod_pow_succ (x := k) (b := 2) (k := i)
      by_cases hb : k / 2 ^ i % 2 = 1
      · rw [if_pos hb, e, hb, Nat.mul_one, mul_add KP hA]
        exact sum_val (o _) (o _) h1 h2
      · rw [if_neg hb, e, show k / 2 ^ i % 2 = 0 by omega, Nat.mul_zero, Nat.add_zero]
        exact h1
    · rw [rtN, Nat.pow_succ, Nat.mul_comm, mul_two KP hA]
      exact sum_val (o _) (o _) h2 h2
theorem rtt_val {k : Nat} {A : Pt FP} (hA : On A) : rttN k (vp A) = vp (mul KP k A) := by
  have h := (rt_proj (k := k) hA (blen k)).1
  rw [Nat.mod_eq_of_lt ((blen_le_iff k (blen k)).1 (Nat.le_refl _))] at h
  exact rp_val (zrt _).1 h
theorem on_val {A : Pt FP} (hA : On A) : onN (vp A).x (vp A).y (vp A).o = true := by
  cases A with
  | none => rfl
  | af x y =>
    have h : y * y = x * x * x + 7 := hA
    have e : fm (PRM true) y.val y.val = sdN (PRM true) x.val := by
      have h1 : fofn (PRM true) (fm (PRM true) y.val y.val) = fofn (PRM true) (sdN (PRM true) x.val) := by
        unfold sdN
        rw [tp_fa, tp_fm, tp_fm, tp_fm, fofn_self, fofn_self, tp_seven]; exact h
      exact fofn_inj _ (fm_lt _ _ _) (fa_lt _ _ _) h1
    show onN x.val y.val false = true
    unfold onN
    rw [if_neg (by decide)]
    exact decide_eq_true ⟨x.isLt, y.isLt, e⟩
theorem ng_zero : ngN 0 = 0 := by decide +kernel
theorem ng_val (A : Pt FP) : vp (neg A) = ⟨(vp A).x, ngN (vp A).y, (vp A).o⟩ := by
  cases A with
  | none => show (⟨0, 0, true⟩ : Pn) = ⟨0, ngN 0, true⟩; rw [ng_zero]
  | af x y =>
    show (⟨x.val, (-y).val, false⟩ : Pn) = ⟨x.val, ngN y.val, false⟩
    have : (-y) = fofn (PRM true) (ngN y.val) := by
      unfold ngN; rw [tp_fs, tp_none, fofn_self, zero_sub']
    rw [this, show (fofn (PRM true) (ngN y.val)).val = ngN y.val from val_fs _ _ _]
theorem pq_iff {a b : Pn} (ha : a.x < W256 ∧ a.y < W256) (hb : b.x < W256 ∧ b.y < W256) : pq a b = true ↔ a = b := by
  unfold pq
  rw [weq_decide ha.1 hb.1, weq_decide ha.2 hb.2]
  cases a; cases b
  simp
theorem pq_f {a b : Pn} (ha : a.x < W256 ∧ a.y < W256) (hb : b.x < W256 ∧ b.y < W256) (h : a ≠ b) : pq a b = false := by
  cases e : pq a b with
  | false => rfl
  | true => exact absurd ((pq_iff ha hb).1 e) h
theorem rd_t {a b : Pn} (h : a.o = true) : rdN a b = b := by unfold rdN; rw [if_pos h]
theorem rd_ft {a b : Pn} (h : a.o = false) (h' : b.o = true) : rdN a b = a := by unfold rdN; rw [if_neg (by rw [h]; decide), if_pos h']
theorem rd_n {a b : Pn} (h : a.o = false) (h' : b.o = false) (h2 : pq b ⟨a.x, ngN a.y, a.o⟩ = true) : rdN a b = ⟨0, 0, true⟩ := by unfold rdN; rw [if_neg (by rw [h]; decide), if_neg (by rw [h']; decide), if_pos h2]
theorem rd_g {a b : Pn} (h : a.o = false) (h' : b.o = false) (h2 : pq b ⟨a.x, ngN a.y, a.o⟩ = false) : rdN a b = rdS a b (fm (PRM true) (rdU a b).1 (riN (rdU a b).2)) := by unfold rdN; rw [if_neg (by rw [h]; decide), if_neg (by rw [h']; decide), if_neg (by rw [h2]; decide)]
/-- Behind the rise. -/
theorem rds_val {x y x' y' : FP} {s : Nat} : rdS (vp (.af x y)) (vp (.af x' y')) s = vp (third (fofn (PRM true) s) x y x') := by
  have h1 : (third (fofn (PRM true) s) x y x') = .af (fofn (PRM true) (rdS (vp (.af x y)) (vp (.af x' y')) s).x) (fofn (PRM true) (rdS (vp (.af x y)) (vp (.af x' y')) s).y) := by
    unfold rdS third
    simp only [tp_fs, tp_fm]
    show _ = Pt.af (fofn _ s * fofn _ s - fofn _ (x.val % PRM true) - fofn _ (x'.val % PRM true)) (fofn _ s * (fofn _ (x.val % PRM true) - (fofn _ s * fofn _ s - fofn _ (x.val % PRM true) - fofn _ (x'.val % PRM true))) - fofn _ (y.val % PRM true))
    rw [fofn_mod, fofn_mod, fofn_mod, fofn_self, fofn_self, fofn_self]
  rw [h1]
  show _ = (⟨(fofn (PRM true) (fs (PRM true) _ _)).val, (fofn (PRM true) (fs (PRM true) _ _)).val, false⟩ : Pn)
  rw [val_fs, val_fs]; rfl
theorem ri_one {z : Nat} (h : fofn (PRM true) z ≠ 0) : fofn (PRM true) z * fofn (PRM true) (riN z) = 1 := inv_gen (PRM true) prm_pr prm_one (fun e => h ((fofn_zero _).2 e))
theorem rd_val {A B : Pt FP} (hA : On A) (hB : On B) : rdN (vp A) (vp B) = vp (add KP A B) := by
  cases A with
  | none => exact rd_t rfl
  | af x y =>
    cases B with
    | none => exact rd_ft rfl rfl
    | af x' y' =>
      have hn : (⟨(vp (.af x y)).x, ngN (vp (.af x y)).y, (vp (.af x y)).o⟩ : Pn) = vp (.af x (-y)) := (ng_val (.af x y)).symm
      by_cases hi : x = x' ∧ y + y' = 0
      · rw [add_inv KP hi, rd_n rfl rfl (by rw [hn]; exact (pq_iff (vp_w _) (vp_w _)).2 (by rw [neg_of hi]; rfl))]; rfl
      · have hne : vp (.af x' y') ≠ vp (.af x (-y)) := fun e => by
          have := vl_inj _ e
          cases this
          exact hi ⟨rfl, neg_add' y⟩
        rw [rd_g rfl rfl (by rw [hn]; exact pq_f (vp_w _) (vp_w _) hne), rds_val]
        have hs : Sl x y x' y' (fofn (PRM true) (fm (PRM true) (rdU (vp (.af x y)) (vp (.af x' y'))).1 (riN (rdU (vp (.af x y)) (vp (.af x' y'))).2))) := by
          rw [tp_fm]
          by_cases he : pq (vp (.af x y)) (vp (.af x' y')) = true
          · have e2 := vl_inj _ ((pq_iff (vp_w _) (vp_w _)).1 he)
            cases e2
            unfold rdU
            rw [if_pos he]
            dsimp only
            rw [show (vp (.af x y)).x = x.val from rfl, show (vp (.af x y)).y = y.val from rfl]
            have h2 : fofn (PRM true) (fa (PRM true) (y.val % PRM true) (y.val % PRM true)) = 2 * y := by rw [tp_fa, fofn_mod, fofn_self, dbl]
            have h3 := ri_one (by rw [h2]; exact two_y KP hA)
            simp only [tp_fa, tp_fm, fofn_mod, fofn_self] at h3 ⊢
            rw [dbl] at h3
            rw [trp]
            refine sl_same ?_
            generalize fofn (PRM true) (riN (fa (PRM true) (y.val % PRM true) (y.val % PRM true))) = i at h3 ⊢
            exact mul_back h3
          · unfold rdU
            rw [if_neg he]
            dsimp only
            rw [show (vp (.af x y)).x = x.val from rfl, show (vp (.af x y)).y = y.val from rfl, show (vp (.af x' y')).x = x'.val from rfl, show (vp (.af x' y')).y = y'.val from rfl]
            have hx : x ≠ x' := fun e => by
              subst e
              have hy := same_x KP hA hB (fun e => hi ⟨rfl, e⟩)
              subst hy
              exact he ((pq_iff (vp_w _) (vp_w _)).2 rfl)
            have h2 : fofn (PRM true) (fs (PRM true) (x'.val % PRM true) (x.val % PRM true)) = x' - x := by rw [tp_fs, fofn_mod, fofn_mod, fofn_self, fofn_self]
            have h3 := ri_one (by rw [h2]; exact fun e => hx (eq_sub e))
            rw [h2] at h3
            refine sl_other KP hA hB hx ?_
            rw [tp_fs, fofn_mod, fofn_mod, fofn_self, fofn_self]
            generalize fofn (PRM true) (riN (fs (PRM true) (x'.val % PRM true) (x.val % PRM true))) = i at h3 ⊢
            exact mul_back h3
        rw [add_at KP hA hB hi hs]
end Ec
end Go.Proofs.Ytknoamaapnbibaa
namespace Go.Proofs.Ytknoamaapnbibaa
open Go.RowKit
open Ec (vp add mul neg KP GB FP On)
/-- A point's value. -/
@[reducible] def pvp (A : Ec.Pt FP) : Value := pnv (vp A)
theorem pqt {A B : Ec.Pt FP} (h : A = B) : (weq (vp A).x (vp B).x && (weq (vp A).y (vp B).y && (((vp A).o == (vp B).o) && true))) = true := (Ec.pq_iff (Ec.vp_w A) (Ec.vp_w B)).2 (by rw [h])
theorem add0 (A : Ec.Pt FP) (k : Nat) : add KP (mul KP 0 GB) (mul KP k A) = mul KP k A := rfl
section pts
variable {A B C : Ec.Pt FP} {k m : Nat}
theorem on_addE (h : C = add KP A B) (hA : On A) (hB : On B) : On C := by subst h; exact Ec.on_add KP hA hB
theorem on_mulE (h : C = mul KP k A) (hA : On A) : On C := by subst h; exact Ec.on_mul KP hA k
theorem on_bothE (h : C = add KP (mul KP k GB) (mul KP m A)) (hA : On A) : On C := by subst h; exact Ec.on_add KP (Ec.on_mul KP Ec.on_base k) (Ec.on_mul KP hA m)
theorem radd_p (h : C = add KP A B) (hA : On A) (hB : On B) (W : World) : Calls Try.prog 52 #[pvp A, pvp B] W fun e w' => e = .returned (pvp C) ∧ Below W.heap.size W w' := radd4_z (by rw [h, Ec.rd_val hA hB]) (Ec.vp_w A) (Ec.vp_w B) W
theorem ctimes_p (h : C = mul KP k A) (hk : k < W256) (hA : On A) (W : World) : Calls Try.prog 28 #[wv k, pvp A] W fun e w' => e = .returned (pvp C) ∧ Below W.heap.size W w' := ctimes_z (by rw [h, Ec.bt_val hA, add0]) hk (Ec.vp_w A) W
theorem rtimes_p (h : C = mul KP k A) (hk : k < W256) (hA : On A) (W : World) : Calls Try.prog 14 #[wv k, pvp A] W fun e w' => e = .returned (pvp C) ∧ Below W.heap.size W w' := rtimes_z (by rw [h, Ec.rtt_val hA]) hk (Ec.vp_w A) W
theorem both_p (h : C = add KP (mul KP k GB) (mul KP m A)) (hk : k < W256) (hm : m < W256) (hA : On A) (W : World) : Calls Try.prog 50 #[wv k, wv m, pvp A] W fun e w' => e = .returned (pvp C) ∧ Below W.heap.size W w' := both_z (by rw [h, Ec.bt_val hA]) hk hm (Ec.vp_w A) W
theorem con_p (hA : On A) (W : World) : Calls Try.prog 49 #[pvp A] W fun e w' => e = .returned (.bool true) ∧ Below W.heap.size W w' := (con_c (Ec.vp_w A).1 (Ec.vp_w A).2 W).mono fun e w' h => by rw [Ec.on_val hA] at h; exact h
theorem cbase_p (W : World) : Calls Try.prog 29 #[] W fun e w' => e = .returned (pvp GB) ∧ Below W.heap.size W w' := by rw [pvp, Ec.vp_base]; exact cbase_c W
theorem rbase_p (W : World) : Calls Try.prog 15 #[] W fun e w' => e = .returned (pvp GB) ∧ Below W.heap.size W w' := by rw [pvp, Ec.vp_base]; exact rbase_c W
end pts
theorem gb_on : On GB := Ec.on_base
end Go.Proofs.Ytknoamaapnbibaa
