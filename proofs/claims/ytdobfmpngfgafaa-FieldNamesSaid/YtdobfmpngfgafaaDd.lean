/-
  bynameref02.Div: the digits of a quotient and of a rest.
-/
import Derived.Test.YtdobfmpngfgafaaDb
import Derived.Test.YtdobfmpngfgafaaDx
namespace Go.Proofs.Ytdobfmpngfgafaa
open Go.RowKit

/-- What Div's loop holds: all bits from k on are done. -/
structure DvInv (w : World) (da db : List Nat) (k g : Nat) (ts ds : List Nat) (wr : World) : Prop where
  own : OwnD wr w.heap.size w.heap.size da.length da.length ts
  rest : ∃ o, DRow ds o ∧ wr.heap[g]? = some o
  gB : w.heap.size < g
  below : Below w.heap.size w wr
  digsT : Digs ts
  digsR : Digs ds
  sum : ∃ T, val da / 2 ^ k = T * val db + val ds ∧ val ts = T * 2 ^ k
  less : val ds < val db
  dvd : ∀ j, 2 ^ (k - 16 * j) ∣ dg ts j
  len : ds.length ≤ db.length
  kn : k ≤ 16 * da.length

theorem OwnD.cap {W : World} {B g n c : Nat} {ds : List Nat} (h : OwnD W B g n c ds) : ds.length ≤ c := by
  rcases h.own.2 with ⟨hv, _⟩ | ⟨g', cap, cur, hv, _, _, hc, _⟩
  · simp at hv
  · simp only [Value.slice.injEq, Option.some.injEq, Addr.mk.injEq, and_true, true_and] at hv
    obtain ⟨-, rfl⟩ := hv
    rw [h.len]; exact hc
theorem DvInv.dgR {w : World} {da db : List Nat} {k g : Nat} {ts ds : List Nat} {wr : World} (h : DvInv w da db k g ts ds wr) : Dg wr g 0 ds := by
  obtain ⟨o, hr, hg⟩ := h.rest
  exact dg_of hg hr

theorem digs_nil : Digs [] := fun d hd => by cases hd

/-- While the rest is trimmed. -/
structure DvTrim (w : World) (da db : List Nat) (k g : Nat) (ts ds : List Nat) (wr : World) : Prop where
  own : OwnD wr w.heap.size w.heap.size da.length da.length ts
  rest : ∃ o, DRow ds o ∧ wr.heap[g]? = some o
  gB : w.heap.size < g
  below : Below w.heap.size w wr
  digsT : Digs ts
  digsR : Digs ds
  sum : ∃ T, val da / 2 ^ k = T * val db + val ds ∧ val ts = T * 2 ^ k
  less : val ds < val db
  dvd : ∀ j, 2 ^ (k - 16 * j) ∣ dg ts j
  kn : k ≤ 16 * da.length
  len : ds.length ≤ 1002

theorem val_take_last (ds : List Nat) (n : Nat) (hn : ds.length = n + 1) (h0 : dg ds n = 0) : val (ds.take n) = val ds := by
  have e : ds = ds.take n ++ [dg ds n] := by
    have h1 : ds.drop n = [dg ds n] := by
      rw [List.drop_eq_getElem_cons (by omega), List.drop_of_length_le (by omega)]
      simp [dg, List.getD_eq_getElem?_getD, show n < ds.length by omega]
    conv => lhs; rw [← List.take_append_drop n ds, h1]
  conv => rhs; rw [e, val_snoc, h0]
  simp
theorem dg_take (ds : List Nat) (n i : Nat) (h : i < n) : dg (ds.take n) i = dg ds i := by
  unfold dg; rw [List.getD_eq_getElem?_getD, List.getElem?_take, if_pos h, List.getD_eq_getElem?_getD]
theorem DRow.take {ds : List Nat} {o : Obj} (h : DRow ds o) (n : Nat) : DRow (ds.take n) o := by
  obtain ⟨cur, rfl, hc⟩ := h
  refine ⟨cur, rfl, fun i hi => ?_⟩
  rw [List.length_take] at hi
  rw [hc i (by omega), dg_take _ _ _ (by omega)]
theorem DvTrim.cut {w : World} {da db : List Nat} {k g : Nat} {ts ds : List Nat} {wr : World} (h : DvTrim w da db k g ts ds wr) {n : Nat} (hn : ds.length = n + 1) (h0 : dg ds n = 0) : DvTrim w da db k g ts (ds.take n) wr := by
  have e := val_take_last ds n hn h0
  obtain ⟨o, hr, hg⟩ := h.rest
  refine ⟨h.own, ⟨o, hr.take n, hg⟩, h.gB, h.below, h.digsT, fun d hd => h.digsR d (List.mem_of_mem_take hd), by rw [e]; exact h.sum, by rw [e]; exact h.less, h.dvd, h.kn, by have := h.len; rw [List.length_take]; omega⟩
theorem DvTrim.dgR {w : World} {da db : List Nat} {k g : Nat} {ts ds : List Nat} {wr : World} (h : DvTrim w da db k g ts ds wr) : Dg wr g 0 ds := by
  obtain ⟨o, hr, hg⟩ := h.rest
  exact dg_of hg hr

theorem val_ge_dg (ds : List Nat) (n : Nat) (h : n < ds.length) : 65536 ^ n * dg ds n ≤ val ds := by
  have e := valN_drop ds n
  rw [List.drop_eq_getElem_cons h, val, Nat.mul_add] at e
  have : dg ds n = ds[n] := by simp [dg, List.getD_eq_getElem?_getD, h]
  rw [this]; omega
/-- Trimmed. -/
theorem DvTrim.done {w : World} {da db : List Nat} {k g : Nat} {ts ds : List Nat} {wr : World} (h : DvTrim w da db k g ts ds wr) (hb : Digs db) (hl : ds.length = 0 ∨ ∃ n, ds.length = n + 1 ∧ dg ds n ≠ 0) : DvInv w da db k g ts ds wr := by
  refine ⟨h.own, h.rest, h.gB, h.below, h.digsT, h.digsR, h.sum, h.less, h.dvd, ?_, h.kn⟩
  rcases hl with h0 | ⟨n, hn, h0⟩
  · omega
  · have h1 := val_ge_dg ds n (by omega)
    have h2 := val_lt db hb
    have h3 := h.less
    have h4 : 65536 ^ n * 1 ≤ 65536 ^ n * dg ds n := Nat.mul_le_mul_left _ (by omega)
    have h5 : 65536 ^ n < 65536 ^ db.length := by omega
    have := (Nat.pow_lt_pow_iff_right (a := 65536) (by decide)).1 h5
    omega

theorem DvInv.start {w W : World} {da db : List Nat} (ha : Digs da) (h : OwnD W w.heap.size w.heap.size da.length da.length (List.replicate da.length 0)) (hb : Below w.heap.size w W) (hpos : 0 < val db) (hW : w.heap.size < W.heap.size) :
    DvInv w da db (16 * da.length) W.heap.size (List.replicate da.length 0) [] (W.alloc (.cells #[] 22)) := by
  have hp : (65536 : Nat) ^ da.length = 2 ^ (16 * da.length) := by rw [show (65536 : Nat) = 2 ^ 16 from rfl, ← Nat.pow_mul]
  refine ⟨h.keep ((Below.refl _ _).alloc (Nat.le_refl _) _), ⟨_, ⟨#[], rfl, fun i hi => absurd hi (by simp)⟩, lastH _ _ _ rfl⟩, hW, hb.alloc hb.size _, digs_noughts _, digs_nil, ⟨0, ?_, by rw [val_noughts]; simp⟩, by simpa [val] using hpos, fun j => ?_, by simp, Nat.le_refl _⟩
  · have := val_lt da ha
    rw [hp] at this
    rw [Nat.div_eq_of_lt this]; simp [val]
  · have : dg (List.replicate da.length 0) j = 0 := by
      unfold dg; rw [List.getD_eq_getElem?_getD]
      cases hk : (List.replicate da.length 0)[j]? with
      | none => rfl
      | some v => rw [List.getElem?_replicate] at hk; split at hk <;> simp_all
    rw [this]; exact Nat.dvd_zero _

/-- The bit that comes in. -/
theorem bit_of (ds : List Nat) (h : Digs ds) (i : Nat) : val ds / 2 ^ i % 2 = dg ds (i / 16) / 2 ^ (i % 16) % 2 := by
  have e := valN_drop ds (i / 16)
  have hl := valN_lt ds h (i / 16)
  have hp : (65536 : Nat) ^ (i / 16) = 2 ^ (16 * (i / 16)) := by rw [show (65536 : Nat) = 2 ^ 16 from rfl, ← Nat.pow_mul]
  rw [hp] at e hl
  have e1 : val ds / 2 ^ i = val (ds.drop (i / 16)) / 2 ^ (i % 16) := by
    conv => lhs; rw [show i = 16 * (i / 16) + i % 16 by omega, Nat.pow_add, ← Nat.div_div_eq_div_mul, e, Nat.add_mul_div_left _ _ (Nat.two_pow_pos _), Nat.div_eq_of_lt hl, Nat.zero_add]
  rw [e1]
  have e2 : dg ds (i / 16) = dg (ds.drop (i / 16)) 0 := by rw [dg_drop, Nat.add_zero]
  rw [e2]
  have e3 := valN_drop (ds.drop (i / 16)) 1
  have e4 : valN (ds.drop (i / 16)) 1 = dg (ds.drop (i / 16)) 0 := by simp [valN]
  rw [e4, Nat.pow_one] at e3
  rw [e3]
  generalize dg (ds.drop (i / 16)) 0 = d
  generalize val (List.drop 1 (ds.drop (i / 16))) = v
  have hr : i % 16 < 16 := Nat.mod_lt _ (by decide)
  generalize i % 16 = r at hr
  have hs : (65536 : Nat) = 2 ^ r * (2 * 2 ^ (15 - r)) := by
    rw [← Nat.mul_assoc, Nat.mul_comm (2 ^ r) 2, Nat.mul_assoc, ← Nat.pow_add, show r + (15 - r) = 15 by omega]
  rw [hs, Nat.mul_assoc, Nat.add_mul_div_left _ _ (Nat.two_pow_pos _), Nat.mul_assoc, Nat.add_mul_mod_self_left]
theorem half_up (a i : Nat) : a / 2 ^ i = 2 * (a / 2 ^ (i + 1)) + a / 2 ^ i % 2 := by
  rw [Nat.pow_succ, ← Nat.div_div_eq_div_mul]; omega

theorem dvd_digit (d r : Nat) (hr : r < 16) (hd : d < 65536) (h : 2 ^ (r + 1) ∣ d) : d + 2 ^ r < 65536 := by
  obtain ⟨m, rfl⟩ := h
  have hs : (65536 : Nat) = 2 ^ (r + 1) * 2 ^ (15 - r) := by rw [← Nat.pow_add, show r + 1 + (15 - r) = 16 by omega]
  have hm : m < 2 ^ (15 - r) := Nat.lt_of_mul_lt_mul_left (a := 2 ^ (r + 1)) (by rw [← hs]; exact hd)
  have h1 := Nat.mul_le_mul_left (2 ^ (r + 1)) (show m + 1 ≤ 2 ^ (15 - r) from hm)
  rw [← hs, Nat.mul_add, Nat.mul_one, Nat.pow_succ] at h1
  have := Nat.two_pow_pos r
  rw [Nat.pow_succ]; omega

/-- The rest with the next bit. -/
structure DvMid (w : World) (da db : List Nat) (i : Nat) (ts : List Nat) (r : Nat) (wr : World) : Prop where
  own : OwnD wr w.heap.size w.heap.size da.length da.length ts
  below : Below w.heap.size w wr
  digsT : Digs ts
  sum : ∃ T, val da / 2 ^ i = T * val db + r ∧ val ts = T * 2 ^ i
  small : r < 2 * val db
  dvd : ∀ j, 2 ^ (i + 1 - 16 * j) ∣ dg ts j
  kn : i < 16 * da.length

theorem DvInv.mid {w : World} {da db : List Nat} {i g : Nat} {ts ds : List Nat} {wr : World} (h : DvInv w da db (i + 1) g ts ds wr) {b : Nat} (hbit : dg da (i / 16) / 2 ^ (i % 16) % 2 = b) (ha : Digs da) :
    DvMid w da db i ts (2 * val ds + b) wr := by
  obtain ⟨T, h1, h2⟩ := h.sum
  have hl := h.less
  have hu := half_up (val da) i
  rw [bit_of da ha i, hbit, h1] at hu
  refine ⟨h.own, h.below, h.digsT, ⟨2 * T, ?_, by rw [h2, Nat.pow_succ, ← Nat.mul_assoc, Nat.mul_right_comm, Nat.mul_comm T 2]⟩, by omega, h.dvd, by have := h.kn; omega⟩
  rw [hu, Nat.mul_add, Nat.mul_assoc]; omega
theorem DvMid.keep {w : World} {da db : List Nat} {i r : Nat} {ts : List Nat} {wr W : World} (h : DvMid w da db i ts r wr) (hb : Below wr.heap.size wr W) : DvMid w da db i ts r W :=
  ⟨h.own.keep hb, below_step h.below hb, h.digsT, h.sum, h.small, h.dvd, h.kn⟩
theorem DvMid.no {w : World} {da db : List Nat} {i r g c n : Nat} {ts dn : List Nat} {W W0 : World} (h : DvMid w da db i ts r W) (hr : r < val db) (hv : val dn = r) (ho : OwnD W W0.heap.size g n c dn) (hW0 : w.heap.size < W0.heap.size) (hd : Digs dn) (hl : dn.length ≤ 1002) :
    DvTrim w da db i g ts dn W := by
  subst hv
  refine ⟨h.own, ho.row, by have := ho.base; omega, h.below, h.digsT, hd, h.sum, hr, fun j => ?_, by have := h.kn; omega, hl⟩
  exact Nat.dvd_trans (Nat.pow_dvd_pow 2 (by omega)) (h.dvd j)
theorem DvMid.yes {w : World} {da db : List Nat} {i r g c n : Nat} {ts dn : List Nat} {W W0 : World} (h : DvMid w da db i ts r W) (hr : val db ≤ r) (hv : val dn = r - val db) (ho : OwnD W W0.heap.size g n c dn) (hW0 : w.heap.size < W0.heap.size) (hd : Digs dn) (hl : dn.length ≤ 1002) :
    dg ts (i / 16) + 2 ^ (i % 16) < 65536 ∧
    DvTrim w da db i g (ts.set (i / 16) (dg ts (i / 16) + 2 ^ (i % 16))) dn (W.setCell ⟨w.heap.size, i / 16, none⟩ (.int .u64 ((dg ts (i / 16) + 2 ^ (i % 16) : Nat) : Int))) := by
  have hk := h.kn
  have hs := h.small
  have hdv := h.dvd (i / 16)
  rw [show i + 1 - 16 * (i / 16) = i % 16 + 1 by omega] at hdv
  have hlt := dvd_digit _ (i % 16) (Nat.mod_lt _ (by decide)) (digs_at ts h.digsT (i / 16)) hdv
  have hg := ho.base
  have htl := h.own.len
  obtain ⟨o, hr1, hg1⟩ := ho.row
  refine ⟨hlt, h.own.store _ _, ⟨o, hr1, (heap_setCell_other _ _ _ _ (by show g ≠ w.heap.size; omega)).trans hg1⟩, by omega, h.below.setCell (Nat.le_refl _) _, digs_set _ h.digsT _ _ hlt, hd, ?_, by rw [hv]; omega, fun j => ?_, by omega, hl⟩
  · obtain ⟨T, h1, h2⟩ := h.sum
    have hvs := val_set ts (i / 16) (dg ts (i / 16) + 2 ^ (i % 16)) (by omega)
    have hp : (65536 : Nat) ^ (i / 16) * 2 ^ (i % 16) = 2 ^ i := by rw [show (65536 : Nat) = 2 ^ 16 from rfl, ← Nat.pow_mul, ← Nat.pow_add, show 16 * (i / 16) + i % 16 = i by omega]
    rw [Nat.mul_add, hp] at hvs
    exact ⟨T + 1, by rw [h1, hv, Nat.add_mul]; omega, by rw [Nat.add_mul, ← h2]; omega⟩
  · by_cases e : i / 16 = j
    · subst e
      rw [dg_set_same _ _ _ (by omega)]
      refine Nat.dvd_add (Nat.dvd_trans (Nat.pow_dvd_pow 2 (by omega)) (h.dvd (i / 16))) (by rw [show i - 16 * (i / 16) = i % 16 by omega]; exact Nat.dvd_refl _)
    · rw [dg_set_other _ _ _ _ e]
      exact Nat.dvd_trans (Nat.pow_dvd_pow 2 (by omega)) (h.dvd j)

/-- The answer: two slices of the call's own. -/
def RetDD (w : World) (x y : Nat) (n m : Nat) (e : Ending) (w' : World) : Prop := ∃ g1 c1 ts o1 g2 c2 ds o2, Hid (val ts = x / y ∧ Digs ts ∧ ts.length = n) ∧ Hid (val ds = x % y ∧ Digs ds ∧ ds.length ≤ m) ∧
  e = .returned (.tuple #[sv g1 0 ts.length c1, sv g2 0 ds.length c2]) ∧ Hid (DRow ts o1) ∧ Hid (DRow ds o2) ∧ Hid (w'.heap[g1]? = some o1) ∧ Hid (w'.heap[g2]? = some o2) ∧ Below w.heap.size w w'
theorem DvInv.fin {w : World} {da db : List Nat} {g c : Nat} {ts ds : List Nat} {wr : World} (h : DvInv w da db 0 g ts ds wr) : RetDD w (val da) (val db) da.length db.length (.returned (.tuple #[sv w.heap.size 0 da.length da.length, sv g 0 ds.length c])) wr := by
  obtain ⟨o1, r1, t1⟩ := h.own.row
  obtain ⟨o2, r2, t2⟩ := h.rest
  obtain ⟨T, h1, h2⟩ := h.sum
  have hl := h.less
  rw [Nat.pow_zero, Nat.div_one] at h1
  rw [Nat.pow_zero, Nat.mul_one] at h2
  refine ⟨w.heap.size, da.length, ts, o1, g, c, ds, o2, ⟨?_, h.digsT, h.own.len⟩, ⟨?_, h.digsR, h.len⟩, by rw [h.own.len], r1, r2, t1, t2, h.below⟩
  · rw [h2, h1, Nat.mul_comm, Nat.mul_add_div (by omega), Nat.div_eq_of_lt hl, Nat.add_zero]
  · rw [h1, Nat.mul_comm, Nat.mul_add_mod, Nat.mod_eq_of_lt hl]
theorem dg_one (W : World) (b : Nat) (h : W.heap[b]? = some (.cells #[.int .u64 1] 22)) : Dg W b 0 [1] := by
  refine ⟨lt_of_block h, fun i hi => ?_⟩
  obtain rfl : i = 0 := by simpa using hi
  exact (cell_of_row W b 0 _ _ (0, 0) h).trans rfl
theorem digs_one : Digs [1] := fun d hd => by simp at hd; subst hd; decide
end Go.Proofs.Ytdobfmpngfgafaa
