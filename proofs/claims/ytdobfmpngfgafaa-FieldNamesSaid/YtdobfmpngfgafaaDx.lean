/-
  Digits among the rows that a law holds.
-/
import Derived.Test.YtdobfmpngfgafaaDe
import Derived.Test.YtdobfmpngfgafaaLa
namespace Go.Proofs.Ytdobfmpngfgafaa
open Go.RowKit

/-- A row that begins with these digits. -/
def DRow (ds : List Nat) (o : Obj) : Prop := ∃ cur : Array Value, o = .cells cur 22 (0, 0) ∧ ∀ i, i < ds.length → cur[i]? = some (.int .u64 ((dg ds i : Nat) : Int))

theorem OwnD.row {W : World} {B g n c : Nat} {ds : List Nat} (h : OwnD W B g n c ds) : ∃ o, DRow ds o ∧ W.heap[g]? = some o := by
  rcases h.own.2 with ⟨hv, _⟩ | ⟨g', cap, cur, hv, _, hg, _⟩
  · simp at hv
  · simp only [Value.slice.injEq, Option.some.injEq, Addr.mk.injEq, and_true, true_and] at hv
    obtain ⟨rfl, -, -⟩ := hv
    refine ⟨_, ⟨cur, rfl, fun i hi => ?_⟩, hg⟩
    have e := h.dg.cell i hi
    rw [Nat.zero_add, cell_of_row W g i cur 22 (0, 0) hg] at e
    exact e

theorem St.dgo {w W : World} {L : List (Nat × Obj)} {g : Nat} {o : Obj} {ds : List Nat} (S : St w L W) (hm : (g, o) ∈ L) (hr : DRow ds o) (k : Nat) : Dg W g k (ds.drop k) := by
  obtain ⟨cur, rfl, hc⟩ := hr
  have hg := S.get hm
  refine ⟨lt_of_block hg, fun i hi => ?_⟩
  rw [List.length_drop] at hi
  rw [cell_of_row W g (k + i) cur 22 (0, 0) hg, hc (k + i) (by omega), dg_drop]
theorem St.dg {w W : World} {L : List (Nat × Obj)} {g : Nat} {o : Obj} {ds : List Nat} (S : St w L W) (hm : (g, o) ∈ L) (hr : DRow ds o) : Dg W g 0 ds := S.dgo hm hr 0

/-- What a call says that answers digits in a slice of its own; the row is named. -/
def RetS (w : World) (Q : List Nat → Prop) (e : Ending) (w' : World) : Prop := ∃ g c ds o, Hid (Q ds) ∧ e = .returned (sv g 0 ds.length c) ∧ Hid (DRow ds o) ∧ Hid (w'.heap[g]? = some o) ∧ Below w.heap.size w w'
theorem RetD.s {w : World} {Q : List Nat → Prop} {e : Ending} {w' : World} (h : RetD w Q e w') : RetS w Q e w' := by
  obtain ⟨g, c, ds, hQ, he, ho, hb⟩ := h
  obtain ⟨o, hr, hg⟩ := ho.row
  exact ⟨g, c, ds, o, hQ, he, hr, hg, hb⟩

/-- The number of the lowest sixteen digits. -/
theorem valN16 (ds : List Nat) (h : Digs ds) : valN ds 16 = val ds % W256 := by
  have e := valN_drop ds 16
  have hl := valN_lt ds h 16
  have hp : 65536 ^ 16 = W256 := by decide +kernel
  rw [hp] at e hl
  rw [e, Nat.add_mul_mod_self_left, Nat.mod_eq_of_lt hl]

theorem of_s (x : Nat) (hx : x < W256) (w : World) : Calls Try.prog 11 #[wv x] w (RetS w fun ds => val ds = x ∧ Digs ds ∧ ds.length = 16) := (of_d x hx w).mono fun _ _ h => h.s
theorem power_s (n : Nat) (w : World) (hn : n ≤ 1000) : Calls Try.prog 41 #[.int .i64 n] w (RetS w fun ds => val ds = 2 ^ n ∧ Digs ds ∧ ds.length = n / 16 + 1) := (power_d n w hn).mono fun _ _ h => h.s
theorem add_s (g1 c1 g2 c2 n : Nat) (da db : List Nat) (w W : World) (L : List (Nat × Obj)) (o1 o2 : Obj) (S : St w L W) (m1 : (g1, o1) ∈ L) (m2 : (g2, o2) ∈ L) (r1 : Hid (DRow da o1)) (r2 : Hid (DRow db o2)) (l1 : da.length ≤ n) (l2 : db.length ≤ n) (hn : n ≤ 1000) (d1 : Digs da) (d2 : Digs db) :
    Calls Try.prog 42 #[sv g1 0 da.length c1, sv g2 0 db.length c2] W (RetS W fun ds => val ds = val da + val db ∧ Digs ds ∧ ds.length ≤ n + 1) :=
  (add_d g1 0 c1 g2 0 c2 n da db W (S.dg m1 r1.out) (S.dg m2 r2.out) l1 l2 hn d1 d2).mono fun _ _ h => h.s
theorem sub_s (g1 c1 g2 c2 : Nat) (da db : List Nat) (w W : World) (L : List (Nat × Obj)) (o1 o2 : Obj) (S : St w L W) (m1 : (g1, o1) ∈ L) (m2 : (g2, o2) ∈ L) (r1 : Hid (DRow da o1)) (r2 : Hid (DRow db o2)) (l1 : da.length ≤ 1000) (l2 : db.length ≤ 1000) (d1 : Digs da) (d2 : Digs db) (hle : val db ≤ val da) :
    Calls Try.prog 40 #[sv g1 0 da.length c1, sv g2 0 db.length c2] W (RetS W fun ds => val ds = val da - val db ∧ Digs ds ∧ ds.length = da.length) :=
  (sub_d g1 0 c1 g2 0 c2 da db W (S.dg m1 r1.out) (S.dg m2 r2.out) l1 l2 d1 d2 hle).mono fun _ _ h => h.s
theorem compare_s (g1 c1 g2 c2 : Nat) (da db : List Nat) (w W : World) (L : List (Nat × Obj)) (o1 o2 : Obj) (S : St w L W) (m1 : (g1, o1) ∈ L) (m2 : (g2, o2) ∈ L) (r1 : Hid (DRow da o1)) (r2 : Hid (DRow db o2)) (l1 : da.length ≤ 1000) (l2 : db.length ≤ 1000) (d1 : Digs da) (d2 : Digs db) :
    Calls Try.prog 28 #[sv g1 0 da.length c1, sv g2 0 db.length c2] W fun e w' => e = .returned (.int .i64 (cmp (val da) (val db))) ∧ W = w' :=
  compare_c g1 0 c1 g2 0 c2 da db W (S.dg m1 r1.out) (S.dg m2 r2.out) (by omega) (by omega) d1 d2
theorem wide_s (g c : Nat) (ds : List Nat) (w W : World) (L : List (Nat × Obj)) (o : Obj) (S : St w L W) (m : (g, o) ∈ L) (r : Hid (DRow ds o)) (l : ds.length ≤ 1000) (d : Digs ds) :
    Calls Try.prog 14 #[sv g 0 ds.length c] W fun e w' => e = .returned (wv (val ds % W256)) ∧ Below W.heap.size W w' := by
  refine (wide_c g 0 c ds W (S.dg m r.out) (by omega) d).mono ?_
  rintro e w' ⟨z, -, rfl, rfl, hb⟩
  exact ⟨by rw [valN16 ds d], hb⟩
theorem dg_of {W : World} {g : Nat} {o : Obj} {ds : List Nat} (hg : Hid (W.heap[g]? = some o)) (hr : Hid (DRow ds o)) : Dg W g 0 ds :=
  St.dg (w := W) (L := [(g, o)]) ⟨Below.refl _ _, fun p hp => by simp at hp; subst hp; exact hg.out⟩ (List.Mem.head _) hr.out
/-- Wide of digits in a row. -/
theorem wide_g (g c : Nat) (ds : List Nat) (o : Obj) (W : World) (hg : Hid (W.heap[g]? = some o)) (hr : Hid (DRow ds o)) (l : ds.length ≤ 1000) (d : Digs ds) (z : Nat) (hz : val ds % W256 = z) :
    Calls Try.prog 14 #[sv g 0 ds.length c] W fun e w' => e = .returned (wv z) ∧ Below W.heap.size W w' := by
  subst hz
  refine (wide_c g 0 c ds W (dg_of hg hr) (by omega) d).mono ?_
  rintro e w' ⟨z, -, rfl, rfl, hb⟩
  exact ⟨by rw [valN16 ds d], hb⟩
theorem power256_s (W : World) : Calls Try.prog 41 #[.int .i64 256] W (RetS W fun ds => val ds = W256 ∧ Digs ds ∧ ds.length = 17) := by
  refine (power_s 256 W (by decide)).mono ?_
  rintro e w' ⟨g, c, ds, o, hQ, rest⟩
  exact ⟨g, c, ds, o, ⟨hQ.out.1.trans (by decide +kernel), hQ.out.2.1, hQ.out.2.2⟩, rest⟩

/-- What Add, Sub and Compare of the program's numbers say, with the results named. -/
theorem add_n (a b : Nat) (ha : a < W256) (hb : b < W256) (s : Nat) (m : Bool) (hs : (a + b) % W256 = s) (hm : decide (W256 ≤ a + b) = m) (W : World) :
    Calls Try.prog 35 #[wv a, wv b] W fun e w' => e = .returned (.tuple #[wv s, .bool m]) ∧ Below W.heap.size W w' := by
  refine (add_c a b ha hb W).mono ?_
  rintro e w' ⟨z, c, -, ⟨hz, hc⟩, rfl, hb⟩
  rw [hz, hc, hs, hm]; exact ⟨rfl, hb⟩
theorem sub_n (a b : Nat) (ha : a < W256) (hb : b < W256) (s : Nat) (m : Bool) (hs : (a + W256 - b) % W256 = s) (hm : decide (a < b) = m) (W : World) :
    Calls Try.prog 44 #[wv a, wv b] W fun e w' => e = .returned (.tuple #[wv s, .bool m]) ∧ Below W.heap.size W w' := by
  refine (sub_c a b ha hb W).mono ?_
  rintro e w' ⟨z, c, -, ⟨hz, hc⟩, rfl, hb⟩
  rw [hz, hc, hs, hm]; exact ⟨rfl, hb⟩

end Go.Proofs.Ytdobfmpngfgafaa
