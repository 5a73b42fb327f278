/-
  Regions by an invariant, more: what the steps that rinv.py prints lean on. Variables that a region makes or writes; what stays as it was.
-/
import Derived.Test.YtiodcmgpajdmoaaRi
import Derived.Test.YtiodcmgpajdmoaaSt
import Derived.Deep.MidRow
namespace Go.Proofs.Ytiodcmgpajdmoaa
open Go.RowKit

theorem keepI {L : Nat → Bool} {j k : Nat} {p : Prop} (h : L j = true → p) (hk : (j == k) = false) : also L k j = true → p := fun e => h (by simpa [also, hk] using e)
theorem keepF {L : Nat → Bool} {j k : Nat} {p : Prop} (h : L j = false → p) : also L k j = false → p := fun e => h (by simp [also] at e; exact e.2)
theorem keepD {L : Nat → Bool} {j i k : Nat} (h : L j = true → L i = true) (hk : (j == k) = false) : also L k j = true → also L k i = true := fun e => by
  have := h (by simpa [also, hk] using e)
  simp [also, this]
theorem alsoD {L : Nat → Bool} {i k : Nat} (h : L i = true) : also L k i = true := by simp [also, h]
theorem noF {L : Nat → Bool} {s i : Nat} (h : L s = true → L i = true) (hi : L i = false) : L s = false := by
  cases hs : L s with
  | false => rfl
  | true => rw [h hs] at hi; cases hi
theorem alsoF {L : Nat → Bool} {k : Nat} {p : Prop} : also L k k = false → p := fun e => by simp [also] at e

/-- The frame in which the region begins is named. -/
theorem wp_region_frame {P : Program} {l : List Oper} {Q : Exit → Act → World → Prop} {id : Nat} {a : Act} {w : World} (hm : P.follows .mixedOrders = true) (hp : plainOps l = true)
    (I : Array Value → (Nat → Bool) → Act → World → Prop) (h : ∀ T0, T0 = a.tmps → I T0 (fun _ => false) a w.drew ∧ Steps P (I T0) Q 0 l ∧ ∀ L a w, (∀ i, i < l.length → L i = true) → I T0 L a w → Q .normal a w) : (Code.region id l.toArray true).wp P Q a w := by
  obtain ⟨h1, h2, h3⟩ := h _ rfl
  exact wp_region_steps hm hp (I a.tmps) h1 h2 h3

/-- A frame with some slots written. -/
def sets (T : Array Value) : List (Nat × Value) → Array Value
  | [] => T
  | (i, v) :: l => sets (T.setIfInBounds i v) l

theorem sets_self : ∀ (l : List Nat) (T : Array Value), sets T (l.map fun s => (s, T.getD s undef)) = T
  | [], _ => rfl
  | s :: l, T => by
    have e : T.setIfInBounds s (T.getD s undef) = T := by
      by_cases hs : s < T.size
      · apply Array.ext_getElem?
        intro i
        rw [Array.getElem?_setIfInBounds]
        by_cases h : s = i
        · subst h
          rw [if_pos rfl, if_pos hs, Array.getElem?_eq_getElem hs]
          simp [Array.getD, hs]
        · rw [if_neg h]
      · unfold Array.setIfInBounds; rw [dif_neg hs]
    show sets (T.setIfInBounds s (T.getD s undef)) _ = T
    rw [e]; exact sets_self l T

/-- A row that lies in no block of the list's. -/
theorem St.setRow {w W : World} {L : List (Nat × Obj)} (h : St w L W) {g : Nat} (hg : w.heap.size ≤ g) (hL : ∀ p, p ∈ L → p.1 ≠ g) (c : Array Value) : St w L (W.setRow g c) :=
  ⟨below_setRow h.below hg c, fun p hp => (setRow_other W g p.1 c (hL p hp)).trans (h.rows p hp)⟩

/-- A variable of type T that the region makes: where it lies. -/
def Made (W : World) (T : TypeId) (n : Nat) (v : Value) (k : Bool) (z r : Array Value) : Prop := ∃ g, v = .pointer (some ⟨g, 0, none⟩) ∧ n ≤ g ∧ W.heap[g]? = some (.cells (if k then r else z) T (0, 0))
theorem Made.keep {W W' : World} {T : TypeId} {n : Nat} {v : Value} {k : Bool} {z r : Array Value} (h : Made W T n v k z r) (hb : Below W.heap.size W W') : Made W' T n v k z r := by
  obtain ⟨g, h1, h2, h3⟩ := h
  exact ⟨g, h1, h2, keepH hb h3⟩
theorem Made.alloc {W : World} {T : TypeId} {n : Nat} {v : Value} {k : Bool} {z r : Array Value} (h : Made W T n v k z r) (o : Obj) : Made (W.alloc o) T n v k z r := h.keep ((Below.refl _ _).alloc (Nat.le_refl _) _)
theorem Made.new (W : World) (T : TypeId) (n : Nat) (hn : n ≤ W.heap.size) (z r : Array Value) : Made (W.alloc (.cells z T)) T n (.pointer (some ⟨W.heap.size, 0, none⟩)) false z r :=
  ⟨_, rfl, hn, lastH _ _ _ rfl⟩
theorem Made.new' (W : World) (T : TypeId) (n : Nat) (hn : n ≤ W.heap.size) (z r : Array Value) {k : Bool} (hk : k = false) : Made (W.alloc (.cells z T)) T n (.pointer (some ⟨W.heap.size, 0, none⟩)) k z r := by
  subst hk; exact Made.new W T n hn z r
theorem Made.ne {W : World} {T : TypeId} {n : Nat} {v : Value} {k : Bool} {z r : Array Value} (h : Made W T n v k z r) : v ≠ .pointer (some ⟨W.heap.size, 0, none⟩) := by
  obtain ⟨g, rfl, h2, h3⟩ := h
  have := lt_of_block h3
  intro e
  injection e with e; injection e with e; injection e with e
  omega
theorem Made.other {W : World} {T : TypeId} {n g : Nat} {v : Value} {k : Bool} {z r : Array Value} (h : Made W T n v k z r) (hne : v ≠ .pointer (some ⟨g, 0, none⟩)) (c : Array Value) : Made (W.setRow g c) T n v k z r := by
  obtain ⟨g', rfl, h2, h3⟩ := h
  exact ⟨g', rfl, h2, (setRow_other W g g' c (fun e => hne (by rw [e]))).trans h3⟩
theorem Made.below {W : World} {T : TypeId} {n g : Nat} {v : Value} {k : Bool} {z r : Array Value} (h : Made W T n v k z r) (hg : g < n) (c : Array Value) : Made (W.setRow g c) T n v k z r :=
  h.other (by
    obtain ⟨g', rfl, h2, -⟩ := h
    intro e; injection e with e; injection e with e; injection e with e; omega) c
theorem Made.stored {W : World} {T : TypeId} {n g : Nat} {cs : Array Value} (h : W.heap[g]? = some (.cells cs T (0, 0))) (hn : n ≤ g) (z r : Array Value) : Made (W.setRow g r) T n (.pointer (some ⟨g, 0, none⟩)) true z r :=
  ⟨g, rfl, hn, setRow_heap W g cs _ _ _ h⟩

/-- A row's cells as a range. -/
theorem part_of_row {W : World} {g o : Nat} {cs : Array Value} {t : TypeId} {fr : Nat × Nat} (h : W.heap[g]? = some (.cells cs t fr)) (l : List Value) (hl : (cs.toList.drop o).take l.length = l) : W.rangeAt g o l := fun j v hv => by
  rw [cell_of_row _ _ _ _ _ _ h]
  have hj : j < l.length := (List.getElem?_eq_some_iff.1 hv).1
  rw [← hl, List.getElem?_take, if_pos hj, List.getElem?_drop] at hv
  simpa using hv

/-- A load of a number out of a row of its own, in the midst of an operation. -/
theorem wp_wide {o : Oper} {a : Act} {W : World} {K : Act → World → Prop} {Q : Exit → Act → World → Prop} (x : Operand) (ho : o.op = .load 24 x)
    (g : Nat) (hx : a.eval x = .pointer (some ⟨g, 0, none⟩)) (z : Nat) (hg : W.heap[g]? = some (wrow z)) (h : K (a.put o.dst (wv z)) W) : o.wp Try.prog a W K Q :=
  wp_load_row 24 x ho g hx 24 (limbs4 z) (0, 0) _ hg Try.underlying24 rfl (by kernel_rfl) h
theorem wp_part {o : Oper} {a : Act} {W : World} {K : Act → World → Prop} {Q : Exit → Act → World → Prop} (x : Operand) (ho : o.op = .load 24 x)
    (g of : Nat) (hx : a.eval x = .pointer (some ⟨g, of, none⟩)) (z : Nat) (hg : W.rangeAt g of (limbs4 z).toList) (h : K (a.put o.dst (wv z)) W) : o.wp Try.prog a W K Q :=
  wp_load_mid 24 x ho g of hx (limbs4 z).toList _ hg Try.underlying24 rfl (by kernel_rfl) h
theorem wp_put {o : Oper} {a : Act} {W : World} {K : Act → World → Prop} {Q : Exit → Act → World → Prop} (x y : Operand) (ho : o.op = .store 24 x y)
    (g : Nat) (hx : a.eval x = .pointer (some ⟨g, 0, none⟩)) (z y0 : Nat) (hy : a.eval y = wv z) (hg : W.heap[g]? = some (wrow y0)) (h : K (a.put o.dst undef) (W.setRow g (limbs4 z))) : o.wp Try.prog a W K Q :=
  wp_store_row 24 x y ho g (limbs4 z) hx hy 24 (limbs4 y0) hg (by kernel_rfl) rfl (limbs4_one z) h
theorem wp_put_made {o : Oper} {a : Act} {W : World} {K : Act → World → Prop} {Q : Exit → Act → World → Prop} (x y : Operand) (ho : o.op = .store 24 x y) (v : Value) (hx : a.eval x = v) (z : Nat) (hy : a.eval y = wv z)
    (n : Nat) (k : Bool) (r : Array Value) (hM : Made W 24 n v k (limbs4 0) r) (hk : k = false)
    (h : ∀ g, v = .pointer (some ⟨g, 0, none⟩) → n ≤ g → W.heap[g]? = some (wrow 0) → K (a.put o.dst undef) (W.setRow g (limbs4 z))) : o.wp Try.prog a W K Q := by
  obtain ⟨g, h1, h2, h3⟩ := hM
  subst hk
  exact wp_put x y ho g (hx.trans h1) z 0 hy h3 (h g h1 h2 h3)
theorem wpList_put {ops : Array Oper} {rest : List Oper} {o : Oper} {a : Act} {W : World} {Q : Exit → Act → World → Prop} (hgd : o.guard = none) (x y : Operand) (ho : o.op = .store 24 x y)
    (g : Nat) (hx : a.eval x = .pointer (some ⟨g, 0, none⟩)) (z y0 : Nat) (hy : a.eval y = wv z) (hg : W.heap[g]? = some (wrow y0)) (h : wpList Try.prog ops Q rest (a.put o.dst undef) (W.setRow g (limbs4 z))) : wpList Try.prog ops Q (o :: rest) a W :=
  wpList_store_row hgd 24 x y ho g (limbs4 z) hx hy 24 (limbs4 y0) hg (by kernel_rfl) rfl (limbs4_one z) h
theorem set_row {W : World} {g z y0 : Nat} (hg : W.heap[g]? = some (wrow y0)) : (W.setRow g (limbs4 z)).heap[g]? = some (wrow z) := setRow_heap W g _ _ _ _ hg
end Go.Proofs.Ytiodcmgpajdmoaa
