/-
  Texts Ri, Num, By, Fr, Eq, Dv, St, Fm, Rw, Rr, Sx, Ha, Hb, Hc, Hd, He, Hf, Hr, Hv, Hw, Hy, Hg, Hi, Hj, Hu, Hp, Ia, Ib, Id, Sp, Tb, Ta, Tc, Te, Tf of the claim, merged. (Printed by shake.py.)
-/
import Derived.Orders
import Derived.RegionTactic
import Derived.Below
import Derived.WalkKit
import Derived.Handy
import Derived.Lib.Hide
import Derived.Test.YtbjcigokimieoaaRows
import Derived.WalkSpells
import Derived.WalkLawsBesides
import Derived.Laws.Externs
import Derived.BigRegion
import Derived.Shelf.Spec.BitsCarry
import Derived.Shelf.Strconv.Itoa0
import Derived.Shelf.Bits.Mul64
import Derived.Test.YtbjcigokimieoaaProg
import Derived.Lib.BitFns
import Derived.Laws.Bits64b
import Derived.BigQuiet
import Derived.LoopTactic
import Derived.Deep.WholeRow
import Derived.ChangeKeysEq
import Derived.Deep.RegionHeld3
import Derived.Deep.DeepCutAuto
import Derived.Deep.MidRow
import Derived.Deep.LoopGhost
import Derived.LoopN
import Derived.Deep.QuietTactic
import Derived.Laws.Bits64
import Derived.Great.BuildSlice
import Derived.StillTailTactics
import Derived.Deep.AppendSrc
import Derived.Laws.OwnMore
import Derived.Laws.AppendOwn
import Derived.Deep.AppendLies
import Derived.Deep.RegionLaw
import Derived.Deep.CutBlock
import Derived.Great.Walk
import Derived.Lib.ConvBytes
import Derived.Lib.BufferRead
import Derived.Laws.BytesArg
import Derived.Lib.AppendZeros
import Derived.DeepKeys
import Derived.Laws.Cover3
import Derived.ProofKit
import Derived.OpenShut
import Derived.Carry
import Derived.Lib.SmallJoins
import Derived.Laws.IdiomArrays
import Derived.Deep.Matrix
namespace Go.Proofs.Ytbjcigokimieoaa
open Go.RowKit
/-- One operation more. -/
def also (L : Nat → Bool) (i : Nat) : Nat → Bool := fun j => j == i || L j
theorem wp_region_inv {P : Program} {ops : Array Oper} {Q : Exit → Act → World → Prop} {id : Nat} {a : Act} {w : World} (n : Nat) (hn : ops.size = n) (hm : P.follows .mixedOrders = true)
    (hac : ∀ (i : Nat) (o : Oper), ops[i]? = some o → ∀ e ∈ o.after, Region.binds .any e = true → e.on < i) (I : (Nat → Bool) → Act → World → Prop) (h0 : I (fun _ => false) a w.drew)
    (step : ∀ (i : Nat) (o : Oper), ops[i]? = some o → ∀ L a w, I L a w → L i = false → (∀ e ∈ o.after, Region.binds .any e = true → L e.on = true) →
      if Region.wanted o (yielded ops a.tmps) = true then Oper.wp P o a w (I (also L i)) Q else I (also L i) (a.put o.dst undef) w)
    (fin : ∀ L a w, (∀ i, i < n → L i = true) → I L a w → Q .normal a w) : (Code.region id ops true).wp P Q a w := by
  refine wp_region_any hm ?_
  have key : ∀ (fuel : Nat) (listed : Array Bool) (a : Act) (w : World), listed.size = n → (List.range n).countP (fun i => !listed.getD i false) ≤ fuel → I (fun i => listed.getD i false) a w → wpAny P .any ops Q fuel listed a w := by
    have full : ∀ (listed : Array Bool), listed.size = n → Region.ready .any ops listed = [] → ∀ i, i < n → listed.getD i false = true := by
      intro listed hs hr i
      induction i using Nat.strongRecOn with
      | _ i ih =>
        intro hi
        cases hl : listed.getD i false with
        | true => rfl
        | false =>
          have hmem : i ∈ Region.ready .any ops listed := by
            have hsz : i < ops.size := by omega
            refine mem_ready.2 ⟨?_, ops[i], Array.getElem?_eq_getElem hsz, fun e he hbd => ih _ (hac i _ (Array.getElem?_eq_getElem hsz) e he hbd) (by have := hac i _ (Array.getElem?_eq_getElem hsz) e he hbd; omega)⟩
            rw [Array.getD_eq_getD_getElem?] at hl ⊢
            rw [Array.getElem?_eq_getElem (by omega)] at hl ⊢
            exact hl
          rw [hr] at hmem; cases hmem
    intro fuel
    induction fuel with
    | zero =>
      intro listed a w hs hc hI
      have hall : ∀ i, i < n → listed.getD i false = true := by
        intro i hi
        have := List.countP_eq_zero.1 (Nat.le_zero.1 hc) i (List.mem_range.2 hi)
        simpa using this
      refine ⟨?_, fin _ a w hall hI⟩
      refine List.eq_nil_iff_forall_not_mem.2 fun i hi => ?_
      obtain ⟨h1, o, ho, -⟩ := mem_ready.1 hi
      have hlt : i < n := by have := (Array.getElem?_eq_some_iff.1 ho).1; omega
      have := hall i hlt
      rw [Array.getD_eq_getD_getElem?, Array.getElem?_eq_getElem (by omega)] at this h1
      simp at this h1
      rw [this] at h1; cases h1
    | succ fuel ih =>
      intro listed a w hs hc hI
      refine ⟨fun hr => fin _ a w (full listed hs hr) hI, fun i hi => ?_⟩
      obtain ⟨h1, o, ho, hdep⟩ := mem_ready.1 hi
      have hlt : i < n := by have := (Array.getElem?_eq_some_iff.1 ho).1; omega
      refine wpOp_step ho fun K' hK => ?_
      have hf0 : listed.getD i false = false := by
        rw [Array.getD_eq_getD_getElem?, Array.getElem?_eq_getElem (by omega)] at h1 ⊢; exact h1
      have st := step i o ho _ a w hI hf0 hdep
      have hset : (fun j => (listed.setIfInBounds i true).getD j false) = also (fun j => listed.getD j false) i := by
        funext j
        unfold also
        simp only [Array.getD_eq_getD_getElem?, Array.getElem?_setIfInBounds]
        by_cases e : i = j
        · subst e; simp [hs, hlt]
        · simp [e, show ¬ j = i from fun h => e h.symm]
      have hcount : (List.range n).countP (fun j => !(listed.setIfInBounds i true).getD j false) ≤ fuel := by
        have hf : listed.getD i false = false := by
          rw [Array.getD_eq_getD_getElem?, Array.getElem?_eq_getElem (by omega)] at h1 ⊢; exact h1
        have hlt2 : (List.range n).countP (fun j => !(listed.setIfInBounds i true).getD j false) < (List.range n).countP (fun j => !listed.getD j false) := by
          have h3 := congrFun hset
          simp only [h3]
          clear h3 hset
          have : ∀ l : List Nat, i ∈ l → l.countP (fun j => !also (fun j => listed.getD j false) i j) < l.countP (fun j => !listed.getD j false) := by
            intro l
            induction l with
            | nil => intro h; cases h
            | cons x l ihl =>
              intro h
              have hle : l.countP (fun j => !also (fun j => listed.getD j false) i j) ≤ l.countP (fun j => !listed.getD j false) := List.countP_mono_left fun y _ hy => by simp [also] at hy ⊢; exact hy.2
              by_cases e : x = i
              · subst e
                rw [List.countP_cons, List.countP_cons]; simp only [also, beq_self_eq_true, Bool.true_or, hf]; simp only [Bool.not_true, Bool.false_eq_true, if_false, Bool.not_false, if_true]
                exact Nat.lt_succ_of_le hle
              · have hm2 : i ∈ l := by rcases List.mem_cons.1 h with h | h; exact absurd h.symm e; exact h
                have := ihl hm2
                rw [List.countP_cons, List.countP_cons]
                have e2 : (also (fun j => listed.getD j false) i x) = listed.getD x false := by simp [also, e]
                rw [e2]; omega
          exact this _ (List.mem_range.2 hlt)
        omega
      have goK : ∀ a' w', I (also (fun j => listed.getD j false) i) a' w' → K' a' w' := fun a' w' h => hK a' w' (ih _ a' w' (by simpa using hs) hcount (by rw [hset]; exact h))
      split
      · rename_i hw; rw [if_pos hw] at st; exact Oper.wp_mono goK st
      · rename_i hw; rw [if_neg hw] at st; exact goK _ _ st
  refine key _ _ _ _ (by simp [hn]) ?_ ?_
  · rw [hn]; exact Nat.le_trans (List.countP_le_length) (by simp)
  · have : (fun i => (Array.replicate ops.size false).getD i false) = fun _ => false := by
      funext i
      rw [Array.getD_eq_getD_getElem?, Array.getElem?_replicate]; split <;> rfl
    rw [this]; exact h0
/-- The steps, one for each operation from number i on. -/
def Steps (P : Program) (I : (Nat → Bool) → Act → World → Prop) (Q : Exit → Act → World → Prop) : Nat → List Oper → Prop
  | _, [] => True
  | i, o :: rest => (∀ L a w, I L a w → L i = false → (∀ e ∈ o.after, Region.binds .any e = true → L e.on = true) → Oper.wp P o a w (I (also L i)) Q) ∧ Steps P I Q (i + 1) rest
theorem Steps.at_ {P : Program} {I : (Nat → Bool) → Act → World → Prop} {Q : Exit → Act → World → Prop} : ∀ {l : List Oper} {i : Nat}, Steps P I Q i l → ∀ (j : Nat) (o : Oper), l[j]? = some o →
    ∀ L a w, I L a w → L (i + j) = false → (∀ e ∈ o.after, Region.binds .any e = true → L e.on = true) → Oper.wp P o a w (I (also L (i + j))) Q
  | [], _, _, j, o, h => by simp at h
  | x :: l, i, hs, 0, o, h => by
    simp at h; subst h
    exact hs.1
  | x :: l, i, hs, j + 1, o, h => by
    have := Steps.at_ hs.2 j o (by simpa using h)
    rw [show i + 1 + j = i + (j + 1) by omega] at this
    exact this
end Go.Proofs.Ytbjcigokimieoaa
namespace Go.Proofs.Ytbjcigokimieoaa
open Go.RowKit
/-- Limb i of a number. -/
def limb (n i : Nat) : Nat := n / 18446744073709551616 ^ i % 18446744073709551616
theorem heapAt (w : World) (o : Obj) (k : Nat) : (w.alloc o).heap[k]? = if k = w.heap.size then some o else w.heap[k]? := by
  show (w.heap.push o)[k]? = _
  rw [Array.getElem?_push]
/-- One step more. -/
theorem below_step {w W w' : World} (h : Below w.heap.size w W) (hb : Below W.heap.size W w') : Below w.heap.size w w' := h.trans (hb.mono h.size)
/-- A bool. -/
def RetB (w : World) (b : Bool) (e : Ending) (w' : World) : Prop := e = .returned (.bool b) ∧ Below w.heap.size w w'
end Go.Proofs.Ytbjcigokimieoaa
namespace Go.Proofs.Ytbjcigokimieoaa
open Go.RowKit
/-- Thirty-two bytes, as the model has them: byte i is f i. -/
@[reducible] def cells32 (f : Nat → Int) : Array Value := #[.int .u8 (f 0), .int .u8 (f 1), .int .u8 (f 2), .int .u8 (f 3), .int .u8 (f 4), .int .u8 (f 5), .int .u8 (f 6), .int .u8 (f 7), .int .u8 (f 8), .int .u8 (f 9), .int .u8 (f 10), .int .u8 (f 11), .int .u8 (f 12), .int .u8 (f 13), .int .u8 (f 14), .int .u8 (f 15), .int .u8 (f 16), .int .u8 (f 17), .int .u8 (f 18), .int .u8 (f 19), .int .u8 (f 20), .int .u8 (f 21), .int .u8 (f 22), .int .u8 (f 23), .int .u8 (f 24), .int .u8 (f 25), .int .u8 (f 26), .int .u8 (f 27), .int .u8 (f 28), .int .u8 (f 29), .int .u8 (f 30), .int .u8 (f 31)]
/-- The same, closed to the walk. -/
def row32 (f : Nat → Int) : Array Value := cells32 f
end Go.Proofs.Ytbjcigokimieoaa
namespace Go.Proofs.Ytbjcigokimieoaa
open Go.RowKit
/-- The number of the last k bytes. -/
def beN (f : Nat → Int) : Nat → Nat
  | 0 => 0
  | k + 1 => beN f k + (f (31 - k)).toNat * 256 ^ k
/-- A number's limbs in a row of four cells. -/
@[reducible] def limbs4 (z : Nat) : Array Value := #[.int .u64 (limb z 0 : Nat), .int .u64 (limb z 1 : Nat), .int .u64 (limb z 2 : Nat), .int .u64 (limb z 3 : Nat)]
theorem below_setRow {B : Nat} {a w : World} (h : Below B a w) {g : Nat} (hg : B ≤ g) (c : Array Value) : Below B a (w.setRow g c) :=
  h.trans ⟨rfl, rfl, rfl, by simp, fun k hk => setRow_other w g k c (by omega)⟩
end Go.Proofs.Ytbjcigokimieoaa
namespace Go.Proofs.Ytbjcigokimieoaa
open Go.RowKit
/-- Are two arrays of n numbers the same? -/
def alike (n : Nat) (f g : Nat → Int) : Bool := (List.range n).all fun i => f i == g i
theorem alike_iff (n : Nat) (f g : Nat → Int) : alike n f g = true ↔ ∀ i, i < n → f i = g i := by
  simp [alike]
theorem run_eqItems_ints {P : Program} (w : World) (d : Nat) {e : TypeId} {k : IntKind} (he : P.underlying e = some (.int k)) (f g : Nat → Int) (xs ys : Array Value) (l : List Nat)
    (hx : ∀ j, j ∈ l → xs[j]? = some (.int k (f j))) (hy : ∀ j, j ∈ l → ys[j]? = some (.int k (g j))) :
    (Op.eqItems (d + 1) e 1 xs ys l).run P w = .ok (l.all fun i => f i == g i) w := by
  induction l with
  | nil => simp [Op.eqItems]
  | cons j l ih =>
    have hxj := hx j (by simp)
    have hyj := hy j (by simp)
    obtain ⟨hxs, hxv⟩ := Array.getElem?_eq_some_iff.1 hxj
    obtain ⟨hys, hyv⟩ := Array.getElem?_eq_some_iff.1 hyj
    have hag : (isAgg e).run P w = .ok false w := by
      unfold isAgg; rw [Sem.run_bind, run_underlying he w]; rfl
    have px : (part e xs (j * 1)).run P w = .ok (.int k (f j)) w := by
      unfold part; simp [Sem.run_bind, hag, hxs, hxv]
    have py : (part e ys (j * 1)).run P w = .ok (.int k (g j)) w := by
      unfold part; simp [Sem.run_bind, hag, hys, hyv]
    have pe : (Op.equalIn (d + 1) e (.int k (f j)) (.int k (g j))).run P w = .ok (f j == g j) w := run_equalIn_int w d e k k (f j) (g j) he
    simp only [Op.eqItems, Sem.run_bind, px, py, pe, Result.andThen_ok]
    by_cases h : f j = g j
    · simp [h]
      simpa using ih (fun j hj => hx j (by simp [hj])) (fun j hj => hy j (by simp [hj]))
    · have : (f j == g j) = false := by simpa using h
      simp [this]
theorem run_eql_array {P : Program} (w : World) {t e : TypeId} {n : Nat} {k : IntKind} {i : TypeInfo} (hu : P.underlying t = some (.array n e)) (he : P.underlying e = some (.int k)) (hi : P.info? e = some i) (hc : P.cellsOf e = 1)
    (f g : Nat → Int) (xs ys : Array Value) (hx : ∀ j, j < n → xs[j]? = some (.int k (f j))) (hy : ∀ j, j < n → ys[j]? = some (.int k (g j))) :
    (Op.equalIn 10000 t (.agg xs) (.agg ys)).run P w = .ok (alike n f g) w := by
  rw [run_equalIn_array w 9999 xs ys hu hi, hc]
  exact run_eqItems_ints w 9998 he f g xs ys _ (fun j hj => hx j (by simpa using hj)) (fun j hj => hy j (by simpa using hj))
end Go.Proofs.Ytbjcigokimieoaa
namespace Go.Proofs.Ytbjcigokimieoaa
open Go.RowKit
/-- What a row of four limbs gives the walk. -/
theorem at4 {w : World} {b z : Nat} {t : TypeId} (h : w.heap[b]? = some (.cells (limbs4 z) t (0, 0))) :
    (w.cell? ⟨b, 0, none⟩ = some (.int .u64 (limb z 0 : Nat)) ∧ w.cell? ⟨b, 1, none⟩ = some (.int .u64 (limb z 1 : Nat)) ∧ w.cell? ⟨b, 2, none⟩ = some (.int .u64 (limb z 2 : Nat)) ∧ w.cell? ⟨b, 3, none⟩ = some (.int .u64 (limb z 3 : Nat))) ∧
    (w.frozen? ⟨b, 0, none⟩ = false ∧ w.frozen? ⟨b, 1, none⟩ = false ∧ w.frozen? ⟨b, 2, none⟩ = false ∧ w.frozen? ⟨b, 3, none⟩ = false) :=
  ⟨⟨(cell_of_row _ _ _ _ _ _ h).trans rfl, (cell_of_row _ _ _ _ _ _ h).trans rfl, (cell_of_row _ _ _ _ _ _ h).trans rfl, (cell_of_row _ _ _ _ _ _ h).trans rfl⟩,
   frozen_of_row _ _ _ _ _ h, frozen_of_row _ _ _ _ _ h, frozen_of_row _ _ _ _ _ h, frozen_of_row _ _ _ _ _ h⟩
end Go.Proofs.Ytbjcigokimieoaa
namespace Go.Proofs.Ytbjcigokimieoaa
open Go.RowKit
/-- W is w with new blocks; each row of the list lies there. -/
structure St (w : World) (L : List (Nat × Obj)) (W : World) : Prop where
  below : Below w.heap.size w W
  rows : ∀ p, p ∈ L → W.heap[p.1]? = some p.2
theorem St.nil (w : World) : St w [] w := ⟨Below.refl _ _, fun _ h => by cases h⟩
theorem St.get {w W : World} {L : List (Nat × Obj)} (h : St w L W) {b : Nat} {o : Obj} (hm : (b, o) ∈ L) : W.heap[b]? = some o := h.rows _ hm
theorem St.keep {w W W' : World} {L : List (Nat × Obj)} (h : St w L W) (hb : Below W.heap.size W W') : St w L W' :=
  ⟨below_step h.below hb, fun p hp => (hb.block _ (lt_of_block (h.rows p hp))).trans (h.rows p hp)⟩
theorem St.alloc {w W : World} {L : List (Nat × Obj)} (h : St w L W) (o : Obj) (n : Nat) (hn : W.heap.size = n) : St w ((n, o) :: L) (W.alloc o) := by
  refine ⟨h.below.alloc h.below.size o, fun p hp => ?_⟩
  rcases List.mem_cons.1 hp with rfl | hp
  · rw [heapAt, if_pos hn.symm]
  · have := lt_of_block (h.rows p hp)
    rw [heapAt, if_neg (by omega)]
    exact h.rows p hp
theorem St.drew {w W : World} {L : List (Nat × Obj)} (h : St w L W) : St w L W.drew := ⟨h.below.drew, h.rows⟩
theorem St.drop {w W : World} {L L' : List (Nat × Obj)} (h : St w L W) (hs : ∀ p, p ∈ L' → p ∈ L) : St w L' W := ⟨h.below, fun p hp => h.rows p (hs p hp)⟩
theorem St.alloc0 {w W : World} {L : List (Nat × Obj)} (h : St w L W) (o : Obj) : St w L (W.alloc o) := (h.alloc o _ rfl).drop (fun _ hp => List.mem_cons_of_mem _ hp)
theorem St.cons {w W : World} {L : List (Nat × Obj)} (h : St w L W) {g : Nat} {o : Obj} (hg : W.heap[g]? = some o) : St w ((g, o) :: L) W :=
  ⟨h.below, fun p hp => by
    rcases List.mem_cons.1 hp with rfl | hp
    · exact hg
    · exact h.rows p hp⟩
theorem keepH {W W' : World} (hb : Below W.heap.size W W') {b : Nat} {o : Obj} (h : W.heap[b]? = some o) : W'.heap[b]? = some o := (hb.block _ (lt_of_block h)).trans h
theorem lastH (W : World) (o : Obj) (n : Nat) (h : W.heap.size = n) : (W.alloc o).heap[n]? = some o := by rw [heapAt, if_pos h.symm]
end Go.Proofs.Ytbjcigokimieoaa
namespace Go.Proofs.Ytbjcigokimieoaa
open Go.RowKit
/-- A block of a function's code, by its number. -/
def blk (n : Nat) : Code → Option Code
  | .block i c => if i = n then some (.block i c) else blk n c
  | .seq a b => match blk n a with
    | some c => some c
    | none => blk n b
  | .loop c => blk n c
  | .scope c => blk n c
  | .cond _ a b => match blk n a with
    | some c => some c
    | none => blk n b
  | _ => none
def piece (f : Func) (n : Nat) : Code := (f.body.bind (blk n)).getD .skip
/-- A slot of a frame. -/
def slot (T : Array Value) (i : Nat) : Value := T.getD i undef
/-- A frame of n slots, of which these are known. -/
structure Fr (n : Nat) (a : Act) (l : List (Nat × Value)) : Prop where
  size : a.tmps.size = n
  defers : a.defers = []
  known : ∀ p, p ∈ l → slot a.tmps p.1 = p.2
end Go.Proofs.Ytbjcigokimieoaa
namespace Go.Proofs.Ytbjcigokimieoaa
open Go.RowKit
/-- A row that lies in no block of the list's. -/
theorem St.setRow {w W : World} {L : List (Nat × Obj)} (h : St w L W) {g : Nat} (hg : w.heap.size ≤ g) (hL : ∀ p, p ∈ L → p.1 ≠ g) (c : Array Value) : St w L (W.setRow g c) :=
  ⟨below_setRow h.below hg c, fun p hp => (setRow_other W g p.1 c (hL p hp)).trans (h.rows p hp)⟩
/-- A variable of type T that the region makes: where it lies. -/
def Made (W : World) (T : TypeId) (n : Nat) (v : Value) (k : Bool) (z r : Array Value) : Prop := ∃ g, v = .pointer (some ⟨g, 0, none⟩) ∧ n ≤ g ∧ W.heap[g]? = some (.cells (if k then r else z) T (0, 0))
theorem Made.keep {W W' : World} {T : TypeId} {n : Nat} {v : Value} {k : Bool} {z r : Array Value} (h : Made W T n v k z r) (hb : Below W.heap.size W W') : Made W' T n v k z r := by
  obtain ⟨g, h1, h2, h3⟩ := h
  exact ⟨g, h1, h2, keepH hb h3⟩
theorem Made.alloc {W : World} {T : TypeId} {n : Nat} {v : Value} {k : Bool} {z r : Array Value} (h : Made W T n v k z r) (o : Obj) : Made (W.alloc o) T n v k z r := h.keep ((Below.refl _ _).alloc (Nat.le_refl _) _)
theorem Made.new (W : World) (T : TypeId) (n : Nat) (hn : n ≤ W.heap.size) (z r : Array Value) : Made (W.alloc (.cells z T)) T n (.pointer (some ⟨W.heap.size, 0, none⟩)) false z r :=
  ⟨_, rfl, hn, lastH _ _ _ rfl⟩
theorem Made.other {W : World} {T : TypeId} {n g : Nat} {v : Value} {k : Bool} {z r : Array Value} (h : Made W T n v k z r) (hne : v ≠ .pointer (some ⟨g, 0, none⟩)) (c : Array Value) : Made (W.setRow g c) T n v k z r := by
  obtain ⟨g', rfl, h2, h3⟩ := h
  exact ⟨g', rfl, h2, (setRow_other W g g' c (fun e => hne (by rw [e]))).trans h3⟩
theorem Made.below {W : World} {T : TypeId} {n g : Nat} {v : Value} {k : Bool} {z r : Array Value} (h : Made W T n v k z r) (hg : g < n) (c : Array Value) : Made (W.setRow g c) T n v k z r :=
  h.other (by
    obtain ⟨g', rfl, h2, -⟩ := h
    intro e; injection e with e; injection e with e; injection e with e; omega) c
/-- A row's cells as a range. -/
theorem part_of_row {W : World} {g o : Nat} {cs : Array Value} {t : TypeId} {fr : Nat × Nat} (h : W.heap[g]? = some (.cells cs t fr)) (l : List Value) (hl : (cs.toList.drop o).take l.length = l) : W.rangeAt g o l := fun j v hv => by
  rw [cell_of_row _ _ _ _ _ _ h]
  have hj : j < l.length := (List.getElem?_eq_some_iff.1 hv).1
  rw [← hl, List.getElem?_take, if_pos hj, List.getElem?_drop] at hv
  simpa using hv
end Go.Proofs.Ytbjcigokimieoaa
namespace Go.Proofs.Ytbjcigokimieoaa
open Go.RowKit
/-- What stays when new blocks are made. -/
def Stable (p : Value → World → Prop) : Prop := ∀ v W W', Below W.heap.size W W' → p v W → p v W'
theorem stable_is (x : Value) : Stable (fun v _ => v = x) := fun _ _ _ _ h => h
theorem stable_any : Stable (fun _ _ => True) := fun _ _ _ _ _ => trivial
/-- Edges that bind go back; each slot is written once, and lies in the frame; a guard is behind an edge. -/
def relOps (n : Nat) (ops : List Oper) : Bool :=
  ((List.range ops.length).all fun i => match ops[i]? with
    | some o => o.after.all (fun e => !Region.binds .any e || decide (e.on < i)) && (match o.dst with | some d => decide (d < n) && (List.range i).all (fun j => match ops[j]? with | some o' => o'.dst != some d | none => true) | none => true)
    | none => true)
/-- What holds when a set of operations has been carried out. -/
structure RelInv (ops : List Oper) (T0 : Array Value) (Rs : List (Value → World → Prop)) (J : World → Prop) (L : Nat → Bool) (a : Act) (W : World) : Prop where
  defers : a.defers = []
  size : a.tmps.size = T0.size
  st : J W
  done : ∀ (i : Nat) (o : Oper) (d : Tmp), ops[i]? = some o → L i = true → o.dst = some d → (Rs.getD i (fun _ _ => True)) (slot a.tmps d) W
  rest : ∀ s, (∀ (i : Nat) (o : Oper), ops[i]? = some o → o.dst = some s → L i = false) → slot a.tmps s = slot T0 s
  shut : ∀ (i : Nat) (o : Oper), ops[i]? = some o → L i = true → ∀ e ∈ o.after, Region.binds .any e = true → L e.on = true
/-- What a step of operation i may lean on, and must show. -/
def RelStep (P : Program) (ops : List Oper) (T0 : Array Value) (Rs : List (Value → World → Prop)) (J : World → Prop) (Q : Exit → Act → World → Prop) (i : Nat) (o : Oper) : Prop :=
  ∀ (T : Array Value) (W : World), T.size = T0.size → J W →
    (∀ j d, (∃ e ∈ o.after, Region.binds .any e = true ∧ e.on = j) → (ops[j]?.bind (·.dst)) = some d → (Rs.getD j (fun _ _ => True)) (slot T d) W) →
    (∀ s, (∀ (j : Nat) (o' : Oper), ops[j]? = some o' → o'.dst = some s → i = j ∨ ∃ e ∈ o'.after, Region.binds .any e = true ∧ e.on = i) → slot T s = slot T0 s) →
    ∀ K : Act → World → Prop, (∀ v W', (Rs.getD i (fun _ _ => True)) v W' → J W' → Below W.heap.size W W' → K ((⟨T, []⟩ : Act).put o.dst v) W') →
      if Region.wanted o (yielded ops.toArray T) = true then Oper.wp P o ⟨T, []⟩ W K Q else K ((⟨T, []⟩ : Act).put o.dst undef) W
def RelSteps (P : Program) (ops : List Oper) (T0 : Array Value) (Rs : List (Value → World → Prop)) (J : World → Prop) (Q : Exit → Act → World → Prop) : Nat → List Oper → Prop
  | _, [] => True
  | i, o :: rest => RelStep P ops T0 Rs J Q i o ∧ RelSteps P ops T0 Rs J Q (i + 1) rest
theorem RelSteps.at_ {P : Program} {ops : List Oper} {T0 : Array Value} {Rs : List (Value → World → Prop)} {J : World → Prop} {Q : Exit → Act → World → Prop} : ∀ {l : List Oper} {i : Nat}, RelSteps P ops T0 Rs J Q i l → ∀ (j : Nat) (o : Oper), l[j]? = some o → RelStep P ops T0 Rs J Q (i + j) o
  | [], _, _, j, o, h => by simp at h
  | x :: l, i, hs, 0, o, h => by simp at h; subst h; exact hs.1
  | x :: l, i, hs, j + 1, o, h => by
    have := RelSteps.at_ hs.2 j o (by simpa using h)
    rwa [show i + 1 + j = i + (j + 1) by omega] at this
theorem slot_put_same (T : Array Value) (d : Nat) (v : Value) (h : d < T.size) : slot ((⟨T, []⟩ : Act).put (some d) v).tmps d = v := by
  simp [slot, Act.put, h, Array.getD]
theorem slot_put_other (T : Array Value) (x : Option Tmp) (s : Nat) (v : Value) (h : x ≠ some s) : slot ((⟨T, []⟩ : Act).put x v).tmps s = slot T s := by
  cases x with
  | none => rfl
  | some d =>
    have hd : d ≠ s := fun e => h (by rw [e])
    simp only [slot, Act.put, Array.getD_eq_getD_getElem?, Array.getElem?_setIfInBounds, if_neg hd]
theorem put_size (T : Array Value) (x : Option Tmp) (v : Value) : ((⟨T, []⟩ : Act).put x v).tmps.size = T.size := by
  cases x <;> simp [Act.put]
theorem put_defers (T : Array Value) (x : Option Tmp) (v : Value) : ((⟨T, []⟩ : Act).put x v).defers = [] := by
  cases x <;> rfl
theorem slot_set (T : Array Value) (d s : Nat) (v : Value) (h : d < T.size) : slot (T.setIfInBounds d v) s = if d = s then v else slot T s := by
  simp only [slot, Array.getD_eq_getD_getElem?, Array.getElem?_setIfInBounds]
  by_cases e : d = s
  · subst e; simp [h]
  · simp [e]
/-- Is a guarded operation wanted? -/
theorem wanted_by {ops : List Oper} {T : Array Value} {o oj : Oper} {j d : Nat} {b c : Bool} (hg : o.guard = some (j, b)) (ho : ops[j]? = some oj) (hd : oj.dst = some d) (hlt : d < T.size) (hv : slot T d = .bool c) : Region.wanted o (yielded ops.toArray T) = (c == b) := by
  have h1 : T[d]? = some (.bool c) := by
    rw [Array.getElem?_eq_getElem hlt]
    simp [slot, Array.getD, hlt] at hv
    rw [hv]
  simp only [Region.wanted, hg, yielded, List.getElem?_toArray, ho, Option.bind_some, hd, h1]
  cases c <;> cases b <;> rfl
/-- A slot that no operation has written yet. -/
def lateB (ops : List Oper) (i s : Nat) : Bool := (List.range ops.length).all fun j => match ops[j]? with
  | some o => o.dst != some s || i == j || o.after.any (fun e => Region.binds .any e && e.on == i)
  | none => true
theorem late {ops : List Oper} {i s : Nat} (h : lateB ops i s = true) : ∀ (j : Nat) (o' : Oper), ops[j]? = some o' → o'.dst = some s → i = j ∨ ∃ e ∈ o'.after, Region.binds .any e = true ∧ e.on = i := fun j o' ho hd => by
  have h1 := List.all_eq_true.1 h j (List.mem_range.2 (List.getElem?_eq_some_iff.1 ho).1)
  rw [ho] at h1
  simp only [hd, bne_self_eq_false, Bool.false_or, Bool.or_eq_true, beq_iff_eq] at h1
  rcases h1 with h1 | h1
  · exact Or.inl h1
  · obtain ⟨k, hk, h2⟩ := Array.any_eq_true.1 h1
    simp only [Bool.and_eq_true, beq_iff_eq] at h2
    exact Or.inr ⟨_, Array.getElem_mem hk, h2.1, h2.2⟩
theorem slot_get (T : Array Value) (i : Nat) : slot T i = T[i]?.getD undef := by simp [slot, Array.getD_eq_getD_getElem?]
theorem all_nil : ∀ p, p ∈ ([] : List (Value → World → Prop)) → Stable p := fun _ h => by cases h
theorem all_cons {p : Value → World → Prop} {l : List (Value → World → Prop)} (h : Stable p) (hl : ∀ q, q ∈ l → Stable q) : ∀ q, q ∈ p :: l → Stable q := fun q hq => by
  rcases List.mem_cons.1 hq with rfl | hq
  · exact h
  · exact hl q hq
theorem wanted_none {o : Oper} (h : o.guard = none) (y : Nat → Option Bool) : Region.wanted o y = true := by simp [Region.wanted, h]
theorem eval_slot (T : Array Value) (k : Nat) : (⟨T, []⟩ : Act).eval (.tmp k) = slot T k := rfl
end Go.Proofs.Ytbjcigokimieoaa
namespace Go.Proofs.Ytbjcigokimieoaa
open Go.RowKit
/-- A region of a function's code, by its number. -/
def rgo (n : Nat) : Code → Option Code
  | .region i ops d => if i = n then some (.region i ops d) else none
  | .seq a b => match rgo n a with
    | some c => some c
    | none => rgo n b
  | .block _ c => rgo n c
  | .loop c => rgo n c
  | .scope c => rgo n c
  | .cond _ a b => match rgo n a with
    | some c => some c
    | none => rgo n b
  | _ => none
noncomputable def rgn (f : Func) (n : Nat) : Code := (f.body.bind (rgo n)).getD .skip
theorem Fr.ev {N : Nat} {T : Array Value} {l : List (Nat × Value)} (h : Fr N ⟨T, []⟩ l) (i : Nat) {k : Nat} {v : Value} (hi : l[i]? = some (k, v)) : T[k]?.getD undef = v := by
  have := h.known (k, v) (List.mem_of_getElem? hi)
  rwa [slot_get] at this
theorem Fr.op {N : Nat} {T : Array Value} {l : List (Nat × Value)} (h : Fr N ⟨T, []⟩ l) (i : Nat) {k : Nat} {v : Value} (hi : l[i]? = some (k, v)) : (⟨T, []⟩ : Act).eval (.tmp k) = v := h.known (k, v) (List.mem_of_getElem? hi)
theorem Fr.put {N : Nat} {T : Array Value} {l : List (Nat × Value)} (h : Fr N ⟨T, []⟩ l) (d : Nat) (v : Value) (hd : d < N) (hl : (l.all fun p => p.1 != d) = true) : Fr N ⟨T.setIfInBounds d v, []⟩ ((d, v) :: l) :=
  ⟨by simpa using h.size, rfl, fun p hp => by
    rcases List.mem_cons.1 hp with rfl | hp
    · show slot (T.setIfInBounds d v) d = v
      rw [slot_set _ _ _ _ (by have := h.size; simp only at this; omega), if_pos rfl]
    · have h1 := List.all_eq_true.1 hl p hp
      show slot (T.setIfInBounds d v) p.1 = p.2
      rw [slot_set _ _ _ _ (by have := h.size; simp only at this; omega), if_neg (by simpa using Ne.symm (bne_iff_ne.1 h1))]
      exact h.known p hp⟩
theorem Fr.pick {N : Nat} {a : Act} {l : List (Nat × Value)} (h : Fr N a l) (is : List Nat) : Fr N a (is.filterMap fun i => l[i]?) :=
  ⟨h.size, h.defers, fun p hp => by
    obtain ⟨i, -, hi⟩ := List.mem_filterMap.1 hp
    exact h.known p (List.mem_of_getElem? hi)⟩
theorem Fr.nil {N : Nat} {T : Array Value} (h : T.size = N) : Fr N ⟨T, []⟩ [] := ⟨h, rfl, fun _ h => by cases h⟩
theorem Fr.cons {N : Nat} {T : Array Value} {l : List (Nat × Value)} (h : Fr N ⟨T, []⟩ l) {k : Nat} {v : Value} (hs : slot T k = v) : Fr N ⟨T, []⟩ ((k, v) :: l) :=
  ⟨h.size, h.defers, fun p hp => by
    rcases List.mem_cons.1 hp with rfl | hp
    · exact hs
    · exact h.known p hp⟩
theorem Fr.old {N : Nat} {T0 T : Array Value} {l : List (Nat × Value)} (h : Fr N ⟨T0, []⟩ l) (hT : T.size = N) {ds : List Nat} (hs : ∀ s, s ∉ ds → slot T s = slot T0 s) (hl : (l.all fun p => !ds.contains p.1) = true) : Fr N ⟨T, []⟩ l :=
  ⟨hT, rfl, fun p hp => by
    have h1 := List.all_eq_true.1 hl p hp
    exact (hs p.1 (by simpa using h1)).trans (h.known p hp)⟩
/-- Something of a world that hangs on some blocks alone. ex: on these nothing else hangs. -/
structure Xt where
  ex : Bool
  foot : Nat → Prop
  holds : World → Prop
  stays : ∀ W W', (∀ b, foot b → b < W.heap.size → W'.heap[b]? = W.heap[b]?) → W.heap.size ≤ W'.heap.size → holds W → holds W'
/-- W is w with new blocks; these rows lie there; and what else is known of it, which hangs on none of these rows. -/
structure Sx (w : World) (L : List (Nat × Obj)) (X : List Xt) (W : World) : Prop where
  below : Below w.heap.size w W
  rows : ∀ p, p ∈ L → W.heap[p.1]? = some p.2
  apart : L.Pairwise (fun p q => p.1 ≠ q.1)
  ext : ∀ q, q ∈ X → q.holds W
  sep : ∀ p, p ∈ L → ∀ q, q ∈ X → ¬ q.foot p.1
  bound : ∀ q, q ∈ X → ∀ b, q.foot b → b < W.heap.size
  excl : X.Pairwise (fun p q => (p.ex || q.ex) = true → ∀ b, p.foot b → ¬ q.foot b)
theorem Sx.nil (w : World) : Sx w [] [] w := ⟨Below.refl _ _, fun _ h => (by cases h), List.Pairwise.nil, fun _ h => (by cases h), fun _ h => (by cases h), fun _ h => (by cases h), List.Pairwise.nil⟩
theorem Sx.at {w W : World} {L : List (Nat × Obj)} {X : List Xt} (h : Sx w L X W) (i : Nat) {g : Nat} {o : Obj} (hi : L[i]? = some (g, o)) : W.heap[g]? = some o := h.rows _ (List.mem_of_getElem? hi)
theorem Sx.x {w W : World} {L : List (Nat × Obj)} {X : List Xt} (h : Sx w L X W) (i : Nat) {q : Xt} (hi : X[i]? = some q) : q.holds W := h.ext _ (List.mem_of_getElem? hi)
theorem Sx.cell {w W : World} {L : List (Nat × Obj)} {X : List Xt} (h : Sx w L X W) (i : Nat) {g o : Nat} {cs : Array Value} {t : TypeId} {fr : Nat × Nat} {v : Value} (hi : L[i]? = some (g, .cells cs t fr)) (hc : cs[o]? = some v) : W.cell? ⟨g, o, none⟩ = some v := (cell_of_row _ _ _ _ _ _ (h.at i hi)).trans hc
theorem Sx.free {w W : World} {L : List (Nat × Obj)} {X : List Xt} (h : Sx w L X W) (i : Nat) {g : Nat} {cs : Array Value} {t : TypeId} (hi : L[i]? = some (g, .cells cs t (0, 0))) (o : Nat) : W.frozen? ⟨g, o, none⟩ = false := frozen_of_row W g o _ _ (h.at i hi)
theorem Sx.keep {w W W' : World} {L : List (Nat × Obj)} {X : List Xt} (h : Sx w L X W) (hb : Below W.heap.size W W') : Sx w L X W' :=
  ⟨below_step h.below hb, fun p hp => (hb.block _ (lt_of_block (h.rows p hp))).trans (h.rows p hp), h.apart, fun q hq => q.stays W W' (fun b _ hlt => hb.block b hlt) hb.size (h.ext q hq), h.sep, fun q hq b hbq => Nat.lt_of_lt_of_le (h.bound q hq b hbq) hb.size, h.excl⟩
theorem Sx.drew {w W : World} {L : List (Nat × Obj)} {X : List Xt} (h : Sx w L X W) : Sx w L X W.drew := h.keep ((Below.refl _ _).drew)
/-- The rows at these places, in order. -/
def picks {α : Type} (l : List α) (is : List Nat) : List α := is.filterMap fun i => l[i]?
theorem picks_mem {α : Type} {l : List α} {is : List Nat} {x : α} (h : x ∈ picks l is) : x ∈ l := by
  obtain ⟨i, -, hi⟩ := List.mem_filterMap.1 h
  exact List.mem_of_getElem? hi
def incr : List Nat → Bool
  | a :: b :: l => decide (a < b) && incr (b :: l)
  | _ => true
theorem picks_pair {α : Type} {R : α → α → Prop} {l : List α} (h : l.Pairwise R) : ∀ (is : List Nat), incr is = true → (picks l is).Pairwise R ∧ ∀ a, (∀ i, i ∈ is → a < i) → ∀ p, l[a]? = some p → ∀ q, q ∈ picks l is → R p q
  | [], _ => ⟨List.Pairwise.nil, fun _ _ _ _ _ h => by cases h⟩
  | i :: is, hi => by
    have hi2 : incr is = true ∧ ∀ j, j ∈ is → i < j := by
      clear h
      induction is generalizing i with
      | nil => exact ⟨rfl, fun _ h => by cases h⟩
      | cons b is ih =>
        simp only [incr, Bool.and_eq_true, decide_eq_true_eq] at hi
        refine ⟨hi.2, fun j hj => ?_⟩
        rcases List.mem_cons.1 hj with rfl | hj
        · exact hi.1
        · exact Nat.lt_trans hi.1 ((ih b hi.2).2 j hj)
    obtain ⟨h1, h2⟩ := picks_pair h is hi2.1
    have e : picks l (i :: is) = match l[i]? with | some x => x :: picks l is | none => picks l is := by
      unfold picks; rw [List.filterMap_cons]; cases l[i]? <;> rfl
    rw [e]
    cases hx : l[i]? with
    | none => exact ⟨h1, fun a ha p hp q hq => h2 a (fun j hj => ha j (List.mem_cons_of_mem _ hj)) p hp q hq⟩
    | some x =>
      refine ⟨List.Pairwise.cons (fun q hq => h2 i hi2.2 x hx q hq) h1, fun a ha p hp q hq => ?_⟩
      rcases List.mem_cons.1 hq with rfl | hq
      · have hai := ha i (List.mem_cons_self ..)
        obtain ⟨ha1, rfl⟩ := List.getElem?_eq_some_iff.1 hp
        obtain ⟨hi1, rfl⟩ := List.getElem?_eq_some_iff.1 hx
        exact List.pairwise_iff_getElem.1 h a i ha1 hi1 hai
      · exact h2 a (fun j hj => ha j (List.mem_cons_of_mem _ hj)) p hp q hq
/-- Some rows and some facts are let go. -/
theorem Sx.pick {w W : World} {L : List (Nat × Obj)} {X : List Xt} (h : Sx w L X W) (is js : List Nat) (hi : incr is = true) (hj : incr js = true) : Sx w (picks L is) (picks X js) W :=
  ⟨h.below, fun p hp => h.rows p (picks_mem hp), (picks_pair h.apart is hi).1, fun q hq => h.ext q (picks_mem hq), fun p hp q hq => h.sep p (picks_mem hp) q (picks_mem hq), fun q hq => h.bound q (picks_mem hq), (picks_pair h.excl js hj).1⟩
theorem Sx.fresh {w W : World} {L : List (Nat × Obj)} {X : List Xt} (h : Sx w L X W) {g : Nat} (hg : W.heap.size ≤ g) : ∀ p, p ∈ L → g ≠ p.1 := fun p hp => by have := lt_of_block (h.rows p hp); omega
/-- A row that a step has made. -/
theorem Sx.made {w W W' : World} {L : List (Nat × Obj)} {X : List Xt} (h : Sx w L X W) (hb : Below W.heap.size W W') {g : Nat} {o : Obj} (hg : W'.heap[g]? = some o) (hge : W.heap.size ≤ g) : Sx w ((g, o) :: L) X W' :=
  have k := h.keep hb
  ⟨k.below, fun p hp => by
    rcases List.mem_cons.1 hp with rfl | hp
    · exact hg
    · exact k.rows p hp, List.Pairwise.cons (fun p hp => h.fresh hge p hp) k.apart, k.ext, fun p hp q hq => by
    rcases List.mem_cons.1 hp with rfl | hp
    · exact fun hf => Nat.lt_irrefl _ (Nat.lt_of_lt_of_le (h.bound q hq _ hf) hge)
    · exact k.sep p hp q hq, k.bound, k.excl⟩
theorem Sx.alloc {w W : World} {L : List (Nat × Obj)} {X : List Xt} (h : Sx w L X W) (o : Obj) : Sx w ((W.heap.size, o) :: L) X (W.alloc o) :=
  h.made ((Below.refl _ _).alloc (Nat.le_refl _) o) (lastH W o _ rfl) (Nat.le_refl _)
theorem Sx.alloc0 {w W : World} {L : List (Nat × Obj)} {X : List Xt} (h : Sx w L X W) (o : Obj) : Sx w L X (W.alloc o) := h.keep ((Below.refl _ _).alloc (Nat.le_refl _) o)
/-- A fact more. -/
theorem Sx.addX {w W : World} {L : List (Nat × Obj)} {X : List Xt} (h : Sx w L X W) (q : Xt) (hq : q.holds W) (hs : ∀ p, p ∈ L → ¬ q.foot p.1) (hbd : ∀ b, q.foot b → b < W.heap.size) (hx : ∀ r, r ∈ X → (q.ex || r.ex) = true → ∀ b, q.foot b → ¬ r.foot b) : Sx w L (q :: X) W :=
  ⟨h.below, h.rows, h.apart, fun r hr => by
    rcases List.mem_cons.1 hr with rfl | hr
    · exact hq
    · exact h.ext r hr, fun p hp r hr => by
    rcases List.mem_cons.1 hr with rfl | hr
    · exact hs p hp
    · exact h.sep p hp r hr, fun r hr => by
    rcases List.mem_cons.1 hr with rfl | hr
    · exact hbd
    · exact h.bound r hr, List.Pairwise.cons hx h.excl⟩
/-- A fact on blocks that a step has made. -/
theorem Sx.madeX {w W W' : World} {L : List (Nat × Obj)} {X : List Xt} (h : Sx w L X W) (hb : Below W.heap.size W W') (q : Xt) (hq : q.holds W') (hge : ∀ b, q.foot b → W.heap.size ≤ b) (hbd : ∀ b, q.foot b → b < W'.heap.size) : Sx w L (q :: X) W' :=
  (h.keep hb).addX q hq (fun p hp hf => by have h1 := lt_of_block (h.rows p hp); have h2 := hge _ hf; omega) hbd (fun r hr _ b h1 h2 => by have h3 := h.bound r hr b h2; have h4 := hge b h1; omega)
/-- A row is written: block g alone changes. -/
theorem Sx.write {w W W' : World} {L : List (Nat × Obj)} {X : List Xt} (h : Sx w L X W) (i : Nat) {g : Nat} {o : Obj} (hi : L[i]? = some (g, o)) (o' : Obj)
    (hb : Below w.heap.size w W') (hs : W.heap.size ≤ W'.heap.size) (hold : ∀ b, b ≠ g → b < W.heap.size → W'.heap[b]? = W.heap[b]?) (hnew : W'.heap[g]? = some o') : Sx w (L.set i (g, o')) X W' := by
  have hlen : i < L.length := (List.getElem?_eq_some_iff.1 hi).1
  have e2 : L[i] = (g, o) := (List.getElem?_eq_some_iff.1 hi).2
  have hne : ∀ (j : Nat) (p : Nat × Obj), L[j]? = some p → j ≠ i → p.1 ≠ g := by
    intro j p hj hji
    have hjl : j < L.length := (List.getElem?_eq_some_iff.1 hj).1
    have e1 : L[j] = p := (List.getElem?_eq_some_iff.1 hj).2
    rcases Nat.lt_or_gt_of_ne hji with hlt | hgt
    · have := List.pairwise_iff_getElem.1 h.apart j i hjl hlen hlt
      rw [e1, e2] at this; exact this
    · have := List.pairwise_iff_getElem.1 h.apart i j hlen hjl hgt
      rw [e1, e2] at this; exact fun e => this e.symm
  have hmem : ∀ p, p ∈ L.set i (g, o') → p = (g, o') ∨ (p ∈ L ∧ p.1 ≠ g) := by
    intro p hp
    obtain ⟨j, hj⟩ := List.getElem?_of_mem hp
    rw [List.getElem?_set] at hj
    by_cases hij : i = j
    · subst hij
      rw [if_pos rfl, if_pos hlen] at hj
      cases hj; exact Or.inl rfl
    · rw [if_neg hij] at hj
      exact Or.inr ⟨List.mem_of_getElem? hj, hne j p hj (Ne.symm hij)⟩
  have hgm : (g, o) ∈ L := List.mem_of_getElem? hi
  refine ⟨hb, fun p hp => ?_, ?_, fun q hq => q.stays W W' (fun b hb2 hlt => hold b (fun e => h.sep _ hgm q hq (by rw [← e]; exact hb2)) hlt) hs (h.ext q hq), fun p hp q hq => ?_, fun q hq b hbq => Nat.lt_of_lt_of_le (h.bound q hq b hbq) hs, h.excl⟩
  · rcases hmem p hp with rfl | ⟨h1, h2⟩
    · exact hnew
    · exact (hold _ h2 (lt_of_block (h.rows p h1))).trans (h.rows p h1)
  · rw [List.pairwise_iff_getElem]
    intro a b ha hb2 hab
    have hal : a < L.length := by simpa using ha
    have hbl : b < L.length := by simpa using hb2
    have hp := List.pairwise_iff_getElem.1 h.apart a b hal hbl hab
    rw [List.getElem_set, List.getElem_set]
    by_cases e1 : i = a
    · subst e1
      rw [if_pos rfl, if_neg (by omega)]
      rw [e2] at hp; exact hp
    · rw [if_neg e1]
      by_cases e3 : i = b
      · subst e3
        rw [if_pos rfl]; rw [e2] at hp; exact hp
      · rw [if_neg e3]; exact hp
  · rcases hmem p hp with rfl | ⟨h1, h2⟩
    · exact h.sep _ hgm q hq
    · exact h.sep p h1 q hq
theorem Sx.setCell {w W : World} {L : List (Nat × Obj)} {X : List Xt} (h : Sx w L X W) (i : Nat) {g : Nat} {cs : Array Value} {t : TypeId} (hi : L[i]? = some (g, .cells cs t (0, 0))) (hg : w.heap.size ≤ g) (o : Nat) (v : Value) :
    Sx w (L.set i (g, .cells (cs.setIfInBounds o v) t (0, 0))) X (W.setCell ⟨g, o, none⟩ v) :=
  h.write i hi _ (h.below.setCell hg v) (Below.setCell (Below.refl 0 W) (p := ⟨g, o, none⟩) (Nat.zero_le _) v).size (fun b hb _ => heap_setCell_other W ⟨g, o, none⟩ b v hb) (heap_setCell_same W g o cs t v (h.at i hi))
theorem Sx.setRow {w W : World} {L : List (Nat × Obj)} {X : List Xt} (h : Sx w L X W) (i : Nat) {g : Nat} {cs : Array Value} {t : TypeId} (hi : L[i]? = some (g, .cells cs t (0, 0))) (hg : w.heap.size ≤ g) (c : Array Value) :
    Sx w (L.set i (g, .cells c t (0, 0))) X (W.setRow g c) :=
  h.write i hi _ (below_setRow h.below hg c) (by simp [World.setRow]) (fun b hb _ => setRow_other W g b c hb) (setRow_heap W g cs c t (0, 0) (h.at i hi))
/-- A row that is only read. -/
def xrow (g : Nat) (o : Obj) : Xt := ⟨false, fun b => b = g, fun W => W.heap[g]? = some o, fun W W' hk _ h => (hk g rfl (lt_of_block h)).trans h⟩
/-- A fact more on the blocks of another one. -/
theorem Sx.dup {w W : World} {L : List (Nat × Obj)} {X : List Xt} (h : Sx w L X W) (i : Nat) {q : Xt} (hi : X[i]? = some q) (hex : q.ex = false) (q' : Xt) (hex' : q'.ex = false) (hf : ∀ b, q'.foot b → q.foot b) (hq' : q'.holds W) : Sx w L (q' :: X) W := by
  have hlen : i < X.length := (List.getElem?_eq_some_iff.1 hi).1
  have e2 : X[i] = q := (List.getElem?_eq_some_iff.1 hi).2
  have hqm : q ∈ X := List.mem_of_getElem? hi
  refine h.addX q' hq' (fun p hp hb => h.sep p hp q hqm (hf _ hb)) (fun b hb => h.bound q hqm b (hf b hb)) (fun r hr hrx b hb hrb => ?_)
  rw [hex', Bool.false_or] at hrx
  obtain ⟨j, hj⟩ := List.getElem?_of_mem hr
  have hjl : j < X.length := (List.getElem?_eq_some_iff.1 hj).1
  have e1 : X[j] = r := (List.getElem?_eq_some_iff.1 hj).2
  rcases Nat.lt_trichotomy i j with hlt | heq | hgt
  · have := List.pairwise_iff_getElem.1 h.excl i j hlen hjl hlt
    rw [e1, e2] at this; exact this (by rw [hrx]; simp) b (hf b hb) hrb
  · subst heq; rw [e2] at e1; subst e1; rw [hex] at hrx; cases hrx
  · have := List.pairwise_iff_getElem.1 h.excl j i hjl hlen hgt
    rw [e1, e2] at this; exact this (by rw [hrx]; rfl) b hrb (hf b hb)
/-- What hangs on blocks of its own is written. -/
theorem Sx.writeX {w W W' : World} {L : List (Nat × Obj)} {X : List Xt} (h : Sx w L X W) (i : Nat) {q q' : Xt} (hi : X[i]? = some q) (hex : q.ex = true) (hex' : q'.ex = true) (hq' : q'.holds W') (hf : ∀ b, q'.foot b → q.foot b ∨ W.heap.size ≤ b) (hbd' : ∀ b, q'.foot b → b < W'.heap.size)
    (hlow : ∀ b, q.foot b → w.heap.size ≤ b) (hos : W'.os = W.os) (htape : W'.tape = W.tape) (hout : W'.output = W.output) (hs : W.heap.size ≤ W'.heap.size) (hold : ∀ b, b < W.heap.size → ¬ q.foot b → W'.heap[b]? = W.heap[b]?) : Sx w L (X.set i q') W' := by
  have hlen : i < X.length := (List.getElem?_eq_some_iff.1 hi).1
  have e2 : X[i] = q := (List.getElem?_eq_some_iff.1 hi).2
  have hqm : q ∈ X := List.mem_of_getElem? hi
  have hmem : ∀ p, p ∈ X.set i q' → p = q' ∨ (p ∈ X ∧ ∀ b, q.foot b → ¬ p.foot b) := by
    intro p hp
    obtain ⟨j, hj⟩ := List.getElem?_of_mem hp
    rw [List.getElem?_set] at hj
    by_cases hij : i = j
    · subst hij
      rw [if_pos rfl, if_pos hlen] at hj
      cases hj; exact Or.inl rfl
    · rw [if_neg hij] at hj
      have hjl : j < X.length := (List.getElem?_eq_some_iff.1 hj).1
      have e1 : X[j] = p := (List.getElem?_eq_some_iff.1 hj).2
      refine Or.inr ⟨List.mem_of_getElem? hj, fun b hqb hpb => ?_⟩
      rcases Nat.lt_or_gt_of_ne hij with hlt | hgt
      · have := List.pairwise_iff_getElem.1 h.excl i j hlen hjl hlt
        rw [e1, e2] at this; exact this (by rw [hex]; rfl) b hqb hpb
      · have := List.pairwise_iff_getElem.1 h.excl j i hjl hlen hgt
        rw [e1, e2] at this; exact this (by rw [hex]; simp) b hpb hqb
  refine ⟨h.below.trans ⟨hos, htape, hout, hs, fun b hb => hold b (Nat.lt_of_lt_of_le hb h.below.size) (fun e => by have := hlow b e; omega)⟩, fun p hp => ?_, h.apart, fun p hp => ?_, fun p hp r hr => ?_, fun r hr b hb => ?_, ?_⟩
  · exact (hold _ (lt_of_block (h.rows p hp)) (h.sep p hp q hqm)).trans (h.rows p hp)
  · rcases hmem p hp with rfl | ⟨h1, h2⟩
    · exact hq'
    · exact p.stays W W' (fun b hb hlt => hold b hlt (fun e => h2 b e hb)) hs (h.ext p h1)
  · rcases hmem r hr with rfl | ⟨h1, h2⟩
    · intro e
      rcases hf _ e with h3 | h3
      · exact h.sep p hp q hqm h3
      · have := lt_of_block (h.rows p hp); omega
    · exact h.sep p hp r h1
  · rcases hmem r hr with rfl | ⟨h1, h2⟩
    · exact hbd' b hb
    · exact Nat.lt_of_lt_of_le (h.bound r h1 b hb) hs
  · have hnew : ∀ r, r ∈ X → (∀ b, q.foot b → ¬ r.foot b) → ∀ b, q'.foot b → ¬ r.foot b := fun r hr h2 b hb hrb => by
      rcases hf b hb with h3 | h3
      · exact h2 b h3 hrb
      · have := h.bound r hr b hrb; omega
    rw [List.pairwise_iff_getElem]
    intro a b ha hb2 hab
    have hal : a < X.length := by simpa using ha
    have hbl : b < X.length := by simpa using hb2
    have hp := List.pairwise_iff_getElem.1 h.excl a b hal hbl hab
    rw [List.getElem_set, List.getElem_set]
    by_cases e1 : i = a
    · subst e1
      rw [if_pos rfl, if_neg (by omega)]
      rw [e2] at hp
      exact fun _ => hnew _ (List.getElem_mem hbl) (hp (by rw [hex]; rfl))
    · rw [if_neg e1]
      by_cases e3 : i = b
      · subst e3
        rw [if_pos rfl]
        rw [e2] at hp
        exact fun _ c hc hc' => hnew _ (List.getElem_mem hal) (fun c h1 h2 => hp (by rw [hex]; simp) c h2 h1) c hc' hc
      · rw [if_neg e3]; exact hp
section steps
variable {P : Program} {ops : Array Oper} {rest : List Oper} {Q : Exit → Act → World → Prop} {o : Oper} {N : Nat} {T : Array Value} {W : World} {l : List (Nat × Value)}
/-- An operation of a plain region: what it yields and what becomes of the world, by a relation. -/
theorem so_step (hF : Fr N ⟨T, []⟩ l) {d : Nat} (hd : o.dst = some d) (hw : Region.wanted o (yielded ops T) = true) (hdN : d < N) (hl : (l.all fun p => p.1 != d) = true) (R : Value → World → Prop)
    (hop : ∀ K : Act → World → Prop, Hid (∀ v W', R v W' → K ((⟨T, []⟩ : Act).put o.dst v) W') → o.wp P ⟨T, []⟩ W K Q)
    (k : ∀ v T' W', R v W' → Fr N ⟨T', []⟩ ((d, v) :: l) → wpList P ops Q rest ⟨T', []⟩ W') : wpList P ops Q (o :: rest) ⟨T, []⟩ W :=
  wpList_step fun K hK => by
    rw [if_pos hw]
    refine hop K (fun v W' hR => ?_)
    rw [hd]
    exact hK _ _ (k v _ W' hR (hF.put d v hdN hl))
/-- .. that leaves the world as it is. -/
theorem so_pure (hF : Fr N ⟨T, []⟩ l) {d : Nat} (hd : o.dst = some d) (hw : Region.wanted o (yielded ops T) = true) (hdN : d < N) (hl : (l.all fun p => p.1 != d) = true) (v : Value)
    (hop : ∀ K : Act → World → Prop, Hid (K ((⟨T, []⟩ : Act).put o.dst v) W) → o.wp P ⟨T, []⟩ W K Q)
    (k : ∀ T', Fr N ⟨T', []⟩ ((d, v) :: l) → wpList P ops Q rest ⟨T', []⟩ W) : wpList P ops Q (o :: rest) ⟨T, []⟩ W :=
  so_step hF hd hw hdN hl (fun v' W' => v = v' ∧ W = W') (fun K hK => hop K (hK.out _ _ ⟨rfl, rfl⟩)) (fun v' T' W' h hF' => by obtain ⟨rfl, rfl⟩ := h; exact k T' hF')
/-- .. that yields nothing. -/
theorem so_step0 (hd : o.dst = none) (hw : Region.wanted o (yielded ops T) = true) (R : World → Prop)
    (hop : ∀ K : Act → World → Prop, Hid (∀ W', R W' → K ((⟨T, []⟩ : Act).put o.dst undef) W') → o.wp P ⟨T, []⟩ W K Q)
    (k : ∀ W', R W' → wpList P ops Q rest ⟨T, []⟩ W') : wpList P ops Q (o :: rest) ⟨T, []⟩ W :=
  wpList_step fun K hK => by
    rw [if_pos hw]
    refine hop K (fun W' hR => ?_)
    rw [hd]
    exact hK _ _ (k W' hR)
/-- .. that isn't wanted. -/
theorem so_off (hF : Fr N ⟨T, []⟩ l) {d : Nat} (hd : o.dst = some d) (hw : Region.wanted o (yielded ops T) = false) (hdN : d < N) (hl : (l.all fun p => p.1 != d) = true)
    (k : ∀ T', Fr N ⟨T', []⟩ l → wpList P ops Q rest ⟨T', []⟩ W) : wpList P ops Q (o :: rest) ⟨T, []⟩ W :=
  wpList_step fun K hK => by
    rw [if_neg (by rw [hw]; simp), hd]
    refine hK _ _ (k _ ?_)
    have h := hF.put d undef hdN hl
    exact ⟨h.size, h.defers, fun p hp => h.known p (List.mem_cons_of_mem _ hp)⟩
theorem so_offU (hF : Fr N ⟨T, []⟩ l) {d : Nat} (hd : o.dst = some d) (hw : Region.wanted o (yielded ops T) = false) (hdN : d < N) (hl : (l.all fun p => p.1 != d) = true)
    (k : ∀ T', Fr N ⟨T', []⟩ ((d, undef) :: l) → wpList P ops Q rest ⟨T', []⟩ W) : wpList P ops Q (o :: rest) ⟨T, []⟩ W :=
  wpList_step fun K hK => by
    rw [if_neg (by rw [hw]; simp), hd]
    exact hK _ _ (k _ (hF.put d undef hdN hl))
theorem wantedU {l0 : List Oper} {oj : Oper} {j d : Nat} {b : Bool} (hF : Fr N ⟨T, []⟩ l) (hg : o.guard = some (j, b)) (ho : l0[j]? = some oj) (hd : oj.dst = some d) (hdN : d < N) (i : Nat) (hi : l[i]? = some (d, undef)) : Region.wanted o (yielded l0.toArray T) = false := by
  have hlt : d < T.size := by have := hF.size; simp only at this; omega
  have hv : slot T d = undef := hF.known (d, undef) (List.mem_of_getElem? hi)
  have h1 : T[d]? = some undef := by
    rw [Array.getElem?_eq_getElem hlt]
    simp [slot, Array.getD, hlt] at hv
    rw [hv]
  simp only [Region.wanted, hg, yielded, List.getElem?_toArray, ho, Option.bind_some, hd, h1]
  rfl
theorem wantedT {l0 : List Oper} {oj : Oper} {j d : Nat} {b c : Bool} (hF : Fr N ⟨T, []⟩ l) (hg : o.guard = some (j, b)) (ho : l0[j]? = some oj) (hd : oj.dst = some d) (hdN : d < N) (i : Nat) (hi : l[i]? = some (d, .bool c)) : Region.wanted o (yielded l0.toArray T) = (c == b) :=
  wanted_by hg ho hd (by have := hF.size; simp only at this; omega) (hF.known (d, .bool c) (List.mem_of_getElem? hi))
end steps
/-- What holds when a set of operations has been carried out; the world's condition hangs on that set. -/
structure RelInvL (ops : List Oper) (T0 : Array Value) (Rs : List (Value → World → Prop)) (J : (Nat → Bool) → World → Prop) (L : Nat → Bool) (a : Act) (W : World) : Prop where
  defers : a.defers = []
  size : a.tmps.size = T0.size
  st : J L W
  done : ∀ (i : Nat) (o : Oper) (d : Tmp), ops[i]? = some o → L i = true → o.dst = some d → (Rs.getD i (fun _ _ => True)) (slot a.tmps d) W
  rest : ∀ s, (∀ (i : Nat) (o : Oper), ops[i]? = some o → o.dst = some s → L i = false) → slot a.tmps s = slot T0 s
  shut : ∀ (i : Nat) (o : Oper), ops[i]? = some o → L i = true → ∀ e ∈ o.after, Region.binds .any e = true → L e.on = true
/-- What is known of values stays. -/
def Stay (Rs : List (Value → World → Prop)) (W W' : World) : Prop := ∀ p, p ∈ Rs → ∀ v, p v W → p v W'
theorem stayB {Rs : List (Value → World → Prop)} (hst : ∀ p, p ∈ Rs → Stable p) {W W' : World} (hb : Below W.heap.size W W') : Stay Rs W W' := fun p hp v h => hst p hp v W W' hb h
def RelStepL (P : Program) (ops : List Oper) (T0 : Array Value) (Rs : List (Value → World → Prop)) (J : (Nat → Bool) → World → Prop) (Q : Exit → Act → World → Prop) (i : Nat) (o : Oper) : Prop :=
  ∀ (L : Nat → Bool) (T : Array Value) (W : World), T.size = T0.size → J L W → L i = false → (∀ j, (∃ e ∈ o.after, Region.binds .any e = true ∧ e.on = j) → L j = true) →
    (∀ j d, (∃ e ∈ o.after, Region.binds .any e = true ∧ e.on = j) → (ops[j]?.bind (·.dst)) = some d → (Rs.getD j (fun _ _ => True)) (slot T d) W) →
    (∀ s, (∀ (j : Nat) (o' : Oper), ops[j]? = some o' → o'.dst = some s → i = j ∨ ∃ e ∈ o'.after, Region.binds .any e = true ∧ e.on = i) → slot T s = slot T0 s) →
    ∀ K : Act → World → Prop, (∀ v W', (Rs.getD i (fun _ _ => True)) v W' → J (also L i) W' → Stay Rs W W' → K ((⟨T, []⟩ : Act).put o.dst v) W') →
      if Region.wanted o (yielded ops.toArray T) = true then Oper.wp P o ⟨T, []⟩ W K Q else K ((⟨T, []⟩ : Act).put o.dst undef) W
def RelStepsL (P : Program) (ops : List Oper) (T0 : Array Value) (Rs : List (Value → World → Prop)) (J : (Nat → Bool) → World → Prop) (Q : Exit → Act → World → Prop) : Nat → List Oper → Prop
  | _, [] => True
  | i, o :: rest => RelStepL P ops T0 Rs J Q i o ∧ RelStepsL P ops T0 Rs J Q (i + 1) rest
theorem RelStepsL.at_ {P : Program} {ops : List Oper} {T0 : Array Value} {Rs : List (Value → World → Prop)} {J : (Nat → Bool) → World → Prop} {Q : Exit → Act → World → Prop} : ∀ {l : List Oper} {i : Nat}, RelStepsL P ops T0 Rs J Q i l → ∀ (j : Nat) (o : Oper), l[j]? = some o → RelStepL P ops T0 Rs J Q (i + j) o
  | [], _, _, j, o, h => by simp at h
  | x :: l, i, hs, 0, o, h => by simp at h; subst h; exact hs.1
  | x :: l, i, hs, j + 1, o, h => by
    have := RelStepsL.at_ hs.2 j o (by simpa using h)
    rwa [show i + 1 + j = i + (j + 1) by omega] at this
theorem stay_nil {W W' : World} : Stay [] W W' := fun _ h => by cases h
theorem stay_cons {p : Value → World → Prop} {Rs : List (Value → World → Prop)} {W W' : World} (h : ∀ v, p v W → p v W') (hl : Stay Rs W W') : Stay (p :: Rs) W W' := fun q hq v hv => by
  rcases List.mem_cons.1 hq with rfl | hq
  · exact h v hv
  · exact hl q hq v hv
theorem wp_region_relL {P : Program} {l : List Oper} {Q : Exit → Act → World → Prop} {id N : Nat} {T0 : Array Value} {w : World} {F : List (Nat × Value)} (hF : Fr N ⟨T0, []⟩ F) (hm : P.follows .mixedOrders = true) (hp : relOps N l = true)
    (Rs : List (Value → World → Prop)) (J : (Nat → Bool) → World → Prop) (h0 : J (fun _ => false) w.drew) (step : RelStepsL P l T0 Rs J Q 0 l)
    (ds : List Tmp) (hds : l.filterMap (·.dst) = ds)
    (fin : ∀ (T : Array Value) (L : Nat → Bool) W, (∀ i, i < l.length → L i = true) → J L W → T.size = N → (∀ (i : Nat) (o : Oper) (d : Tmp), l[i]? = some o → o.dst = some d → (Rs.getD i (fun _ _ => True)) (slot T d) W) → (∀ s, s ∉ ds → slot T s = slot T0 s) → Q .normal ⟨T, []⟩ W) : (Code.region id l.toArray true).wp P Q ⟨T0, []⟩ w := by
  have hsz : T0.size = N := hF.size
  have look : ∀ (i : Nat) (o : Oper), l[i]? = some o → (∀ e ∈ o.after, Region.binds .any e = true → e.on < i) ∧ (∀ d, o.dst = some d → d < T0.size ∧ ∀ j o', j < i → l[j]? = some o' → o'.dst ≠ some d) := by
    intro i o ho
    have hi : i < l.length := (List.getElem?_eq_some_iff.1 ho).1
    have h1 := List.all_eq_true.1 hp i (List.mem_range.2 hi)
    rw [ho, Bool.and_eq_true] at h1
    refine ⟨fun e he hbd => ?_, fun d hd => ?_⟩
    · have h2 := Array.all_eq_true_iff_forall_mem.1 h1.1 e he
      rw [hbd] at h2
      simpa using h2
    · have h2 := h1.2
      rw [hd] at h2
      simp only [Bool.and_eq_true, decide_eq_true_eq] at h2
      refine ⟨by rw [hsz]; exact h2.1, fun j o' hj ho' => ?_⟩
      have h3 := List.all_eq_true.1 h2.2 j (List.mem_range.2 hj)
      rw [ho'] at h3
      simpa using h3
  have one : ∀ (i j : Nat) (o o' : Oper) (d : Tmp), l[i]? = some o → l[j]? = some o' → o.dst = some d → o'.dst = some d → i = j := by
    intro i j o o' d h1 h2 h3 h4
    rcases Nat.lt_trichotomy i j with h | h | h
    · exact absurd h3 ((look j o' h2).2 d h4 |>.2 i o h h1)
    · exact h
    · exact absurd h4 ((look i o h1).2 d h3 |>.2 j o' h h2)
  refine wp_region_inv l.length (by simp) hm (fun i o ho => (look i o (by simpa using ho)).1) (RelInvL l T0 Rs J) ?_ ?_ ?_
  · exact ⟨rfl, rfl, h0, fun i o d _ h => by simp at h, fun s _ => rfl, fun i o _ h => by simp at h⟩
  · intro i o ho L a W hI hf hd
    have ho' : l[i]? = some o := by simpa using ho
    obtain ⟨T, ds⟩ := a
    obtain rfl : ds = [] := hI.defers
    have hs : T.size = T0.size := hI.size
    have hstep := step.at_ i o ho'
    rw [Nat.zero_add] at hstep
    have next : ∀ v W', (Rs.getD i (fun _ _ => True)) v W' → J (also L i) W' → Stay Rs W W' → RelInvL l T0 Rs J (also L i) ((⟨T, []⟩ : Act).put o.dst v) W' := by
      intro v W' hv hJ hb
      refine ⟨put_defers _ _ _, by rw [put_size]; exact hs, hJ, fun k ok d hk hL hdk => ?_, fun s hno => ?_, fun k ok hk hL e he hbd => ?_⟩
      · by_cases hki : k = i
        · subst hki
          have : ok = o := by rw [ho'] at hk; exact (Option.some.inj hk).symm
          subst this
          rw [hdk, slot_put_same T d v (by rw [hs]; exact ((look k ok ho').2 d hdk).1)]
          exact hv
        · have hL' : L k = true := by simpa [also, hki] using hL
          rw [slot_put_other _ _ _ _ (fun e => hki (one k i ok o d hk ho' hdk e))]
          have hdone := hI.done k ok d hk hL' hdk
          rw [List.getD_eq_getElem?_getD] at hdone ⊢
          cases hr : Rs[k]? with
          | none => simp
          | some p => rw [hr] at hdone; exact hb p (List.mem_of_getElem? hr) _ hdone
      · rw [slot_put_other _ _ _ _ (fun e => by have := hno i o ho' e; simp [also] at this)]
        exact hI.rest s (fun k ok hk hdk => by have := hno k ok hk hdk; simp [also] at this; exact this.2)
      · by_cases hki : k = i
        · subst hki
          have : ok = o := by rw [ho'] at hk; exact (Option.some.inj hk).symm
          subst this
          have := hd e he hbd
          simp [also, this]
        · have hL' : L k = true := by simpa [also, hki] using hL
          have := hI.shut k ok hk hL' e he hbd
          simp [also, this]
    exact hstep L T W hs hI.st hf (fun j hj => by obtain ⟨e, he, hbd, rfl⟩ := hj; exact hd e he hbd) (fun j d hj hdj => by
      obtain ⟨e, he, hbd, rfl⟩ := hj
      cases ho2 : l[e.on]? with
      | none => rw [ho2] at hdj; simp at hdj
      | some oj =>
        rw [ho2] at hdj
        exact hI.done _ oj d ho2 (hd e he hbd) hdj) (fun s hno => hI.rest s (fun j o' hj hdj => by
      rcases hno j o' hj hdj with rfl | ⟨e, he, hbd, hon⟩
      · exact hf
      · cases hL : L j with
        | false => rfl
        | true =>
          have := hI.shut j o' hj hL e he hbd
          rw [hon, hf] at this; cases this)) (RelInvL l T0 Rs J (also L i)) next
  · intro L a W hall hI
    obtain ⟨T, ds'⟩ := a
    obtain rfl : ds' = [] := hI.defers
    refine fin T L W hall hI.st (hI.size.trans hsz) (fun i o d ho hd => hI.done i o d ho (hall i (List.getElem?_eq_some_iff.1 ho).1) hd) (fun s hs => hI.rest s (fun i o ho hd => absurd (by rw [← hds]; exact List.mem_filterMap.2 ⟨o, List.mem_of_getElem? ho, hd⟩) hs))
section ints
variable {P : Program} {o : Oper} {a : Act} {W : World} {K : Act → World → Prop} {Q : Exit → Act → World → Prop} {t ty : TypeId} {x y : Operand} {k k' : IntKind} {m n : Int}
theorem wp_eql (ho : o.op = .binOp .eql t x y ty) (hx : a.eval x = .int k m) (hy : a.eval y = .int k n) (b : Bool) (h : (m = n) ↔ b = true) (hk : Hid (K (a.put o.dst (.bool b)) W)) : o.wp P a W K Q := by
  obtain rfl : b = (decide (m = n)) := by rw [Bool.eq_iff_iff, ← h]; simp
  unfold Oper.wp execOp
  simp [ho, hx, hy, eqGuard, binOp, Op.intCmp]
  exact hk.out
theorem wp_eql_t (ho : o.op = .binOp .eql t x y ty) (hx : a.eval x = .int k m) (hy : a.eval y = .int k n) (h : m = n) (hk : Hid (K (a.put o.dst (.bool true)) W)) : o.wp P a W K Q := wp_eql ho hx hy true ⟨fun _ => rfl, fun _ => h⟩ hk
theorem wp_eql_f (ho : o.op = .binOp .eql t x y ty) (hx : a.eval x = .int k m) (hy : a.eval y = .int k n) (h : ¬ (m = n)) (hk : Hid (K (a.put o.dst (.bool false)) W)) : o.wp P a W K Q := wp_eql ho hx hy false ⟨fun h' => absurd h' h, fun h' => by cases h'⟩ hk
theorem wp_neq (ho : o.op = .binOp .neq t x y ty) (hx : a.eval x = .int k m) (hy : a.eval y = .int k n) (b : Bool) (h : (m ≠ n) ↔ b = true) (hk : Hid (K (a.put o.dst (.bool b)) W)) : o.wp P a W K Q := by
  obtain rfl : b = (!decide (m = n)) := by rw [Bool.eq_iff_iff, ← h]; simp
  unfold Oper.wp execOp
  simp [ho, hx, hy, eqGuard, binOp, Op.intCmp]
  exact hk.out
theorem wp_neq_t (ho : o.op = .binOp .neq t x y ty) (hx : a.eval x = .int k m) (hy : a.eval y = .int k n) (h : m ≠ n) (hk : Hid (K (a.put o.dst (.bool true)) W)) : o.wp P a W K Q := wp_neq ho hx hy true ⟨fun _ => rfl, fun _ => h⟩ hk
theorem wp_neq_f (ho : o.op = .binOp .neq t x y ty) (hx : a.eval x = .int k m) (hy : a.eval y = .int k n) (h : ¬ (m ≠ n)) (hk : Hid (K (a.put o.dst (.bool false)) W)) : o.wp P a W K Q := wp_neq ho hx hy false ⟨fun h' => absurd h' h, fun h' => by cases h'⟩ hk
theorem wp_lss (ho : o.op = .binOp .lss t x y ty) (hx : a.eval x = .int k m) (hy : a.eval y = .int k n) (b : Bool) (h : (m < n) ↔ b = true) (hk : Hid (K (a.put o.dst (.bool b)) W)) : o.wp P a W K Q := by
  obtain rfl : b = (decide (m < n)) := by rw [Bool.eq_iff_iff, ← h]; simp
  unfold Oper.wp execOp
  simp [ho, hx, hy, eqGuard, binOp, Op.intCmp]
  exact hk.out
theorem wp_lss_t (ho : o.op = .binOp .lss t x y ty) (hx : a.eval x = .int k m) (hy : a.eval y = .int k n) (h : m < n) (hk : Hid (K (a.put o.dst (.bool true)) W)) : o.wp P a W K Q := wp_lss ho hx hy true ⟨fun _ => rfl, fun _ => h⟩ hk
theorem wp_lss_f (ho : o.op = .binOp .lss t x y ty) (hx : a.eval x = .int k m) (hy : a.eval y = .int k n) (h : ¬ (m < n)) (hk : Hid (K (a.put o.dst (.bool false)) W)) : o.wp P a W K Q := wp_lss ho hx hy false ⟨fun h' => absurd h' h, fun h' => by cases h'⟩ hk
theorem wp_leq (ho : o.op = .binOp .leq t x y ty) (hx : a.eval x = .int k m) (hy : a.eval y = .int k n) (b : Bool) (h : (m ≤ n) ↔ b = true) (hk : Hid (K (a.put o.dst (.bool b)) W)) : o.wp P a W K Q := by
  obtain rfl : b = (decide (m ≤ n)) := by rw [Bool.eq_iff_iff, ← h]; simp
  unfold Oper.wp execOp
  simp [ho, hx, hy, eqGuard, binOp, Op.intCmp]
  exact hk.out
theorem wp_leq_t (ho : o.op = .binOp .leq t x y ty) (hx : a.eval x = .int k m) (hy : a.eval y = .int k n) (h : m ≤ n) (hk : Hid (K (a.put o.dst (.bool true)) W)) : o.wp P a W K Q := wp_leq ho hx hy true ⟨fun _ => rfl, fun _ => h⟩ hk
theorem wp_leq_f (ho : o.op = .binOp .leq t x y ty) (hx : a.eval x = .int k m) (hy : a.eval y = .int k n) (h : ¬ (m ≤ n)) (hk : Hid (K (a.put o.dst (.bool false)) W)) : o.wp P a W K Q := wp_leq ho hx hy false ⟨fun h' => absurd h' h, fun h' => by cases h'⟩ hk
theorem wp_gtr (ho : o.op = .binOp .gtr t x y ty) (hx : a.eval x = .int k m) (hy : a.eval y = .int k n) (b : Bool) (h : (m > n) ↔ b = true) (hk : Hid (K (a.put o.dst (.bool b)) W)) : o.wp P a W K Q := by
  obtain rfl : b = (decide (m > n)) := by rw [Bool.eq_iff_iff, ← h]; simp
  unfold Oper.wp execOp
  simp [ho, hx, hy, eqGuard, binOp, Op.intCmp]
  exact hk.out
theorem wp_gtr_t (ho : o.op = .binOp .gtr t x y ty) (hx : a.eval x = .int k m) (hy : a.eval y = .int k n) (h : m > n) (hk : Hid (K (a.put o.dst (.bool true)) W)) : o.wp P a W K Q := wp_gtr ho hx hy true ⟨fun _ => rfl, fun _ => h⟩ hk
theorem wp_gtr_f (ho : o.op = .binOp .gtr t x y ty) (hx : a.eval x = .int k m) (hy : a.eval y = .int k n) (h : ¬ (m > n)) (hk : Hid (K (a.put o.dst (.bool false)) W)) : o.wp P a W K Q := wp_gtr ho hx hy false ⟨fun h' => absurd h' h, fun h' => by cases h'⟩ hk
theorem wp_geq (ho : o.op = .binOp .geq t x y ty) (hx : a.eval x = .int k m) (hy : a.eval y = .int k n) (b : Bool) (h : (m ≥ n) ↔ b = true) (hk : Hid (K (a.put o.dst (.bool b)) W)) : o.wp P a W K Q := by
  obtain rfl : b = (decide (m ≥ n)) := by rw [Bool.eq_iff_iff, ← h]; simp
  unfold Oper.wp execOp
  simp [ho, hx, hy, eqGuard, binOp, Op.intCmp]
  exact hk.out
theorem wp_geq_t (ho : o.op = .binOp .geq t x y ty) (hx : a.eval x = .int k m) (hy : a.eval y = .int k n) (h : m ≥ n) (hk : Hid (K (a.put o.dst (.bool true)) W)) : o.wp P a W K Q := wp_geq ho hx hy true ⟨fun _ => rfl, fun _ => h⟩ hk
theorem wp_geq_f (ho : o.op = .binOp .geq t x y ty) (hx : a.eval x = .int k m) (hy : a.eval y = .int k n) (h : ¬ (m ≥ n)) (hk : Hid (K (a.put o.dst (.bool false)) W)) : o.wp P a W K Q := wp_geq ho hx hy false ⟨fun h' => absurd h' h, fun h' => by cases h'⟩ hk
theorem wp_add (ho : o.op = .binOp .add t x y ty) (hx : a.eval x = .int k m) (hy : a.eval y = .int k n) (r : Int) (h : k.wrap (m + n) = r) (hk : Hid (K (a.put o.dst (.int k r)) W)) : o.wp P a W K Q := by
  unfold Oper.wp execOp
  simp [ho, hx, hy, eqGuard, binOp, Op.intArith, h]
  exact hk.out
theorem wp_sub (ho : o.op = .binOp .sub t x y ty) (hx : a.eval x = .int k m) (hy : a.eval y = .int k n) (r : Int) (h : k.wrap (m - n) = r) (hk : Hid (K (a.put o.dst (.int k r)) W)) : o.wp P a W K Q := by
  unfold Oper.wp execOp
  simp [ho, hx, hy, eqGuard, binOp, Op.intArith, h]
  exact hk.out
theorem wp_mul (ho : o.op = .binOp .mul t x y ty) (hx : a.eval x = .int k m) (hy : a.eval y = .int k n) (r : Int) (h : k.wrap (m * n) = r) (hk : Hid (K (a.put o.dst (.int k r)) W)) : o.wp P a W K Q := by
  unfold Oper.wp execOp
  simp [ho, hx, hy, eqGuard, binOp, Op.intArith, h]
  exact hk.out
theorem wp_quo (ho : o.op = .binOp .quo t x y ty) (hx : a.eval x = .int k m) (hy : a.eval y = .int k n) (h0 : n ≠ 0) (r : Int) (h : k.wrap (m.tdiv n) = r) (hk : Hid (K (a.put o.dst (.int k r)) W)) : o.wp P a W K Q := by
  unfold Oper.wp execOp
  simp [ho, hx, hy, eqGuard, binOp, Op.intDiv, h0, h]
  exact hk.out
theorem wp_rem (ho : o.op = .binOp .rem t x y ty) (hx : a.eval x = .int k m) (hy : a.eval y = .int k n) (h0 : n ≠ 0) (r : Int) (h : m.tmod n = r) (hk : Hid (K (a.put o.dst (.int k r)) W)) : o.wp P a W K Q := by
  unfold Oper.wp execOp
  simp [ho, hx, hy, eqGuard, binOp, Op.intDiv, h0, h]
  exact hk.out
theorem wp_shl (ho : o.op = .binOp .shl t x y ty) (hx : a.eval x = .int k m) (hy : a.eval y = .int k' n) (h0 : 0 ≤ n) (r : Int) (h : k.wrap (m * 2 ^ min n.toNat k.bits) = r) (hk : Hid (K (a.put o.dst (.int k r)) W)) : o.wp P a W K Q := by
  unfold Oper.wp execOp
  simp [ho, hx, hy, eqGuard, binOp, Op.shift, show ¬ n < 0 by omega, h]
  exact hk.out
theorem wp_shr (ho : o.op = .binOp .shr t x y ty) (hx : a.eval x = .int k m) (hy : a.eval y = .int k' n) (h0 : 0 ≤ n) (r : Int) (h : m.fdiv (2 ^ min n.toNat k.bits) = r) (hk : Hid (K (a.put o.dst (.int k r)) W)) : o.wp P a W K Q := by
  unfold Oper.wp execOp
  simp [ho, hx, hy, eqGuard, binOp, Op.shift, show ¬ n < 0 by omega, h]
  exact hk.out
theorem wp_int (ho : o.op = .convert t ty x) (hx : a.eval x = .int k n) {d : TypeDesc} (hs : P.underlying t = some d) (hd : P.underlying ty = some (.int k')) (r : Int) (h : k'.wrap n = r) (hk : Hid (K (a.put o.dst (.int k' r)) W)) : o.wp P a W K Q := by
  unfold Oper.wp execOp
  simp [ho, hx, convert, run_underlying hs, run_underlying hd, Conv.intToInt, h]
  exact hk.out
theorem wp_move {v : Value} (ho : o.op = .move x) (hx : a.eval x = v) (hk : Hid (K (a.put o.dst v) W)) : o.wp P a W K Q := by
  unfold Oper.wp execOp
  simp only [ho, hx]
  exact hk.out
theorem wp_assign {v : Value} (ho : o.op = .assign x) (hx : a.eval x = v) (hk : Hid (K (a.put o.dst v) W)) : o.wp P a W K Q := by
  unfold Oper.wp execOp
  simp only [ho, hx]
  exact hk.out
theorem wp_pick {c : Operand} {b : Bool} {v : Value} (ho : o.op = .pick c x y) (hc : a.eval c = .bool b) (hv : a.eval (if b then x else y) = v) (hk : Hid (K (a.put o.dst v) W)) : o.wp P a W K Q := by
  unfold Oper.wp execOp
  cases b <;> simp only [Bool.false_eq_true, if_true, if_false] at hv <;> simp [ho, hc, hv, asBool] <;> exact hk.out
theorem wp_extract {i : Nat} {vs : Array Value} {v : Value} (ho : o.op = .extract x i) (hx : a.eval x = .tuple vs) (hi : vs[i]? = some v) (hk : Hid (K (a.put o.dst v) W)) : o.wp P a W K Q := by
  unfold Oper.wp execOp
  simp [ho, hx, Instr.extract, hi]
  exact hk.out
theorem wp_len {A : Option Addr} {l c : Nat} {e : TypeId} {tt : TypeId} (ho : o.op = .call { callee := .builtin .len, args := #[x], argTypes := #[tt] }) (hx : a.eval x = .slice A l c) (hu : P.underlying tt = some (.slice e)) (hk : Hid (K (a.put o.dst (.int .i64 (l : Int))) W)) : o.wp P a W K Q := by
  unfold Oper.wp execOp
  simp [ho, hx, resolve, invoke, builtin, Builtin.len_, run_underlying hu, goInt]
  exact hk.out
theorem wp_lens {s : ByteArray} {tt : TypeId} (ho : o.op = .call { callee := .builtin .len, args := #[x], argTypes := #[tt] }) (hx : a.eval x = .string s) (hu : P.underlying tt = some .string) (hk : Hid (K (a.put o.dst (.int .i64 (s.size : Int))) W)) : o.wp P a W K Q := by
  unfold Oper.wp execOp
  simp [ho, hx, resolve, invoke, builtin, Builtin.len_, run_underlying hu, goInt]
  exact hk.out
theorem wp_ixs {b off l c s : Nat} {e : TypeId} (ho : o.op = .indexAddr t x y) (hx : a.eval x = .slice (some ⟨b, off, none⟩) l c) (hy : a.eval y = .int k m) (hu : P.underlying t = some (.slice e)) (hs : ∀ w, (Go.sizeOf e).run P w = .ok s w) (h0 : 0 ≤ m) (h1 : m < l) (of : Nat) (hof : of = off + m.toNat * s)
    (hk : Hid (K (a.put o.dst (.pointer (some ⟨b, of, none⟩))) W)) : o.wp P a W K Q := by
  have hadd : (⟨b, off, none⟩ : Addr).add (m.toNat * s) = ⟨b, of, none⟩ := by unfold Addr.add; split <;> simp_all
  unfold Oper.wp execOp
  simp [ho, hx, hy, Instr.indexAt, asIntOf, run_underlying hu, hs, h0, h1, hadd]
  exact hk.out
theorem wp_ld {g of : Nat} {d : TypeDesc} {v : Value} (ho : o.op = .load t x) (hx : a.eval x = .pointer (some ⟨g, of, none⟩)) (hu : P.underlying t = some d) (hd : (match d with | .struct _ | .array _ _ => false | _ => true) = true) (hc : W.cell? ⟨g, of, none⟩ = some v) (hk : Hid (K (a.put o.dst v) W)) : o.wp P a W K Q := by
  have e : (loadVar t ⟨g, of, none⟩).run P W = .ok v W := by
    unfold loadVar isAgg
    cases d <;> simp [run_underlying hu, hc] at hd ⊢
  unfold Oper.wp execOp
  simp [ho, hx, Instr.loadAt, Instr.sureAddr, e]
  exact hk.out
theorem bytes_eq (s u : ByteArray) : (s.toList == u.toList) = decide (s = u) := by
  rw [Bool.eq_iff_iff]; simp [ByteArray.toList_eq]
  exact ⟨fun h => ByteArray.ext h, fun h => by rw [h]⟩
theorem wp_eqs {s u : ByteArray} (ho : o.op = .binOp .eql t x y ty) (hx : a.eval x = .string s) (hy : a.eval y = .string u) (b : Bool) (h : s = u ↔ b = true) (hk : Hid (K (a.put o.dst (.bool b)) W)) : o.wp P a W K Q := by
  obtain rfl : b = decide (s = u) := by rw [Bool.eq_iff_iff, ← h]; simp
  unfold Oper.wp execOp
  simp [ho, hx, hy, eqGuard, binOp, Op.stringOp, bytes_eq]
  exact hk.out
theorem wp_nes {s u : ByteArray} (ho : o.op = .binOp .neq t x y ty) (hx : a.eval x = .string s) (hy : a.eval y = .string u) (b : Bool) (h : s ≠ u ↔ b = true) (hk : Hid (K (a.put o.dst (.bool b)) W)) : o.wp P a W K Q := by
  obtain rfl : b = !decide (s = u) := by rw [Bool.eq_iff_iff, ← h]; simp
  unfold Oper.wp execOp
  simp [ho, hx, hy, eqGuard, binOp, Op.stringOp, bytes_eq]
  exact hk.out
theorem wp_adds {s u : ByteArray} (ho : o.op = .binOp .add t x y ty) (hx : a.eval x = .string s) (hy : a.eval y = .string u) (hn : s.size + u.size ≤ 9223372036854775807) (hk : Hid (K (a.put o.dst (.string (s ++ u))) W)) : o.wp P a W K Q := by
  unfold Oper.wp execOp
  have h1 : ¬ (((s.size + u.size : Nat) : Int) > IntKind.i64.max) := by simp [IntKind.max, IntKind.bits, IntKind.signed]; omega
  simp only [ho, hx, hy, eqGuard, binOp, Op.stringOp, h1, if_false, Sem.run_bind, Sem.run_pure, Result.andThen_ok]
  exact hk.out
theorem wp_eqa {xs ys : Array Value} (ho : o.op = .binOp .eql t x y ty) (hx : a.eval x = .agg xs) (hy : a.eval y = .agg ys) (hgd : P.eqGuardType P.depth t = false) (r : Bool) (hr : (Op.equalIn 10000 t (.agg xs) (.agg ys)).run P W = .ok r W) (hk : Hid (K (a.put o.dst (.bool r)) W)) : o.wp P a W K Q := by
  unfold Oper.wp execOp
  have e : (Op.equal t (.agg xs) (.agg ys)).run P W = .ok r W := hr
  simp [ho, hx, hy, eqGuard, binOp, hgd, e]
  exact hk.out
theorem wp_nea {xs ys : Array Value} (ho : o.op = .binOp .neq t x y ty) (hx : a.eval x = .agg xs) (hy : a.eval y = .agg ys) (hgd : P.eqGuardType P.depth t = false) (r : Bool) (hr : (Op.equalIn 10000 t (.agg xs) (.agg ys)).run P W = .ok r W) (hk : Hid (K (a.put o.dst (.bool (!r))) W)) : o.wp P a W K Q := by
  unfold Oper.wp execOp
  have e : (Op.equal t (.agg xs) (.agg ys)).run P W = .ok r W := hr
  simp [ho, hx, hy, eqGuard, binOp, hgd, e]
  exact hk.out
theorem wp_not {b : Bool} {u : TypeId} (ho : o.op = .unOp .not u x) (hx : a.eval x = .bool b) (hk : Hid (K (a.put o.dst (.bool (!b))) W)) : o.wp P a W K Q := by
  unfold Oper.wp execOp
  simp [ho, hx, Op.unary]
  exact hk.out
/-- May a call go into it? -/
def callable (fn : Func) : Bool := !(fn.name == "runtime.NumGoroutine") && fn.body.isSome
theorem wp_call {f : FuncId} {fn : Func} {xs : Array Operand} {tys : Array TypeId} {vs : Array Value} (ho : o.op = .call { callee := .value (.func f), args := xs, argTypes := tys }) (hf : P.funcs[f]? = some fn) (hc : callable fn = true) (hv : xs.map a.eval = vs)
    (h : Calls P f vs W (fun e w' => ∃ v, e = .returned v ∧ K (a.put o.dst v) w')) : o.wp P a W K Q := by
  simp only [callable, Bool.and_eq_true, Bool.not_eq_true', Option.isSome_iff_exists] at hc
  obtain ⟨h1, c, h2⟩ := hc
  unfold Oper.wp execOp
  have e : (do let d ← resolve a.eval { callee := .value (.func f), args := xs, argTypes := tys } o.type; invoke d.target d.args : Sem Next).run P W = .ok (.enter f vs) W := by
    have h1' : ¬ fn.name = "runtime.NumGoroutine" := by simpa using h1
    simp [resolve, Act.eval, Deferred.ofValue, invoke, callFunc, hf, h1', h2, hv]
  simp only [ho]
  rw [e]
  exact h.mono (fun e w' ⟨v, he, hk⟩ => by subst he; exact hk)
theorem ev0 : (#[] : Array Operand).map a.eval = #[] := by simp
theorem ev1 {x1 : Operand} {v1 : Value} (h1 : a.eval x1 = v1) : #[x1].map a.eval = #[v1] := by simp [h1]
theorem ev2 {x1 x2 : Operand} {v1 v2 : Value} (h1 : a.eval x1 = v1) (h2 : a.eval x2 = v2) : #[x1, x2].map a.eval = #[v1, v2] := by simp [h1, h2]
theorem ev3 {x1 x2 x3 : Operand} {v1 v2 v3 : Value} (h1 : a.eval x1 = v1) (h2 : a.eval x2 = v2) (h3 : a.eval x3 = v3) : #[x1, x2, x3].map a.eval = #[v1, v2, v3] := by simp [h1, h2, h3]
end ints
section ways
variable {P : Program} {Q : Exit → Act → World → Prop} {a : Act} {w : World} {K : Act → World → Prop} {id : Nat}
theorem then_normal (h : K a w) : Exit.then K Q .normal a w := h
theorem then_ret (h : Q .ret a w) : Exit.then K Q .ret a w := h
theorem then_exit (h : Q (.exit id) a w) : Exit.then K Q (.exit id) a w := h
theorem block_normal (h : Q .normal a w) : Exit.inBlock id Q .normal a w := h
theorem block_ret (h : Q .ret a w) : Exit.inBlock id Q .ret a w := h
theorem block_exit (h : Q .normal a w) : Exit.inBlock id Q (.exit id) a w := by simp only [Exit.inBlock, if_true]; exact h
theorem block_exit_other {id' : Nat} (hne : id' ≠ id) (h : Q (.exit id') a w) : Exit.inBlock id Q (.exit id') a w := by simp only [Exit.inBlock, if_neg hne]; exact h
theorem enter {f : FuncId} {fn : Func} {c : Code} {args : Array Value} {R : Ending → World → Prop} (N : Nat) (l : List (Nat × Value)) (hf : P.funcs[f]? = some fn) (hb : fn.body = some c)
    (hN : args.size + (fn.ntmps - args.size) = N) (hl : (l.map fun p => args[p.1]?) = l.map fun p => some p.2)
    {L : List (Nat × Obj)} {X : List Xt} (hS : Sx w L X w) (h : ∀ T W, Fr N ⟨T, []⟩ l → Sx w L X W → c.wp P (bodyPost P fn R) ⟨T, []⟩ W) : Calls P f args w R :=
  calls_of_wp hf hb (h _ w ⟨by simpa using hN, rfl, fun p hp => by
    have h1 := List.map_inj_left.1 hl p hp
    have hlt : p.1 < args.size := (Array.getElem?_eq_some_iff.1 h1).1
    simp only [slot, Array.getD_eq_getD_getElem?]
    rw [Array.getElem?_append_left hlt, h1]; rfl⟩ hS)
theorem results_c3 {fn : Func} {T : Array Value} {p g q r : Nat} {ty : TypeId} {v u x : Value} (h : fn.results = #[.cell p ty, .tmp q, .tmp r]) (hp : T[p]?.getD undef = .pointer (some ⟨g, 0, none⟩)) (hc : (loadVar ty ⟨g, 0, none⟩).run P w = .ok v w) (hq : T[q]?.getD undef = u) (hr : T[r]?.getD undef = x) : (results fn T).run P w = .ok (.tuple #[v, u, x]) w := by
  simp [results, h, hp, asAddr, hc, hq, hr]
theorem results_t1 {fn : Func} {T : Array Value} {p : Nat} {v : Value} (h : fn.results = #[.tmp p]) (hp : T[p]?.getD undef = v) : (results fn T).run P w = .ok v w := by
  simp [results, h, hp]
theorem results_t2 {fn : Func} {T : Array Value} {p q : Nat} {v u : Value} (h : fn.results = #[.tmp p, .tmp q]) (hp : T[p]?.getD undef = v) (hq : T[q]?.getD undef = u) : (results fn T).run P w = .ok (.tuple #[v, u]) w := by
  simp [results, h, hp, hq]
theorem results_t3 {fn : Func} {T : Array Value} {p q r : Nat} {v u x : Value} (h : fn.results = #[.tmp p, .tmp q, .tmp r]) (hp : T[p]?.getD undef = v) (hq : T[q]?.getD undef = u) (hr : T[r]?.getD undef = x) : (results fn T).run P w = .ok (.tuple #[v, u, x]) w := by
  simp [results, h, hp, hq, hr]
theorem results_t4 {fn : Func} {T : Array Value} {p q r s : Nat} {v u x y : Value} (h : fn.results = #[.tmp p, .tmp q, .tmp r, .tmp s]) (hp : T[p]?.getD undef = v) (hq : T[q]?.getD undef = u) (hr : T[r]?.getD undef = x) (hs : T[s]?.getD undef = y) : (results fn T).run P w = .ok (.tuple #[v, u, x, y]) w := by
  simp [results, h, hp, hq, hr, hs]
end ways
section short
variable {P : Program} {ops : Array Oper} {rest : List Oper} {Q : Exit → Act → World → Prop} {o : Oper} {N : Nat} {T : Array Value} {W : World} {l : List (Nat × Value)}
/-- so_pure in short. -/
theorem so_p (hF : Fr N ⟨T, []⟩ l) {d : Nat} (v : Value) (hop : ∀ K : Act → World → Prop, Hid (K ((⟨T, []⟩ : Act).put o.dst v) W) → o.wp P ⟨T, []⟩ W K Q)
    (k : ∀ T', Fr N ⟨T', []⟩ ((d, v) :: l) → wpList P ops Q rest ⟨T', []⟩ W) (hw : Region.wanted o (yielded ops T) = true := by exact wanted_none rfl _)
    (hd : o.dst = some d := by rfl) (hdN : d < N := by decide) (hl : (l.all fun p => p.1 != d) = true := by rfl) : wpList P ops Q (o :: rest) ⟨T, []⟩ W := so_pure hF hd hw hdN hl v hop k
/-- A move of the frame's i-th value. -/
theorem so_mv (hF : Fr N ⟨T, []⟩ l) (i : Nat) {s d : Nat} {v : Value} (k : ∀ T', Fr N ⟨T', []⟩ ((d, v) :: l) → wpList P ops Q rest ⟨T', []⟩ W) (hw : Region.wanted o (yielded ops T) = true := by exact wanted_none rfl _)
    (ho : o.op = .move (.tmp s) := by rfl) (hi : l[i]? = some (s, v) := by rfl) (hd : o.dst = some d := by rfl) (hdN : d < N := by decide) (hl : (l.all fun p => p.1 != d) = true := by rfl) : wpList P ops Q (o :: rest) ⟨T, []⟩ W :=
  so_pure hF hd hw hdN hl v (fun _ hK => wp_move ho (hF.op i hi) hK) k
theorem so_as (hF : Fr N ⟨T, []⟩ l) (i : Nat) {s d : Nat} {v : Value} (k : ∀ T', Fr N ⟨T', []⟩ ((d, v) :: l) → wpList P ops Q rest ⟨T', []⟩ W) (hw : Region.wanted o (yielded ops T) = true := by exact wanted_none rfl _)
    (ho : o.op = .assign (.tmp s) := by rfl) (hi : l[i]? = some (s, v) := by rfl) (hd : o.dst = some d := by rfl) (hdN : d < N := by decide) (hl : (l.all fun p => p.1 != d) = true := by rfl) : wpList P ops Q (o :: rest) ⟨T, []⟩ W :=
  so_pure hF hd hw hdN hl v (fun _ hK => wp_assign ho (hF.op i hi) hK) k
theorem so_ex (hF : Fr N ⟨T, []⟩ l) (i : Nat) {s d j : Nat} {vs : Array Value} {v : Value} (k : ∀ T', Fr N ⟨T', []⟩ ((d, v) :: l) → wpList P ops Q rest ⟨T', []⟩ W) (hw : Region.wanted o (yielded ops T) = true := by exact wanted_none rfl _)
    (ho : o.op = .extract (.tmp s) j := by rfl) (hi : l[i]? = some (s, .tuple vs) := by rfl) (hv : vs[j]? = some v := by rfl) (hd : o.dst = some d := by rfl) (hdN : d < N := by decide) (hl : (l.all fun p => p.1 != d) = true := by rfl) : wpList P ops Q (o :: rest) ⟨T, []⟩ W :=
  so_pure hF hd hw hdN hl v (fun _ hK => wp_extract ho (hF.op i hi) hv hK) k
theorem dE {k : Nat} {v : Value} (h : slot T k = v) : (⟨T, []⟩ : Act).eval (.tmp k) = v := h
theorem dS {ops : List Oper} {i : Nat} {T0 : Array Value} (hs : ∀ s, (∀ (j : Nat) (o' : Oper), ops[j]? = some o' → o'.dst = some s → i = j ∨ ∃ e ∈ o'.after, Region.binds .any e = true ∧ e.on = i) → slot T s = slot T0 s)
    (hF : Fr N ⟨T0, []⟩ l) (q : Nat) {k : Nat} {v : Value} (hi : l[q]? = some (k, v) := by rfl) (hl : lateB ops i k = true := by rfl) : (⟨T, []⟩ : Act).eval (.tmp k) = v :=
  (hs k (late hl)).trans (hF.known _ (List.mem_of_getElem? hi))
variable {lo : List Oper} {T0 : Array Value} {Rs : List (Value → World → Prop)} {J : (Nat → Bool) → World → Prop} {i : Nat}
/-- An operation of a drawn region that no guard holds. -/
theorem dr_un (hst : ∀ p, p ∈ Rs → Stable p) (h : ∀ (T : Array Value) (W : World) (L : Nat → Bool), T.size = T0.size → J L W →
    (∀ j d, (∃ e ∈ o.after, Region.binds .any e = true ∧ e.on = j) → (lo[j]?.bind (·.dst)) = some d → (Rs.getD j (fun _ _ => True)) (slot T d) W) →
    (∀ s, (∀ (j : Nat) (o' : Oper), lo[j]? = some o' → o'.dst = some s → i = j ∨ ∃ e ∈ o'.after, Region.binds .any e = true ∧ e.on = i) → slot T s = slot T0 s) →
    ∀ K : Act → World → Prop, (∀ v W', (Rs.getD i (fun _ _ => True)) v W' → J (also L i) W' → Below W.heap.size W W' → K ((⟨T, []⟩ : Act).put o.dst v) W') → Oper.wp P o ⟨T, []⟩ W K Q)
    (hg : o.guard = none := by rfl) : RelStepL P lo T0 Rs J Q i o := by
  intro L T W hT hJ hL0 hLd hd hs K hK
  rw [if_pos (wanted_none hg _)]
  exact h T W L hT hJ hd hs K (fun v W' h1 h2 h3 => hK v W' h1 h2 (stayB hst h3))
/-- .. whose guard holds. -/
theorem dr_on (hst : ∀ p, p ∈ Rs → Stable p) {F : List (Nat × Value)} (hF : Fr N ⟨T0, []⟩ F) (j : Nat) {d : Nat} {oj : Oper} {b : Bool} (he : ∃ e ∈ o.after, Region.binds .any e = true ∧ e.on = j) (h : ∀ (T : Array Value) (W : World) (L : Nat → Bool), T.size = T0.size → J L W →
    (∀ j d, (∃ e ∈ o.after, Region.binds .any e = true ∧ e.on = j) → (lo[j]?.bind (·.dst)) = some d → (Rs.getD j (fun _ _ => True)) (slot T d) W) →
    (∀ s, (∀ (j : Nat) (o' : Oper), lo[j]? = some o' → o'.dst = some s → i = j ∨ ∃ e ∈ o'.after, Region.binds .any e = true ∧ e.on = i) → slot T s = slot T0 s) →
    ∀ K : Act → World → Prop, (∀ v W', (Rs.getD i (fun _ _ => True)) v W' → J (also L i) W' → Below W.heap.size W W' → K ((⟨T, []⟩ : Act).put o.dst v) W') → Oper.wp P o ⟨T, []⟩ W K Q)
    (hg : o.guard = some (j, b) := by rfl) (ho : lo[j]? = some oj := by rfl) (hdj : oj.dst = some d := by rfl) (hR : Rs.getD j (fun _ _ => True) = (fun v _ => v = .bool b) := by rfl) (hdN : d < N := by decide) : RelStepL P lo T0 Rs J Q i o := by
  intro L T W hT hJ hL0 hLd hd hs K hK
  have fg : slot T d = .bool b := by
    have h1 := hd j d he (by rw [ho]; exact hdj)
    rw [hR] at h1; exact h1
  rw [wanted_by (j := j) (d := d) hg ho hdj (Nat.lt_of_lt_of_eq hdN (hT.trans hF.size).symm) fg, if_pos (by simp)]
  exact h T W L hT hJ hd hs K (fun v W' h1 h2 h3 => hK v W' h1 h2 (stayB hst h3))
/-- .. whose guard doesn't hold. -/
theorem dr_off {F : List (Nat × Value)} (hF : Fr N ⟨T0, []⟩ F) (j : Nat) {d : Nat} {oj : Oper} {b c : Bool} (he : ∃ e ∈ o.after, Region.binds .any e = true ∧ e.on = j) (hR : Rs.getD j (fun _ _ => True) = (fun v _ => v = .bool c))
    (hg : o.guard = some (j, b) := by rfl) (hcb : (c == b) = false := by rfl) (ho : lo[j]? = some oj := by rfl) (hdj : oj.dst = some d := by rfl) (hdN : d < N := by decide)
    (hRi : Rs.getD i (fun _ _ => True) = (fun _ _ => True) := by rfl) (hJJ : ∀ L W, J L W → J (also L i) W := by exact fun _ _ h => h) : RelStepL P lo T0 Rs J Q i o := by
  intro L T W hT hJ hL0 hLd hd hs K hK
  have fg : slot T d = .bool c := by
    have h1 := hd j d he (by rw [ho]; exact hdj)
    rw [hR] at h1; exact h1
  rw [wanted_by (j := j) (d := d) hg ho hdj (Nat.lt_of_lt_of_eq hdN (hT.trans hF.size).symm) fg, if_neg (by rw [hcb]; decide)]
  refine hK undef W ?_ (hJJ _ _ hJ) (fun _ _ _ h => h)
  rw [hRi]; exact trivial
end short
end Go.Proofs.Ytbjcigokimieoaa
namespace Go.Proofs.Ytbjcigokimieoaa
open Go.RowKit
/-- Entry i of a list; 0 behind the last one. (Closed to simp.) -/
def nth (l : List Nat) (i : Nat) : Nat := l.getD i 0
theorem nth_end (l : List Nat) (i : Nat) (h : l.length ≤ i) : nth l i = 0 := by
  unfold nth; rw [List.getD_eq_getElem?_getD, List.getElem?_eq_none h]; rfl
theorem nth_get (l : List Nat) (i : Nat) (h : i < l.length) : l[i]? = some (nth l i) := by
  unfold nth; rw [List.getD_eq_getElem?_getD, List.getElem?_eq_getElem h]; rfl
theorem nth_set (l : List Nat) (i j x : Nat) (h : i < l.length) : nth (l.set i x) j = if i = j then x else nth l j := by
  unfold nth
  rw [List.getD_eq_getElem?_getD, List.getD_eq_getElem?_getD, List.getElem?_set]
  split
  · next e => subst e; first | rfl | (rw [if_pos h]; rfl)
  · rfl
theorem nth_append_left (a b : List Nat) (i : Nat) (h : i < a.length) : nth (a ++ b) i = nth a i := by
  unfold nth; rw [List.getD_eq_getElem?_getD, List.getD_eq_getElem?_getD, List.getElem?_append_left h]
theorem nth_append_right (a b : List Nat) (i : Nat) (h : a.length ≤ i) : nth (a ++ b) i = nth b (i - a.length) := by
  unfold nth; rw [List.getD_eq_getElem?_getD, List.getD_eq_getElem?_getD, List.getElem?_append_right h]
theorem nth_ext (a b : List Nat) (h : a.length = b.length) (he : ∀ i, i < a.length → nth a i = nth b i) : a = b := by
  apply List.ext_getElem? 
  intro i
  by_cases hi : i < a.length
  · rw [nth_get a i hi, nth_get b i (by omega), he i hi]
  · rw [List.getElem?_eq_none (by omega), List.getElem?_eq_none (by omega)]
theorem nth_range (f : Nat → Nat) (n i : Nat) (h : i < n) : nth ((List.range n).map f) i = f i := by
  unfold nth; rw [List.getD_eq_getElem?_getD, List.getElem?_map, List.getElem?_range h]; rfl
theorem nth_drop (l : List Nat) (k i : Nat) : nth (l.drop k) i = nth l (k + i) := by
  unfold nth; rw [List.getD_eq_getElem?_getD, List.getD_eq_getElem?_getD, List.getElem?_drop]
theorem nth_mem (l : List Nat) (i : Nat) (h : i < l.length) : nth l i ∈ l := List.mem_of_getElem? (nth_get l i h)
/-- A number of 32 bits turned right. -/
def rotr (x n : Nat) : Nat := (x / 2 ^ n ||| x * 2 ^ (32 - n)) % 4294967296
def sg0 (x : Nat) : Nat := (rotr x 7 ^^^ rotr x 18) ^^^ x / 8
def sg1 (x : Nat) : Nat := (rotr x 17 ^^^ rotr x 19) ^^^ x / 1024
def bg1 (x : Nat) : Nat := (rotr x 6 ^^^ rotr x 11) ^^^ rotr x 25
def bg0 (x : Nat) : Nat := (rotr x 2 ^^^ rotr x 13) ^^^ rotr x 22
def chs (e f g : Nat) : Nat := (e &&& f) ^^^ ((4294967295 - e) &&& g)
def maj (a b c : Nat) : Nat := ((a &&& b) ^^^ (a &&& c)) ^^^ (b &&& c)
/-- One of each round. -/
def KL : List Nat := [1116352408, 1899447441, 3049323471, 3921009573, 961987163, 1508970993, 2453635748, 2870763221, 3624381080, 310598401, 607225278, 1426881987, 1925078388, 2162078206, 2614888103, 3248222580, 3835390401, 4022224774, 264347078, 604807628, 770255983, 1249150122, 1555081692, 1996064986, 2554220882, 2821834349, 2952996808, 3210313671, 3336571891, 3584528711, 113926993, 338241895, 666307205, 773529912, 1294757372, 1396182291, 1695183700, 1986661051, 2177026350, 2456956037, 2730485921, 2820302411, 3259730800, 3345764771, 3516065817, 3600352804, 4094571909, 275423344, 430227734, 506948616, 659060556, 883997877, 958139571, 1322822218, 1537002063, 1747873779, 1955562222, 2024104815, 2227730452, 2361852424, 2428436474, 2756734187, 3204031479, 3329325298]
/-- The numbers as they begin. -/
def HL : List Nat := [1779033703, 3144134277, 1013904242, 2773480762, 1359893119, 2600822924, 528734635, 1541459225]
/-- The word of four bytes. -/
def word (f : Nat → Nat) (i : Nat) : Nat := ((f (4 * i) * 256 + f (4 * i + 1)) * 256 + f (4 * i + 2)) * 256 + f (4 * i + 3)
/-- The word that comes of those before it. -/
def nextw (l : List Nat) (n : Nat) : Nat := (((nth l n + nth l (n + 9)) % 4294967296 + sg0 (nth l (n + 1))) % 4294967296 + sg1 (nth l (n + 14))) % 4294967296
def sch (f : Nat → Nat) : Nat → List Nat
  | 0 => (List.range 16).map (word f)
  | n + 1 => sch f n ++ [nextw (sch f n) n]
/-- One round. -/
def tt1 (k w : Nat) (x : List Nat) : Nat := ((((nth x 7 + bg1 (nth x 4)) % 4294967296 + chs (nth x 4) (nth x 5) (nth x 6)) % 4294967296 + k) % 4294967296 + w) % 4294967296
def tt2 (x : List Nat) : Nat := (bg0 (nth x 0) + maj (nth x 0) (nth x 1) (nth x 2)) % 4294967296
def rnd (k w : Nat) (x : List Nat) : List Nat := [(tt1 k w x + tt2 x) % 4294967296, nth x 0, nth x 1, nth x 2, (nth x 3 + tt1 k w x) % 4294967296, nth x 4, nth x 5, nth x 6]
def rnds (ws x : List Nat) : Nat → List Nat
  | 0 => x
  | n + 1 => rnd (nth KL n) (nth ws n) (rnds ws x n)
def addL (x y : List Nat) : List Nat := (List.range 8).map fun i => (nth x i + nth y i) % 4294967296
/-- The eight numbers behind a piece. -/
def mixS (x : List Nat) (f : Nat → Nat) : List Nat := addL x (rnds (sch f 48) x 64)
/-- Behind n pieces. -/
def runB (x bs : List Nat) : Nat → List Nat
  | 0 => x
  | n + 1 => mixS (runB x bs n) fun i => nth bs (64 * n + i)
def outB (x : List Nat) : List Nat := (List.range 32).map fun j => nth x (j / 4) / 2 ^ (24 - 8 * (j % 4)) % 256
theorem addL_len (x y : List Nat) : (addL x y).length = 8 := by simp [addL]
/-- Each one below 2^32. -/
def W32 (l : List Nat) : Prop := ∀ i, nth l i < 4294967296
theorem W32.nil : W32 [] := fun i => by rw [nth_end [] i (by simp)]; decide
theorem outB_len (x : List Nat) : (outB x).length = 32 := by simp [outB]
end Go.Proofs.Ytbjcigokimieoaa
namespace Go.Proofs.Ytbjcigokimieoaa
open Go.RowKit
/-- Words as cells. -/
def wcells (K : IntKind) (l : List Nat) : Array Value := (l.map fun n => Value.int K ((n : Nat) : Int)).toArray
theorem wcells_get (K : IntKind) (l : List Nat) (i : Nat) (h : i < l.length) : (wcells K l)[i]? = some (.int K ((nth l i : Nat) : Int)) := by
  simp only [wcells, List.getElem?_toArray, List.getElem?_map, nth_get l i h, Option.map_some]
theorem wcells_size (K : IntKind) (l : List Nat) : (wcells K l).size = l.length := by simp [wcells]
theorem wcells_set (K : IntKind) (l : List Nat) (i x : Nat) : (wcells K l).setIfInBounds i (.int K ((x : Nat) : Int)) = wcells K (l.set i x) := by
  simp only [wcells, List.setIfInBounds_toArray, List.map_set]
theorem set_w {K : IntKind} {W : World} {g : Nat} {t : TypeId} {l : List Nat} (h : W.heap[g]? = some (.cells (wcells K l) t (0, 0))) (i x : Nat) : (W.setCell ⟨g, i, none⟩ (.int K ((x : Nat) : Int))).heap[g]? = some (.cells (wcells K (l.set i x)) t (0, 0)) := by
  have h0 := heap_setCell_same W g i _ _ (.int K ((x : Nat) : Int)) h
  rw [h0, wcells_set]
end Go.Proofs.Ytbjcigokimieoaa
namespace Go.Proofs.Ytbjcigokimieoaa
open Go.RowKit
theorem wcells_one (K : IntKind) (l : List Nat) : (wcells K l).all (·.oneCell') = true := by simp [wcells, Value.oneCell']
end Go.Proofs.Ytbjcigokimieoaa
namespace Go.Proofs.Ytbjcigokimieoaa
open Go.RowKit
/-- n bytes lie in block b from o on: byte i is f i. -/
structure Bt (W : World) (b o n : Nat) (f : Nat → Nat) : Prop where
  lt : b < W.heap.size
  cell : ∀ i, i < n → W.cell? ⟨b, o + i, none⟩ = some (.int .u8 ((f i : Nat) : Int))
theorem Bt.keep {W W' : World} {b o n : Nat} {f : Nat → Nat} (h : Bt W b o n f) (hb : Below W.heap.size W W') : Bt W' b o n f :=
  ⟨Nat.lt_of_lt_of_le h.lt hb.size, fun i hi => (hb.cell (p := ⟨b, o + i, none⟩) h.lt).trans (h.cell i hi)⟩
/-- The value of a slice. -/
@[reducible] def bsv (b o n c : Nat) : Value := .slice (some ⟨b, o, none⟩) n c
/-- What spread's loops hold: the first n words. -/
structure SpInv (w : World) (S : List Nat) (n : Nat) (wr : World) : Prop where
  below : Below w.heap.size w wr
  res : wr.heap[w.heap.size]? = some (.cells (wcells .u32 (List.replicate 64 0)) 82 (0, 0))
  row : ∃ l : List Nat, l.length = 64 ∧ (∀ j, j < n → nth l j = nth S j) ∧ wr.heap[w.heap.size + 1]? = some (.cells (wcells .u32 l) 82 (0, 0))
theorem SpInv.step {w wr : World} {S : List Nat} {n : Nat} (h : SpInv w S n wr) (hn : n < 64) : SpInv w S (n + 1) (wr.setCell ⟨w.heap.size + 1, n, none⟩ (.int .u32 ((nth S n : Nat) : Int))) := by
  obtain ⟨l, hl, hp, hr⟩ := h.row
  refine ⟨h.below.setCell (by show w.heap.size ≤ w.heap.size + 1; omega) _, ?_, l.set n (nth S n), by simpa using hl, fun j hj => ?_, set_w hr n _⟩
  · rw [heap_setCell_other _ _ _ _ (by show w.heap.size ≠ w.heap.size + 1; omega)]; exact h.res
  · rw [nth_set _ _ _ _ (by omega)]
    split
    · next e => rw [e]
    · exact hp j (by omega)
theorem SpInv.drew {w wr : World} {S : List Nat} {n : Nat} (h : SpInv w S n wr) : SpInv w S n wr.drew := ⟨h.below.drew, h.res, h.row⟩
end Go.Proofs.Ytbjcigokimieoaa
namespace Go.Proofs.Ytbjcigokimieoaa
open Go.RowKit
/-- What mix's first loop holds behind k rounds. -/
structure MixInv (w : World) (L : List (Nat × Obj)) (g7 : Nat) (S x : List Nat) (k : Nat) (wr : World) : Prop where
  st : St w L wr
  cur : wr.heap[g7]? = some (.cells (wcells .u32 (rnds S x k)) 77 (0, 0))
theorem set_all8 (X : List Nat) (h : X.length = 8) (p0 p1 p2 p3 p4 p5 p6 p7 : Nat) : (((((((X.set 0 p0).set 1 p1).set 2 p2).set 3 p3).set 4 p4).set 5 p5).set 6 p6).set 7 p7 = [p0, p1, p2, p3, p4, p5, p6, p7] := by
  match X, h with
  | [_, _, _, _, _, _, _, _], _ => rfl
theorem MixInv.step {w wr : World} {L : List (Nat × Obj)} {g7 : Nat} {S x : List Nat} {k : Nat} (h : MixInv w L g7 S x k wr) (hL : ∀ q, q ∈ L → q.1 ≠ g7) (hg : w.heap.size ≤ g7) (hl : (rnds S x k).length = 8) {p0 p1 p2 p3 p4 p5 p6 p7 : Nat}
    (hs : rnds S x (k + 1) = [p0, p1, p2, p3, p4, p5, p6, p7]) : MixInv w L g7 S x (k + 1) ((((((((wr.setCell ⟨g7, 0, none⟩ (.int .u32 ((p0 : Nat) : Int))).setCell ⟨g7, 1, none⟩ (.int .u32 ((p1 : Nat) : Int))).setCell ⟨g7, 2, none⟩ (.int .u32 ((p2 : Nat) : Int))).setCell ⟨g7, 3, none⟩ (.int .u32 ((p3 : Nat) : Int))).setCell ⟨g7, 4, none⟩ (.int .u32 ((p4 : Nat) : Int))).setCell ⟨g7, 5, none⟩ (.int .u32 ((p5 : Nat) : Int))).setCell ⟨g7, 6, none⟩ (.int .u32 ((p6 : Nat) : Int))).setCell ⟨g7, 7, none⟩ (.int .u32 ((p7 : Nat) : Int))) := by
  have one : ∀ (W : World) (i : Nat) (v : Value), St w L W → St w L (W.setCell ⟨g7, i, none⟩ v) := fun W i v hS => ⟨hS.below.setCell hg _, fun p hp => (heap_setCell_other _ _ _ _ (hL p hp)).trans (hS.rows p hp)⟩
  refine ⟨one _ _ _ (one _ _ _ (one _ _ _ (one _ _ _ (one _ _ _ (one _ _ _ (one _ _ _ (one _ _ _ h.st))))))), ?_⟩
  rw [hs, ← set_all8 _ hl p0 p1 p2 p3 p4 p5 p6 p7]
  exact set_w (set_w (set_w (set_w (set_w (set_w (set_w (set_w h.cur 0 p0) 1 p1) 2 p2) 3 p3) 4 p4) 5 p5) 6 p6) 7 p7
/-- What its second holds. -/
structure SumInv (w : World) (L : List (Nat × Obj)) (x y : List Nat) (k : Nat) (wr : World) : Prop where
  st : St w L wr
  row : ∃ l : List Nat, l.length = 8 ∧ (∀ j, j < k → nth l j = (nth x j + nth y j) % 4294967296) ∧ (∀ j, k ≤ j → nth l j = nth x j) ∧ wr.heap[w.heap.size]? = some (.cells (wcells .u32 l) 77 (0, 0))
theorem SumInv.step {w wr : World} {L : List (Nat × Obj)} {x y : List Nat} {k : Nat} (h : SumInv w L x y k wr) (hL : ∀ q, q ∈ L → q.1 ≠ w.heap.size) (hk : k < 8) :
    SumInv w L x y (k + 1) (wr.setCell ⟨w.heap.size, k, none⟩ (.int .u32 (((nth x k + nth y k) % 4294967296 : Nat) : Int))).drew := by
  obtain ⟨l, hl, hp, hq, hr⟩ := h.row
  refine ⟨St.drew ⟨h.st.below.setCell (Nat.le_refl _) _, fun p hpm => ?_⟩, l.set k ((nth x k + nth y k) % 4294967296), by simpa using hl, fun j hj => ?_, fun j hj => ?_, set_w hr k _⟩
  · rw [heap_setCell_other _ _ _ _ (hL p hpm)]; exact h.st.rows p hpm
  · rw [nth_set _ _ _ _ (by omega)]
    split
    · next e => rw [e]
    · exact hp j (by omega)
  · rw [nth_set _ _ _ _ (by omega), if_neg (by omega)]; exact hq j (by omega)
end Go.Proofs.Ytbjcigokimieoaa
namespace Go.Proofs.Ytbjcigokimieoaa
open Go.RowKit
theorem u8_row : (Try.prog.info? 5).map (fun i => (i.zero, i.size, i.bytes)) = some (some (.int .u8 0), 1, 1) := by kernel_rfl
/-- Bytes as cells. -/
def bcells (l : List Nat) : List Value := l.map fun n => Value.int .u8 ((n : Nat) : Int)
theorem bcells_len (l : List Nat) : (bcells l).length = l.length := by simp [bcells]
theorem bcells_get (l : List Nat) (i : Nat) (h : i < l.length) : (bcells l)[i]? = some (.int .u8 ((nth l i : Nat) : Int)) := by
  simp only [bcells, List.getElem?_map, nth_get l i h, Option.map_some]
theorem bcells_one (l : List Nat) : ∀ u ∈ bcells l, u.oneCell' = true := by
  intro u hu; simp only [bcells, List.mem_map] at hu; obtain ⟨_, -, rfl⟩ := hu; rfl
/-- What a step leaves as it was: all old blocks but those of F. -/
structure Keeps (F : Nat → Prop) (W W' : World) : Prop where
  os : W'.os = W.os
  tape : W'.tape = W.tape
  output : W'.output = W.output
  size : W.heap.size ≤ W'.heap.size
  block : ∀ b, b < W.heap.size → ¬ F b → W'.heap[b]? = W.heap[b]?
theorem Keeps.refl (F : Nat → Prop) (W : World) : Keeps F W W := ⟨rfl, rfl, rfl, Nat.le_refl _, fun _ _ _ => rfl⟩
theorem Keeps.trans {F G : Nat → Prop} {A B C : World} (h : Keeps F A B) (k : Keeps G B C) (hG : ∀ b, G b → F b ∨ A.heap.size ≤ b) : Keeps F A C :=
  ⟨k.os.trans h.os, k.tape.trans h.tape, k.output.trans h.output, Nat.le_trans h.size k.size, fun b hb hf => (k.block b (Nat.lt_of_lt_of_le hb h.size) (fun hg => by rcases hG b hg with h1 | h1; exact hf h1; omega)).trans (h.block b hb hf)⟩
theorem Keeps.of_below {F : Nat → Prop} {W W' : World} (h : Below W.heap.size W W') : Keeps F W W' := ⟨h.os, h.tape, h.output, h.size, fun b hb _ => h.block b hb⟩
theorem Keeps.below {F : Nat → Prop} {W W' : World} (h : Keeps F W W') (hF : ∀ b, F b → W.heap.size ≤ b) : Below W.heap.size W W' := ⟨h.os, h.tape, h.output, h.size, fun b hb => h.block b hb (fun hf => by have := hF b hf; omega)⟩
theorem Keeps.drew {F : Nat → Prop} {W W' : World} (h : Keeps F W W') : Keeps F W W'.drew := ⟨h.os, h.tape, h.output, h.size, h.block⟩
theorem Keeps.setCell {F : Nat → Prop} {A W : World} (h : Keeps F A W) {g o : Nat} (v : Value) (hF : F g ∨ A.heap.size ≤ g) : Keeps F A (W.setCell ⟨g, o, none⟩ v) :=
  h.trans (G := fun b => b = g) (let k := Below.setCell (Below.refl 0 W) (p := ⟨g, o, none⟩) (Nat.zero_le _) v; ⟨k.os, k.tape, k.output, k.size, fun b _ hb => heap_setCell_other W _ _ _ hb⟩) (fun b hb => by subst hb; exact hF)
theorem Keeps.setRow {F : Nat → Prop} {A W : World} (h : Keeps F A W) {g : Nat} (c : Array Value) (hF : F g ∨ A.heap.size ≤ g) : Keeps F A (W.setRow g c) :=
  h.trans (G := fun b => b = g) ⟨rfl, rfl, rfl, by simp [World.setRow], fun b _ hb => setRow_other W g b c hb⟩ (fun b hb => by subst hb; exact hF)
theorem Keeps.alloc {F : Nat → Prop} {A W : World} (h : Keeps F A W) (o : Obj) : Keeps F A (W.alloc o) := h.trans (Keeps.of_below (F := F) ((Below.refl _ _).alloc (Nat.le_refl _) o)) (fun _ hb => Or.inl hb)
/-- A slice of bytes that may be appended to: where it lies. -/
def RestV (W : World) (v : Value) (bs : List Nat) : Prop :=
  (v = .slice none 0 0 ∧ bs = []) ∨ ∃ g off cap cur, v = .slice (some ⟨g, off, none⟩) bs.length cap ∧ W.heap[g]? = some (.cells cur 5 (0, 0)) ∧ bs.length ≤ cap ∧ off + cap ≤ cur.size ∧ (∀ i, i < bs.length → cur[off + i]? = some (.int .u8 ((nth bs i : Nat) : Int)))
theorem RestV.keep {W W' : World} {v : Value} {bs : List Nat} {F : Nat → Prop} (h : RestV W v bs) (k : Keeps F W W') (hF : ∀ g, v.ownBlock = some g → ¬ F g) : RestV W' v bs := by
  rcases h with h | ⟨g, off, cap, cur, rfl, hg, h1, h2, h3⟩
  · exact Or.inl h
  · exact Or.inr ⟨g, off, cap, cur, rfl, (k.block g (lt_of_block hg) (hF g rfl)).trans hg, h1, h2, h3⟩
theorem RestV.shape {W : World} {v : Value} {bs : List Nat} (h : RestV W v bs) : ∃ a c, v = .slice a bs.length c := by
  rcases h with ⟨rfl, rfl⟩ | ⟨g, off, cap, cur, rfl, -⟩
  · exact ⟨_, _, rfl⟩
  · exact ⟨_, _, rfl⟩
/-- A source of bytes. -/
abbrev SrcB (W : World) (x : Value) (ys : List Nat) : Prop := Src Try.prog 1 22 x ys.length (bcells ys) W
theorem srcB_slice (W : World) (b o c : Nat) (ys : List Nat) (h : ∀ i, i < ys.length → W.cell? ⟨b, o + i, none⟩ = some (.int .u8 ((nth ys i : Nat) : Int))) : SrcB W (.slice (some ⟨b, o, none⟩) ys.length c) ys :=
  Src.ofSlice (w := W) Try.underlying22 ⟨b, o, none⟩ _ c _ (by rw [bcells_len, Nat.mul_one]) (fun j u hj => by
    have hl : j < ys.length := by have := (List.getElem?_eq_some_iff.1 hj).1; rwa [bcells_len] at this
    rw [bcells_get ys j hl] at hj
    have hadd : (⟨b, o, none⟩ : Addr).add j = ⟨b, o + j, none⟩ := by unfold Addr.add; split <;> simp_all
    rw [hadd, h j hl]; exact hj) (bcells_one ys)
theorem srcB_nil (W : World) (c : Nat) : SrcB W (.slice none 0 c) [] := Src.ofNil W Try.underlying22 c
theorem RestV.src {W : World} {v : Value} {bs : List Nat} (h : RestV W v bs) : SrcB W v bs := by
  rcases h with ⟨rfl, rfl⟩ | ⟨g, off, cap, cur, rfl, hg, h1, h2, h3⟩
  · exact srcB_nil W 0
  · exact srcB_slice W g off cap bs (fun i hi => (cell_of_row _ _ _ _ _ _ hg).trans (h3 i hi))
theorem run_app_room (ty : TypeId) (i : TypeInfo) (hi : Try.prog.info? 5 = some i) (h1 : i.size = 1) (W : World) (g off n cap : Nat) (cur : Array Value) (hg : W.heap[g]? = some (.cells cur 5 (0, 0))) (x : Value) (m : Nat) (news : List Value) (hs : Src Try.prog 1 22 x m news W)
    (hroom : n + m ≤ cap) (hfit : off + cap ≤ cur.size) :
    (Builtin.append_ #[22, 22] ty #[.slice (some ⟨g, off, none⟩) n cap, x]).run Try.prog W = .ok (.slice (some ⟨g, off, none⟩) (n + m) cap) (W.setRow g (cur.toList.take (off + n) ++ news ++ cur.toList.drop (off + n + news.length)).toArray) := by
  have hl := hs.newsLen
  have hst := run_storeCells_at Try.prog g (off + n) 5 news 0 cur W hg (by omega) hs.one
  simp only [Nat.add_zero] at hst
  rcases hs.kind with ⟨e', hk⟩ | hk <;> simp [Builtin.append_, run_underlying Try.underlying22, sizeOf, typeInfo, hi, h1, hs.len, hroom, hs.cells, Addr.add_lit, hst]
theorem run_append_nothing' (ty : TypeId) (i : TypeInfo) (hi : Try.prog.info? 5 = some i) (h1 : i.size = 1) (W : World) (base : Option Addr) (n cap : Nat) (hle : n ≤ cap) (x : Value) (hs : Src Try.prog 1 22 x 0 [] W) :
    (Builtin.append_ #[22, 22] ty #[.slice base n cap, x]).run Try.prog W = .ok (.slice base n cap) W := by
  rcases hs.kind with ⟨e', hk⟩ | hk <;> cases base <;> simp [Builtin.append_, run_underlying Try.underlying22, sizeOf, typeInfo, hi, h1, hs.len, hle, hs.cells, storeCells]
/-- append(s, x...). -/
theorem run_app (ty : TypeId) (W : World) (v x : Value) (bs ys : List Nat) (hv : RestV W v bs) (hs : SrcB W x ys) (hn : bs.length + ys.length ≤ 70368744177664) :
    ∃ v' W', (Builtin.append_ #[22, 22] ty #[v, x]).run Try.prog W = .ok v' W' ∧ RestV W' v' (bs ++ ys) ∧ Keeps (fun b => v.ownBlock = some b) W W' ∧ (∀ b, v'.ownBlock = some b → v.ownBlock = some b ∨ b = W.heap.size) := by
  obtain ⟨i, hi, hz, h1, h2⟩ := info_parts u8_row
  have hsm : ∀ k, k = bs.length + ys.length → ((k : Nat) : Int) ≤ 9223372036854775807 := fun k hk => by omega
  -- a new row
  have grow : ∀ (base : Option Addr) (cap : Nat), v = .slice base bs.length cap → cap < bs.length + ys.length → (Builtin.firstCells i.size bs.length (.slice base bs.length cap)).run Try.prog W.drew = .ok (bcells bs).toArray W.drew →
      ∃ v' W', (Builtin.append_ #[22, 22] ty #[v, x]).run Try.prog W = .ok v' W' ∧ RestV W' v' (bs ++ ys) ∧ Keeps (fun b => v.ownBlock = some b) W W' ∧ (∀ b, v'.ownBlock = some b → v.ownBlock = some b ∨ b = W.heap.size) := by
    rintro base cap rfl hlt hold
    have hfit : Builtin.nextslicecap (bs.length + ys.length) cap * i.bytes ≤ 281474976710656 := growslice_fits (by omega) (by rw [h2]; omega)
    have hr := run_append_grow_src (P := Try.prog) (w := W) 22 22 ty 5 i (.int .u8 0) Try.underlying22 hi hz base bs.length cap (bcells bs) hold x ys.length (bcells ys) (by rw [h1]; exact hs) hlt (hsm _ rfl) hfit
    have hge := grownCap_ge W (bs.length + ys.length) cap 5
    generalize grownCap W (bs.length + ys.length) cap 5 = gc at hr hge
    refine ⟨_, _, hr, Or.inr ⟨W.heap.size, 0, gc, _, by rw [List.length_append], heap_alloc_new W.drew _, by rw [List.length_append]; exact hge, ?_, ?_⟩, ?_, ?_⟩
    · simp only [Array.size_append, List.size_toArray, List.length_append, bcells_len, size_zeroCells]
      simp [Value.cells]; omega
    · intro k hk
      rw [Nat.zero_add, Array.getElem?_append_left (by simpa [bcells_len] using hk), List.getElem?_toArray]
      rw [show bcells bs ++ bcells ys = bcells (bs ++ ys) by simp [bcells]]
      exact bcells_get _ k hk
    · exact Keeps.of_below ((Below.refl _ _).drew.alloc (Nat.le_refl _) _)
    · intro b hb; simp [Value.ownBlock] at hb; exact Or.inr hb.symm
  rcases hv with ⟨rfl, rfl⟩ | ⟨g, off, cap, cur, rfl, hg, hc1, hc2, hc3⟩
  · by_cases hm : ys.length = 0
    · obtain rfl : ys = [] := List.eq_nil_of_length_eq_zero hm
      have hr := run_append_nothing' ty i hi h1 W none 0 0 (Nat.le_refl _) x hs
      exact ⟨_, _, hr, Or.inl ⟨rfl, rfl⟩, Keeps.refl _ _, fun b hb => Or.inl hb⟩
    · exact grow none 0 rfl (by simp; omega) (run_firstCells_none (P := Try.prog) W.drew i.size 0 0 0)
  · by_cases hroom : bs.length + ys.length ≤ cap
    · have hr := run_app_room ty i hi h1 W g off bs.length cap cur hg x ys.length (bcells ys) hs hroom hc2
      refine ⟨_, _, hr, Or.inr ⟨g, off, cap, _, by rw [List.length_append], setRow_heap W g cur _ _ _ hg, by rw [List.length_append]; exact hroom, ?_, ?_⟩, ?_, ?_⟩
      · simp only [List.size_toArray, List.length_append, List.length_take, List.length_drop, Array.length_toList, bcells_len]; omega
      · intro k hk
        rw [List.getElem?_toArray]
        have htl : (List.take (off + bs.length) cur.toList).length = off + bs.length := by simp; omega
        by_cases hkb : k < bs.length
        · rw [List.append_assoc, List.getElem?_append_left (by rw [htl]; omega), List.getElem?_take, if_pos (by omega), nth_append_left _ _ _ hkb]
          have := hc3 k hkb
          simpa using this
        · rw [List.length_append] at hk
          rw [List.append_assoc, List.getElem?_append_right (by rw [htl]; omega), htl, List.getElem?_append_left (by rw [bcells_len]; omega), show off + k - (off + bs.length) = k - bs.length by omega, bcells_get ys _ (by omega), nth_append_right _ _ _ (by omega)]
      · exact (Keeps.refl _ W).setRow _ (Or.inl rfl)
      · intro b hb; exact Or.inl hb
    · refine grow (some ⟨g, off, none⟩) cap rfl (by omega) ?_
      rw [h1]
      exact run_firstCells_some (P := Try.prog) W.drew 1 bs.length ⟨g, off, none⟩ bs.length cap (bcells bs) (by rw [bcells_len, Nat.mul_one]) (fun j u hj => by
        have hl : j < bs.length := by have := (List.getElem?_eq_some_iff.1 hj).1; rwa [bcells_len] at this
        rw [bcells_get bs j hl] at hj
        have hadd : (⟨g, off, none⟩ : Addr).add j = ⟨g, off + j, none⟩ := by unfold Addr.add; split <;> simp_all
        rw [hadd, ← hj]
        exact (cell_of_row W g (off + j) cur _ _ hg).trans (hc3 j hl))
end Go.Proofs.Ytbjcigokimieoaa
namespace Go.Proofs.Ytbjcigokimieoaa
open Go.RowKit
/-- A slice of words that the call owns, from block B on. -/
structure OwnW (W : World) (B g n c : Nat) (ws : List Nat) : Prop where
  own : W.ownsRow B 69 1 (bsv g 0 n c) n (ws.map fun d => Value.int .u64 ((d : Nat) : Int))
  len : ws.length = n
theorem OwnW.base {W : World} {B g n c : Nat} {ws : List Nat} (h : OwnW W B g n c ws) : B ≤ g ∧ g < W.heap.size := h.own.lt g rfl
theorem OwnW.cell {W : World} {B g n c : Nat} {ws : List Nat} (h : OwnW W B g n c ws) (i : Nat) (hi : i < n) : W.cell? ⟨g, i, none⟩ = some (.int .u64 ((nth ws i : Nat) : Int)) := by
  have hl := h.len
  have e := h.own.cells (g := g) rfl i (.int .u64 ((nth ws i : Nat) : Int)) (by
    rw [List.getElem?_map, nth_get ws i (by omega)]; rfl)
  have hadd : (⟨g, 0, none⟩ : Addr).add i = ⟨g, 0 + i, none⟩ := by unfold Addr.add; split <;> simp_all
  rw [hadd, Nat.zero_add] at e; exact e
theorem OwnW.keep {W W' : World} {B g n c : Nat} {ws : List Nat} (h : OwnW W B g n c ws) (hb : Below W.heap.size W W') : OwnW W' B g n c ws :=
  ⟨h.own.kept (row := none) ⟨hb.os, hb.tape, hb.output, hb.size, fun k hk _ => hb.block k hk⟩ (.inr (by simp [Value.ownBlock])), h.len⟩
end Go.Proofs.Ytbjcigokimieoaa
namespace Go.Proofs.Ytbjcigokimieoaa
open Go.RowKit
/-- What loop 4 holds behind k rounds. -/
structure RndInv (w : World) (gx : Nat) (S x : List Nat) (k : Nat) (wr : World) : Prop where
  keeps : Keeps (fun b => b = gx) w wr
  cur : wr.heap[gx]? = some (.cells (wcells .u64 (rnds S x k)) 70 (0, 0))
theorem set_rnd (X : List Nat) (h : X.length = 8) (p1 p2 p3 p4 p5 p6 p7 n4 n0 : Nat) : ((((((((X.set 7 p7).set 6 p6).set 5 p5).set 4 p4).set 3 p3).set 2 p2).set 1 p1).set 4 n4).set 0 n0 = [n0, p1, p2, p3, n4, p5, p6, p7] := by
  match X, h with
  | [_, _, _, _, _, _, _, _], _ => rfl
theorem RndInv.step {w wr : World} {gx : Nat} {S x : List Nat} {k : Nat} (h : RndInv w gx S x k wr) (hl : (rnds S x k).length = 8) {p1 p2 p3 p4 p5 p6 p7 n4 n0 : Nat} (hs : rnds S x (k + 1) = [n0, p1, p2, p3, n4, p5, p6, p7]) :
    RndInv w gx S x (k + 1) (((((((((wr.setCell ⟨gx, 7, none⟩ (.int .u64 (p7 : Int))).setCell ⟨gx, 6, none⟩ (.int .u64 (p6 : Int))).setCell ⟨gx, 5, none⟩ (.int .u64 (p5 : Int))).setCell ⟨gx, 4, none⟩ (.int .u64 (p4 : Int))).setCell ⟨gx, 3, none⟩ (.int .u64 (p3 : Int))).setCell ⟨gx, 2, none⟩ (.int .u64 (p2 : Int))).setCell ⟨gx, 1, none⟩ (.int .u64 (p1 : Int))).setCell ⟨gx, 4, none⟩ (.int .u64 (n4 : Int))).setCell ⟨gx, 0, none⟩ (.int .u64 (n0 : Int))) := by
  refine ⟨((((((((h.keeps.setCell _ (Or.inl rfl)).setCell _ (Or.inl rfl)).setCell _ (Or.inl rfl)).setCell _ (Or.inl rfl)).setCell _ (Or.inl rfl)).setCell _ (Or.inl rfl)).setCell _ (Or.inl rfl)).setCell _ (Or.inl rfl)).setCell _ (Or.inl rfl), ?_⟩
  rw [hs, ← set_rnd _ hl p1 p2 p3 p4 p5 p6 p7 n4 n0]
  exact set_w (set_w (set_w (set_w (set_w (set_w (set_w (set_w (set_w h.cur 7 p7) 6 p6) 5 p5) 4 p4) 3 p3) 2 p2) 1 p1) 4 n4) 0 n0
end Go.Proofs.Ytbjcigokimieoaa
namespace Go.Proofs.Ytbjcigokimieoaa
open Go.RowKit
/-- What loop 6 holds behind k rounds. -/
structure AddV (w : World) (gv : Nat) (x y : List Nat) (k : Nat) (wr : World) : Prop where
  keeps : Keeps (fun b => b = gv) w wr
  row : ∃ l : List Nat, l.length = 8 ∧ (∀ j, j < k → nth l j = (nth x j + nth y j) % 4294967296) ∧ (∀ j, k ≤ j → nth l j = nth x j) ∧ wr.heap[gv]? = some (.cells (wcells .u64 l) 70 (0, 0))
theorem AddV.step {w wr : World} {gv : Nat} {x y : List Nat} {k : Nat} (h : AddV w gv x y k wr) (hk : k < 8) :
    AddV w gv x y (k + 1) (wr.setCell ⟨gv, k, none⟩ (.int .u64 (((nth x k + nth y k) % 4294967296 : Nat) : Int))).drew := by
  obtain ⟨l, hl, hp, hq, hr⟩ := h.row
  refine ⟨(h.keeps.setCell _ (Or.inl rfl)).drew, l.set k ((nth x k + nth y k) % 4294967296), by simpa using hl, fun j hj => ?_, fun j hj => ?_, set_w hr k _⟩
  · rw [nth_set _ _ _ _ (by omega)]
    split
    · next e => rw [e]
    · exact hp j (by omega)
  · rw [nth_set _ _ _ _ (by omega), if_neg (by omega)]; exact hq j (by omega)
theorem AddV.done {w wr : World} {gv : Nat} {x y : List Nat} (h : AddV w gv x y 8 wr) : wr.heap[gv]? = some (.cells (wcells .u64 (addL x y)) 70 (0, 0)) := by
  obtain ⟨l, hl, hp, -, hr⟩ := h.row
  have e : l = addL x y := nth_ext _ _ (by rw [hl, addL_len]) (fun j hj => by rw [hp j (by omega)]; unfold addL; rw [nth_range _ _ _ (by omega)])
  rw [e] at hr; exact hr
/-- What loop 7 holds: the bytes of i words. -/
structure OutV (w : World) (gO : Nat) (fs : List Nat) (i : Nat) (wr : World) : Prop where
  keeps : Keeps (fun b => b = gO) w wr
  row : ∃ l : List Nat, l.length = 32 ∧ (∀ j, j < 4 * i → nth l j = nth (outB fs) j) ∧ wr.heap[gO]? = some (.cells (wcells .u8 l) 61 (0, 0))
theorem OutV.step {w wr : World} {gO : Nat} {fs : List Nat} {i : Nat} (h : OutV w gO fs i wr) (hi : i < 8) (y0 y1 y2 y3 : Nat) (h0 : nth (outB fs) (4 * i + 0) = y0) (h1 : nth (outB fs) (4 * i + 1) = y1) (h2 : nth (outB fs) (4 * i + 2) = y2) (h3 : nth (outB fs) (4 * i + 3) = y3) :
    OutV w gO fs (i + 1) ((((wr.setCell ⟨gO, 4 * i + 3, none⟩ (.int .u8 (y3 : Int))).setCell ⟨gO, 4 * i + 2, none⟩ (.int .u8 (y2 : Int))).setCell ⟨gO, 4 * i + 1, none⟩ (.int .u8 (y1 : Int))).setCell ⟨gO, 4 * i + 0, none⟩ (.int .u8 (y0 : Int))) := by
  obtain ⟨l, hl, hp, hr⟩ := h.row
  refine ⟨(((h.keeps.setCell _ (Or.inl rfl)).setCell _ (Or.inl rfl)).setCell _ (Or.inl rfl)).setCell _ (Or.inl rfl), (((l.set (4 * i + 3) y3).set (4 * i + 2) y2).set (4 * i + 1) y1).set (4 * i + 0) y0, by simpa using hl, fun j hj => ?_, set_w (set_w (set_w (set_w hr _ _) _ _) _ _) _ _⟩
  rw [nth_set _ _ _ _ (by simp; omega), nth_set _ _ _ _ (by simp; omega), nth_set _ _ _ _ (by simp; omega), nth_set _ _ _ _ (by omega)]
  split
  · next e => rw [← e, h0]
  · split
    · next e => rw [← e, h1]
    · split
      · next e => rw [← e, h2]
      · split
        · next e => rw [← e, h3]
        · exact hp j (by omega)
theorem OutV.done {w wr : World} {gO : Nat} {fs : List Nat} (h : OutV w gO fs 8 wr) : wr.heap[gO]? = some (.cells (wcells .u8 (outB fs)) 61 (0, 0)) := by
  obtain ⟨l, hl, hp, hr⟩ := h.row
  have e : l = outB fs := nth_ext _ _ (by rw [hl, outB_len]) (fun j hj => hp j (by omega))
  rw [e] at hr; exact hr
end Go.Proofs.Ytbjcigokimieoaa
namespace Go.Proofs.Ytbjcigokimieoaa
open Go.RowKit
/-- What loop 1 holds behind k pieces. -/
structure BlkV (w : World) (gv : Nat) (pd : List Nat) (k : Nat) (wr : World) : Prop where
  keeps : Keeps (fun b => b = gv) w wr
  row : wr.heap[gv]? = some (.cells (wcells .u64 (runB HL pd k)) 70 (0, 0))
end Go.Proofs.Ytbjcigokimieoaa
namespace Go.Proofs.Ytbjcigokimieoaa
open Go.RowKit
/-- A hasher's row. -/
@[reducible] def hrow (st : List Nat) (v : Value) (m : Nat) : Obj := .cells #[.int .u32 ((nth st 0 : Nat) : Int), .int .u32 ((nth st 1 : Nat) : Int), .int .u32 ((nth st 2 : Nat) : Int), .int .u32 ((nth st 3 : Nat) : Int), .int .u32 ((nth st 4 : Nat) : Int), .int .u32 ((nth st 5 : Nat) : Int), .int .u32 ((nth st 6 : Nat) : Int), .int .u32 ((nth st 7 : Nat) : Int), v, .int .u64 ((m : Nat) : Int)] 80
/-- A piece: bytes in a block of S. -/
def PieceS (W : World) (S : Nat → Prop) (xv : Value) (ys : List Nat) : Prop :=
  ((∃ a c, xv = .slice a 0 c) ∧ ys = []) ∨ ∃ b o c, S b ∧ xv = .slice (some ⟨b, o, none⟩) ys.length c ∧ ∀ i, i < ys.length → W.cell? ⟨b, o + i, none⟩ = some (.int .u8 ((nth ys i : Nat) : Int))
/-- .. below B. -/
@[reducible] def PieceV (W : World) (B : Nat) (xv : Value) (ys : List Nat) : Prop := PieceS W (fun b => b < B) xv ys
theorem PieceS.src {W : World} {S : Nat → Prop} {xv : Value} {ys : List Nat} (h : PieceS W S xv ys) : SrcB W xv ys := by
  rcases h with ⟨⟨a, c, rfl⟩, rfl⟩ | ⟨b, o, c, -, rfl, h⟩
  · cases a with
    | none => exact srcB_nil W c
    | some a => exact Src.ofSlice (w := W) Try.underlying22 a 0 c _ rfl (fun j u hj => by simp [bcells] at hj) (fun u hu => by simp [bcells] at hu)
  · exact srcB_slice W b o c ys h
theorem PieceS.shape {W : World} {S : Nat → Prop} {xv : Value} {ys : List Nat} (h : PieceS W S xv ys) : ∃ a c, xv = .slice a ys.length c := by
  rcases h with ⟨⟨a, c, rfl⟩, rfl⟩ | ⟨b, o, c, -, rfl, -⟩
  · exact ⟨_, _, rfl⟩
  · exact ⟨_, _, rfl⟩
theorem PieceV.src {W : World} {B : Nat} {xv : Value} {ys : List Nat} (h : PieceV W B xv ys) : SrcB W xv ys := PieceS.src h
theorem PieceV.shape {W : World} {B : Nat} {xv : Value} {ys : List Nat} (h : PieceV W B xv ys) : ∃ a c, xv = .slice a ys.length c := PieceS.shape h
/-- Pieces, in a list of S. -/
structure PcsS (W : World) (S : Nat → Prop) (lv : Value) (pss : List (List Nat)) : Prop where
  le : ∀ b, S b → b < W.heap.size
  shape : ((∃ a c, lv = .slice a 0 c) ∧ pss = []) ∨ ∃ lb lo c, S lb ∧ lv = .slice (some ⟨lb, lo, none⟩) pss.length c ∧ ∀ i ys, pss[i]? = some ys → ∃ xv, W.cell? ⟨lb, lo + i, none⟩ = some xv ∧ PieceS W S xv ys
@[reducible] def Pcs (W : World) (B : Nat) (lv : Value) (pss : List (List Nat)) : Prop := PcsS W (fun b => b < B) lv pss
theorem Keeps.cell {F : Nat → Prop} {W W' : World} (k : Keeps F W W') {b o : Nat} (hb : b < W.heap.size) (hF : ¬ F b) : W'.cell? ⟨b, o, none⟩ = W.cell? ⟨b, o, none⟩ := World.cell?_of_block (a := ⟨b, o, none⟩) (k.block b hb hF)
theorem PieceS.keep {W W' : World} {S : Nat → Prop} {xv : Value} {ys : List Nat} {F : Nat → Prop} (h : PieceS W S xv ys) (hS : ∀ b, S b → b < W.heap.size) (k : Keeps F W W') (hF : ∀ b, S b → ¬ F b) : PieceS W' S xv ys := by
  rcases h with h | ⟨b, o, c, hb, rfl, h⟩
  · exact Or.inl h
  · exact Or.inr ⟨b, o, c, hb, rfl, fun i hi => (k.cell (hS b hb) (hF b hb)).trans (h i hi)⟩
theorem PieceV.keep {W W' : World} {B : Nat} {xv : Value} {ys : List Nat} {F : Nat → Prop} (h : PieceV W B xv ys) (hB : B ≤ W.heap.size) (k : Keeps F W W') (hF : ∀ b, b < B → ¬ F b) : PieceV W' B xv ys := PieceS.keep h (fun _ hb => Nat.lt_of_lt_of_le hb hB) k hF
theorem PcsS.keep {W W' : World} {S : Nat → Prop} {lv : Value} {pss : List (List Nat)} {F : Nat → Prop} (h : PcsS W S lv pss) (k : Keeps F W W') (hF : ∀ b, S b → ¬ F b) : PcsS W' S lv pss := by
  refine ⟨fun b hb => Nat.lt_of_lt_of_le (h.le b hb) k.size, ?_⟩
  have hle := h.le
  rcases h.shape with h1 | ⟨lb, lo, c, hb, rfl, h2⟩
  · exact Or.inl h1
  · refine Or.inr ⟨lb, lo, c, hb, rfl, fun i ys hi => ?_⟩
    obtain ⟨xv, h3, h4⟩ := h2 i ys hi
    exact ⟨xv, (k.cell (hle lb hb) (hF lb hb)).trans h3, h4.keep hle k hF⟩
theorem Pcs.keep {W W' : World} {B : Nat} {lv : Value} {pss : List (List Nat)} {F : Nat → Prop} (h : Pcs W B lv pss) (k : Keeps F W W') (hF : ∀ b, b < B → ¬ F b) : Pcs W' B lv pss := PcsS.keep h k hF
/-- A hasher that has had these bytes. v: its rest. -/
structure HasherV (W : World) (hg : Nat) (v : Value) (bs : List Nat) : Prop where
  row : W.heap[hg]? = some (hrow (runB HL bs (bs.length / 64)) v bs.length)
  rest : RestV W v (bs.drop (64 * (bs.length / 64)))
/-- In the midst: n pieces are mixed in. -/
structure HMid (W : World) (hg : Nat) (v : Value) (bs : List Nat) (n : Nat) : Prop where
  le : 64 * n ≤ bs.length
  row : W.heap[hg]? = some (hrow (runB HL bs n) v bs.length)
  rest : RestV W v (bs.drop (64 * n))
theorem HMid.done {W : World} {hg : Nat} {v : Value} {bs : List Nat} {n : Nat} (h : HMid W hg v bs n) (hl : bs.length < 64 * n + 64) : HasherV W hg v bs := by
  have hle := h.le
  have e : bs.length / 64 = n := by omega
  exact ⟨by rw [e]; exact h.row, by rw [e]; exact h.rest⟩
theorem Keeps.setCells {F : Nat → Prop} {A : World} {g : Nat} (hF : F g ∨ A.heap.size ≤ g) : ∀ (l : List Value) (o : Nat) (W : World), Keeps F A W → Keeps F A (W.setCells g o l)
  | [], _, _, h => h
  | v :: l, o, _, h => Keeps.setCells hF l (o + 1) _ (h.setCell v hF)
theorem other_setCells {g b : Nat} (hne : b ≠ g) : ∀ (l : List Value) (o : Nat) (W : World), (W.setCells g o l).heap[b]? = W.heap[b]?
  | [], _, _ => rfl
  | v :: l, o, W => (other_setCells hne l (o + 1) _).trans (heap_setCell_other W ⟨g, o, none⟩ _ v hne)
/-- Where a hasher writes. -/
def HF (hg : Nat) (v : Value) (b : Nat) : Prop := b = hg ∨ v.ownBlock = some b
/-- What Add's outer loop holds: k pieces are added. -/
structure AddInv (w : World) (B hg : Nat) (v0 : Value) (bs0 : List Nat) (pss : List (List Nat)) (k : Nat) (wr : World) : Prop where
  keeps : Keeps (HF hg v0) w wr
  now : ∃ v, HasherV wr hg v (bs0 ++ (pss.take k).flatten) ∧ ∀ b, v.ownBlock = some b → v0.ownBlock = some b ∨ w.heap.size ≤ b
/-- What its inner loop holds. -/
structure AddMid (w : World) (B hg : Nat) (v0 : Value) (bs : List Nat) (t : Nat) (wr : World) : Prop where
  keeps : Keeps (HF hg v0) w wr
  now : ∃ v n, HMid wr hg v bs n ∧ bs.length = 64 * n + t ∧ ∀ b, v.ownBlock = some b → v0.ownBlock = some b ∨ w.heap.size ≤ b
end Go.Proofs.Ytbjcigokimieoaa
namespace Go.Proofs.Ytbjcigokimieoaa
open Go.RowKit
/-- What Sum holds while it writes what comes behind: z so far. -/
structure PadInv (w : World) (v : Value) (z : List Nat) (wr : World) : Prop where
  below : Below w.heap.size w wr
  out : wr.heap[w.heap.size]? = some (Obj.cells (wcells .u8 (List.replicate 32 0)) 61 (0, 0))
  rest : RestV wr v z
  own : ∀ b, v.ownBlock = some b → w.heap.size < b
theorem PadInv.app {w wr W2 : World} {v v2 : Value} {z zz : List Nat} (h : PadInv w v z wr) (R : RestV W2 v2 zz) (K : Keeps (fun b => v.ownBlock = some b) wr W2) (Nn : ∀ b, v2.ownBlock = some b → v.ownBlock = some b ∨ b = wr.heap.size) : PadInv w v2 zz W2 := by
  have hlt := lt_of_block h.out
  refine ⟨?_, (K.block _ hlt (fun e => by have := h.own _ e; omega)).trans h.out, R, fun b hb => ?_⟩
  · exact h.below.trans ⟨K.os, K.tape, K.output, K.size, fun b hb => K.block b (Nat.lt_of_lt_of_le hb h.below.size) (fun e => by have := h.own _ e; omega)⟩
  · rcases Nn b hb with h1 | h1
    · exact h.own b h1
    · rw [h1]; exact hlt
theorem PadInv.alloc {w wr : World} {v : Value} {z : List Nat} (h : PadInv w v z wr) (o : Obj) : PadInv w v z (wr.alloc o) :=
  ⟨h.below.alloc h.below.size o, (Below.heap_alloc wr o _ (lt_of_block h.out)).trans h.out, h.rest.keep (F := fun _ => False) (Keeps.of_below ((Below.refl _ _).alloc (Nat.le_refl _) o)) (fun _ _ h => h), h.own⟩
/-- What Sum's block loop holds: k pieces are mixed in. -/
structure BlkInv (w : World) (G6 : Nat) (s0 pd : List Nat) (v : Value) (k : Nat) (wr : World) : Prop where
  below : Below w.heap.size w wr
  out : wr.heap[w.heap.size]? = some (Obj.cells (wcells .u8 (List.replicate 32 0)) 61 (0, 0))
  cur : wr.heap[G6]? = some (.cells (wcells .u32 (runB s0 pd k)) 77 (0, 0))
  rest : RestV wr v (pd.drop (64 * k))
/-- What its last loop holds: the bytes of i words. -/
structure OutInv (w : World) (G7 : Nat) (fs : List Nat) (i : Nat) (wr : World) : Prop where
  below : Below w.heap.size w wr
  out : wr.heap[w.heap.size]? = some (Obj.cells (wcells .u8 (List.replicate 32 0)) 61 (0, 0))
  row : ∃ l : List Nat, l.length = 32 ∧ (∀ j, j < 4 * i → nth l j = nth (outB fs) j) ∧ wr.heap[G7]? = some (.cells (wcells .u8 l) 61 (0, 0))
theorem outB_at (fs : List Nat) (i j : Nat) (hi : i < 8) (hj : j < 4) : nth (outB fs) (4 * i + j) = nth fs i / 2 ^ (24 - 8 * j) % 256 := by
  unfold outB
  rw [nth_range _ _ _ (by omega), show (4 * i + j) / 4 = i by omega, show (4 * i + j) % 4 = j by omega]
theorem OutInv.step {w wr : World} {G7 : Nat} {fs : List Nat} {i : Nat} (h : OutInv w G7 fs i wr) (hi : i < 8) (hG : w.heap.size < G7) (xw : Nat) (hx : nth fs i = xw) :
    OutInv w G7 fs (i + 1) ((((wr.setCell ⟨G7, 4 * i, none⟩ (.int .u8 ((xw : Int) / 16777216 % 256))).setCell ⟨G7, 4 * i + 1, none⟩ (.int .u8 ((xw : Int) / 65536 % 256))).setCell ⟨G7, 4 * i + 2, none⟩ (.int .u8 ((xw : Int) / 256 % 256))).setCell ⟨G7, 4 * i + 3, none⟩ (.int .u8 ((xw : Int) % 256))) := by
  have e0 : (xw : Int) / 16777216 % 256 = ((nth (outB fs) (4 * i + 0) : Nat) : Int) := by rw [outB_at fs i 0 hi (by omega), hx]; simp
  have e1 : (xw : Int) / 65536 % 256 = ((nth (outB fs) (4 * i + 1) : Nat) : Int) := by rw [outB_at fs i 1 hi (by omega), hx]; simp
  have e2 : (xw : Int) / 256 % 256 = ((nth (outB fs) (4 * i + 2) : Nat) : Int) := by rw [outB_at fs i 2 hi (by omega), hx]; simp
  have e3 : (xw : Int) % 256 = ((nth (outB fs) (4 * i + 3) : Nat) : Int) := by rw [outB_at fs i 3 hi (by omega), hx]; simp
  rw [e0, e1, e2, e3]
  obtain ⟨l, hl, hp, hr⟩ := h.row
  have other : ∀ (W : World) (o : Nat) (v : Value), W.heap[w.heap.size]? = some (Obj.cells (wcells .u8 (List.replicate 32 0)) 61 (0, 0)) → (W.setCell ⟨G7, o, none⟩ v).heap[w.heap.size]? = some (Obj.cells (wcells .u8 (List.replicate 32 0)) 61 (0, 0)) := fun W o v hW => (heap_setCell_other W ⟨G7, o, none⟩ _ v (by show w.heap.size ≠ G7; omega)).trans hW
  have hB : w.heap.size ≤ G7 := by omega
  refine ⟨(((h.below.setCell hB _).setCell hB _).setCell hB _).setCell hB _, other _ _ _ (other _ _ _ (other _ _ _ (other _ _ _ h.out))), (((l.set (4 * i) (nth (outB fs) (4 * i + 0))).set (4 * i + 1) (nth (outB fs) (4 * i + 1))).set (4 * i + 2) (nth (outB fs) (4 * i + 2))).set (4 * i + 3) (nth (outB fs) (4 * i + 3)), by simpa using hl, fun j hj => ?_, set_w (set_w (set_w (set_w hr _ _) _ _) _ _) _ _⟩
  rw [nth_set _ _ _ _ (by simp; omega), nth_set _ _ _ _ (by simp; omega), nth_set _ _ _ _ (by simp; omega), nth_set _ _ _ _ (by omega)]
  split
  · next e => rw [e]
  · split
    · next e => rw [e]
    · split
      · next e => rw [e]
      · split
        · next e => rw [← e]; rfl
        · exact hp j (by omega)
end Go.Proofs.Ytbjcigokimieoaa
namespace Go.Proofs.Ytbjcigokimieoaa
open Go.RowKit
theorem PieceV.mono {W : World} {B B' : Nat} {xv : Value} {ys : List Nat} (h : PieceV W B xv ys) (hB : B ≤ B') : PieceV W B' xv ys := h.imp id (fun ⟨b, o, c, h1, h2, h3⟩ => ⟨b, o, c, Nat.lt_of_lt_of_le h1 hB, h2, h3⟩)
theorem Pcs.mono {W : World} {B B' : Nat} {lv : Value} {pss : List (List Nat)} (h : Pcs W B lv pss) (hB : B ≤ B') (hW : B' ≤ W.heap.size) : Pcs W B' lv pss :=
  ⟨fun b hb => Nat.lt_of_lt_of_le hb hW, h.shape.imp id (fun ⟨lb, lo, c, h1, h2, h3⟩ => ⟨lb, lo, c, Nat.lt_of_lt_of_le h1 hB, h2, fun i ys hi => by
    obtain ⟨xv, h4, h5⟩ := h3 i ys hi
    exact ⟨xv, h4, PieceV.mono h5 hB⟩⟩)⟩
end Go.Proofs.Ytbjcigokimieoaa
namespace Go.Proofs.Ytbjcigokimieoaa
open Go.RowKit
/-- The row of a hash in memory. -/
def hobj (l : List Nat) : Obj := .cells (wcells .u8 l) 61 (0, 0)
/-- Are two rows the same? -/
def heq (a b : List Nat) : Bool := decide (a = b)
theorem alike_lists (n : Nat) (a b : List Nat) (ha : a.length = n) (hb : b.length = n) : alike n (fun i => ((nth a i : Nat) : Int)) (fun i => ((nth b i : Nat) : Int)) = heq a b := by
  unfold heq
  rw [Bool.eq_iff_iff, alike_iff, decide_eq_true_iff]
  constructor
  · intro h
    exact nth_ext a b (by omega) (fun i hi => by have := h i (by omega); omega)
  · rintro rfl i _; rfl
theorem u8_info : (Try.prog.info? 5).isSome = true := by kernel_rfl
theorem u8_cells : Try.prog.cellsOf 5 = 1 := by kernel_rfl
end Go.Proofs.Ytbjcigokimieoaa
namespace Go.Proofs.Ytbjcigokimieoaa
open Go.RowKit
/-- What Padded holds while it writes: z so far. -/
structure PadR (w : World) (v : Value) (z : List Nat) (wr : World) : Prop where
  below : Below w.heap.size w wr
  rest : RestV wr v z
  own : ∀ b, v.ownBlock = some b → w.heap.size ≤ b
theorem PadR.app {w wr W2 : World} {v v2 : Value} {z zz : List Nat} (h : PadR w v z wr) (R : RestV W2 v2 zz) (K : Keeps (fun b => v.ownBlock = some b) wr W2) (Nn : ∀ b, v2.ownBlock = some b → v.ownBlock = some b ∨ b = wr.heap.size) : PadR w v2 zz W2 := by
  refine ⟨?_, R, fun b hb => ?_⟩
  · exact h.below.trans ⟨K.os, K.tape, K.output, K.size, fun b hb => K.block b (Nat.lt_of_lt_of_le hb h.below.size) (fun e => by have := h.own _ e; omega)⟩
  · rcases Nn b hb with h1 | h1
    · exact h.own b h1
    · rw [h1]; exact h.below.size
theorem PadR.alloc {w wr : World} {v : Value} {z : List Nat} (h : PadR w v z wr) (o : Obj) : PadR w v z (wr.alloc o) :=
  ⟨h.below.alloc h.below.size o, h.rest.keep (F := fun _ => False) (Keeps.of_below ((Below.refl _ _).alloc (Nat.le_refl _) o)) (fun _ _ h => h), h.own⟩
theorem PadR.new (w : World) : PadR w (.slice (some ⟨w.heap.size, 0, none⟩) 0 0) [] (w.alloc (.cells #[] 5)) := by
  have S := (St.nil w).alloc (.cells #[] 5) _ rfl
  refine ⟨S.below, Or.inr ⟨w.heap.size, 0, 0, #[], rfl, S.get (List.Mem.head _), Nat.le_refl _, Nat.le_refl _, fun i hi => absurd hi (by simp)⟩, fun b hb => ?_⟩
  simp [Value.ownBlock] at hb; omega
end Go.Proofs.Ytbjcigokimieoaa
namespace Go.Proofs.Ytbjcigokimieoaa
open Go.RowKit
/-- The row of a short one in memory. -/
def sobj (l : List Nat) : Obj := .cells (wcells .u8 l) 27 (0, 0)
theorem nth_take (l : List Nat) (k i : Nat) (h : i < k) : nth (l.take k) i = nth l i := by
  unfold nth; rw [List.getD_eq_getElem?_getD, List.getD_eq_getElem?_getD, List.getElem?_take, if_pos h]
/-- What the loop of the document's Short holds. -/
structure ShInv (w : World) (g3 g4 : Nat) (d : List Nat) (k : Nat) (wr : World) : Prop where
  below : Below w.heap.size w wr
  res : wr.heap[w.heap.size]? = some (sobj (List.replicate 20 0))
  src : wr.heap[g3]? = some (hobj d)
  row : ∃ l : List Nat, l.length = 20 ∧ (∀ j, j < k → nth l j = nth d j) ∧ wr.heap[g4]? = some (sobj l)
theorem ShInv.step {w wr : World} {g3 g4 : Nat} {d : List Nat} {k : Nat} (h : ShInv w g3 g4 d k wr) (hk : k < 20) (h3 : g3 ≠ g4) (h4 : w.heap.size < g4) : ShInv w g3 g4 d (k + 1) (wr.setCell ⟨g4, k, none⟩ (.int .u8 ((nth d k : Nat) : Int))) := by
  obtain ⟨l, hl, hp, hr⟩ := h.row
  refine ⟨h.below.setCell (by show w.heap.size ≤ g4; omega) _, (heap_setCell_other _ _ _ _ (by show w.heap.size ≠ g4; omega)).trans h.res, (heap_setCell_other _ _ _ _ (by show g3 ≠ g4; exact h3)).trans h.src, l.set k (nth d k), by simpa using hl, fun j hj => ?_, set_w hr k _⟩
  rw [nth_set _ _ _ _ (by omega)]
  split
  · next e => rw [e]
  · exact hp j (by omega)
end Go.Proofs.Ytbjcigokimieoaa
namespace Go.Proofs.Ytbjcigokimieoaa
open Go.RowKit
theorem eql_short (a b : List Nat) (ha : a.length = 20) (hb : b.length = 20) (w : World) : (Op.equalIn 10000 27 (.agg (wcells .u8 a)) (.agg (wcells .u8 b))).run Try.prog w = .ok (heq a b) w := by
  obtain ⟨i, hi⟩ := Option.isSome_iff_exists.1 u8_info
  have := run_eql_array w Try.underlying27 Try.underlying5 hi u8_cells (fun i => ((nth a i : Nat) : Int)) (fun i => ((nth b i : Nat) : Int)) _ _ (fun j hj => wcells_get .u8 a j (by omega)) (fun j hj => wcells_get .u8 b j (by omega))
  rw [alike_lists 20 a b ha hb] at this
  exact this
theorem RestV.piece {W : World} {v : Value} {bs : List Nat} (h : RestV W v bs) : PieceV W W.heap.size v bs := by
  rcases h with ⟨rfl, rfl⟩ | ⟨g, off, cap, cur, rfl, hg, h1, h2, h3⟩
  · exact Or.inl ⟨⟨_, _, rfl⟩, rfl⟩
  · exact Or.inr ⟨g, off, cap, lt_of_block hg, rfl, fun i hi => (cell_of_row _ _ _ _ _ _ hg).trans (h3 i hi)⟩
theorem PadR.keep {w W W' : World} {v : Value} {z : List Nat} (h : PadR w v z W) (hb : Below W.heap.size W W') : PadR w v z W' :=
  ⟨below_step h.below hb, h.rest.keep (F := fun _ => False) (Keeps.of_below hb) (fun _ _ h => h), h.own⟩
/-- Pieces in a row of their own. -/
theorem pcs_row {W : World} {g : Nat} {xs : List Value} {t : TypeId} {pss : List (List Nat)} (hg : W.heap[g]? = some (.cells xs.toArray t (0, 0))) (hl : xs.length = pss.length) (hp : ∀ (i : Nat) (x : Value) (ys : List Nat), xs[i]? = some x → pss[i]? = some ys → PieceV W W.heap.size x ys) :
    Pcs W W.heap.size (.slice (some ⟨g, 0, none⟩) pss.length pss.length) pss :=
  ⟨fun _ h => h, Or.inr ⟨g, 0, pss.length, lt_of_block hg, rfl, fun i ys hi => by
    have hlt : i < pss.length := (List.getElem?_eq_some_iff.1 hi).1
    obtain ⟨x, hx⟩ : ∃ x, xs[i]? = some x := ⟨xs[i]'(by omega), List.getElem?_eq_getElem (by omega)⟩
    exact ⟨x, by rw [Nat.zero_add, cell_of_row _ _ _ _ _ _ hg, List.getElem?_toArray, hx], hp i x ys hx hi⟩⟩⟩
theorem pcs1 {W : World} {g : Nat} {x : Value} {t : TypeId} {a : List Nat} (hg : W.heap[g]? = some (.cells #[x] t (0, 0))) (hp : PieceV W W.heap.size x a) : Pcs W W.heap.size (.slice (some ⟨g, 0, none⟩) 1 1) [a] :=
  pcs_row (xs := [x]) (pss := [a]) hg rfl (fun i y ys hy hys => by
    match i with
    | 0 => simp at hy hys; subst hy hys; exact hp
    | i + 1 => simp at hys)
theorem pcs2 {W : World} {g : Nat} {x y : Value} {t : TypeId} {a b : List Nat} (hg : W.heap[g]? = some (.cells #[x, y] t (0, 0))) (hp : PieceV W W.heap.size x a) (hq : PieceV W W.heap.size y b) : Pcs W W.heap.size (.slice (some ⟨g, 0, none⟩) 2 2) [a, b] :=
  pcs_row (xs := [x, y]) (pss := [a, b]) hg rfl (fun i z ys hy hys => by
    match i with
    | 0 => simp at hy hys; subst hy hys; exact hp
    | 1 => simp at hy hys; subst hy hys; exact hq
    | i + 2 => simp at hys)
theorem pcs3 {W : World} {g : Nat} {x y z : Value} {t : TypeId} {a b c : List Nat} (hg : W.heap[g]? = some (.cells #[x, y, z] t (0, 0))) (hp : PieceV W W.heap.size x a) (hq : PieceV W W.heap.size y b) (hr : PieceV W W.heap.size z c) : Pcs W W.heap.size (.slice (some ⟨g, 0, none⟩) 3 3) [a, b, c] :=
  pcs_row (xs := [x, y, z]) (pss := [a, b, c]) hg rfl (fun i u ys hy hys => by
    match i with
    | 0 => simp at hy hys; subst hy hys; exact hp
    | 1 => simp at hy hys; subst hy hys; exact hq
    | 2 => simp at hy hys; subst hy hys; exact hr
    | i + 3 => simp at hys)
end Go.Proofs.Ytbjcigokimieoaa
namespace Go.Proofs.Ytbjcigokimieoaa
open Go.RowKit
theorem bytes_elem : Try.prog.elem 22 = 5 := by kernel_rfl
theorem bytes_slice : Try.prog.underlying 22 = some (.slice (Try.prog.elem 22)) := by rw [bytes_elem]; exact Try.underlying22
theorem byte_size (w : World) : (Go.sizeOf (Try.prog.elem 22)).run Try.prog w = .ok 1 w := by rw [bytes_elem]; exact Try.sizeOf5 w
/-- A string of bytes. -/
def nst (l : List Nat) : ByteArray := ⟨(l.map UInt8.ofNat).toArray⟩
theorem nst_size (l : List Nat) : (nst l).size = l.length := by simp [nst, ByteArray.size]
theorem bln_nst (l : List Nat) (h : ∀ y, y ∈ l → y < 256) : (nst l).data.toList.map UInt8.toNat = l := by
  unfold nst
  simp only [List.map_map]
  rw [show (List.map (UInt8.toNat ∘ UInt8.ofNat) l) = List.map id l from List.map_congr_left (fun x hx => by
    have := h x hx
    simp; omega), List.map_id]
theorem run_str {W : World} {S : Nat → Prop} {v : Value} {bs : List Nat} (h : PieceS W S v bs) : (convert 22 9 v).run Try.prog W = .ok (.string (nst bs)) W := by
  rcases h with ⟨⟨a, c, rfl⟩, rfl⟩ | ⟨b, o, c, -, rfl, h⟩
  · cases a with
    | none => exact Lib.run_convert_nil_bytes W _ _ 5 c Try.underlying22 Try.underlying5 Try.underlying9
    | some a =>
      rw [run_convert_bytes_string W 22 9 5 (some a) 0 c Try.underlying22 Try.underlying5 Try.underlying9]
      simp [Conv.bytesToString, loadCells, nst]
      rfl
  · rw [run_convert_bytes_arg W 22 5 Try.underlying22 Try.underlying5 b o bs.length c (bs.map Int.ofNat) (by simp) (fun i hi => by
      rw [h i hi, List.getD_eq_getElem?_getD, List.getElem?_map, nth_get bs i hi]; rfl) 9 Try.underlying9]
    congr 2
    apply ByteArray.ext
    apply Array.toList_inj.1
    rw [strOfNums_data]
    simp [nst]
end Go.Proofs.Ytbjcigokimieoaa
namespace Go.Proofs.Ytbjcigokimieoaa
open Go.RowKit
theorem cell_same {W W' : World} {b o : Nat} (h : W'.heap[b]? = W.heap[b]?) : W'.cell? ⟨b, o, none⟩ = W.cell? ⟨b, o, none⟩ := World.cell?_of_block (a := ⟨b, o, none⟩) h
theorem PieceS.stays {W W' : World} {S : Nat → Prop} {v : Value} {bs : List Nat} (h : PieceS W S v bs) (hb : ∀ b, S b → b < W.heap.size) (hk : ∀ b, S b → b < W.heap.size → W'.heap[b]? = W.heap[b]?) : PieceS W' S v bs := by
  rcases h with h | ⟨b, o, c, h1, rfl, h⟩
  · exact Or.inl h
  · exact Or.inr ⟨b, o, c, h1, rfl, fun i hi => (cell_same (hk b h1 (hb b h1))).trans (h i hi)⟩
/-- A piece below B. -/
def xpc (B : Nat) (v : Value) (bs : List Nat) : Xt := ⟨false, fun b => b < B, fun W => B ≤ W.heap.size ∧ PieceV W B v bs, fun _ _ hk hs h => ⟨Nat.le_trans h.1 hs, PieceS.stays h.2 (fun _ hb => Nat.lt_of_lt_of_le hb h.1) hk⟩⟩
/-- A piece in blocks of S. -/
def xps (S : Nat → Prop) (v : Value) (bs : List Nat) : Xt := ⟨false, S, fun W => (∀ b, S b → b < W.heap.size) ∧ PieceS W S v bs, fun _ _ hk hs h => ⟨fun b hb => Nat.lt_of_lt_of_le (h.1 b hb) hs, PieceS.stays h.2 h.1 hk⟩⟩
theorem PcsS.stays {W W' : World} {S : Nat → Prop} {v : Value} {pss : List (List Nat)} (h : PcsS W S v pss) (hk : ∀ b, S b → b < W.heap.size → W'.heap[b]? = W.heap[b]?) (hs : W.heap.size ≤ W'.heap.size) : PcsS W' S v pss := by
  refine ⟨fun b hb => Nat.lt_of_lt_of_le (h.le b hb) hs, ?_⟩
  have hle := h.le
  rcases h.shape with h1 | ⟨lb, lo, c, hb, rfl, h2⟩
  · exact Or.inl h1
  · refine Or.inr ⟨lb, lo, c, hb, rfl, fun i ys hi => ?_⟩
    obtain ⟨xv, h3, h4⟩ := h2 i ys hi
    exact ⟨xv, (cell_same (hk lb hb (hle lb hb))).trans h3, PieceS.stays h4 hle hk⟩
/-- Pieces in a list, in blocks of S. -/
def xpcs (S : Nat → Prop) (v : Value) (pss : List (List Nat)) : Xt := ⟨false, S, fun W => PcsS W S v pss, fun _ _ hk hs h => PcsS.stays h hk hs⟩
theorem PieceS.mono {W : World} {S S' : Nat → Prop} {v : Value} {bs : List Nat} (h : PieceS W S v bs) (hS : ∀ b, S b → S' b) : PieceS W S' v bs := h.imp id (fun ⟨b, o, c, h1, h2, h3⟩ => ⟨b, o, c, hS b h1, h2, h3⟩)
theorem PcsS.mono {W : World} {S S' : Nat → Prop} {v : Value} {pss : List (List Nat)} (h : PcsS W S v pss) (hS : ∀ b, S b → S' b) (hle : ∀ b, S' b → b < W.heap.size) : PcsS W S' v pss :=
  ⟨hle, h.shape.imp id (fun ⟨lb, lo, c, h1, h2, h3⟩ => ⟨lb, lo, c, hS _ h1, h2, fun i ys hi => by
    obtain ⟨xv, h4, h5⟩ := h3 i ys hi
    exact ⟨xv, h4, h5.mono hS⟩⟩)⟩
theorem Sx.pc {w W : World} {L : List (Nat × Obj)} {X : List Xt} (h : Sx w L X W) (i : Nat) {B : Nat} {v : Value} {bs : List Nat} (hi : X[i]? = some (xpc B v bs)) : PieceV W W.heap.size v bs :=
  have k : B ≤ W.heap.size ∧ PieceV W B v bs := h.x i hi
  PieceV.mono k.2 k.1
theorem Sx.ps {w W : World} {L : List (Nat × Obj)} {X : List Xt} (h : Sx w L X W) (i : Nat) {S : Nat → Prop} {v : Value} {bs : List Nat} (hi : X[i]? = some (xps S v bs)) : PieceV W W.heap.size v bs :=
  have k : (∀ b, S b → b < W.heap.size) ∧ PieceS W S v bs := h.x i hi
  PieceS.mono k.2 k.1
theorem Sx.pcs {w W : World} {L : List (Nat × Obj)} {X : List Xt} (h : Sx w L X W) (i : Nat) {S : Nat → Prop} {v : Value} {pss : List (List Nat)} (hi : X[i]? = some (xpcs S v pss)) : Pcs W W.heap.size v pss :=
  have k : PcsS W S v pss := h.x i hi
  PcsS.mono k k.le (fun _ h => h)
theorem RestV.stays {W W' : World} {v : Value} {bs : List Nat} (h : RestV W v bs) (hk : ∀ b, v.ownBlock = some b → b < W.heap.size → W'.heap[b]? = W.heap[b]?) : RestV W' v bs := by
  rcases h with h | ⟨g, off, cap, cur, rfl, hg, h1, h2, h3⟩
  · exact Or.inl h
  · exact Or.inr ⟨g, off, cap, cur, rfl, (hk g rfl (lt_of_block hg)).trans hg, h1, h2, h3⟩
theorem RestV.lt {W : World} {v : Value} {bs : List Nat} (h : RestV W v bs) : ∀ b, v.ownBlock = some b → b < W.heap.size := fun b hb => by
  rcases h with ⟨rfl, -⟩ | ⟨g, off, cap, cur, rfl, hg, -⟩
  · cases hb
  · simp [Value.ownBlock] at hb; subst hb; exact lt_of_block hg
/-- A slice of bytes of one's own. -/
def xown (w : World) (v : Value) (bs : List Nat) : Xt := ⟨true, fun b => v.ownBlock = some b, fun W => RestV W v bs ∧ ∀ b, v.ownBlock = some b → w.heap.size ≤ b, fun _ _ hk _ h => ⟨RestV.stays h.1 hk, h.2⟩⟩
theorem Sx.own {w W : World} {L : List (Nat × Obj)} {X : List Xt} (h : Sx w L X W) (i : Nat) {v : Value} {bs : List Nat} (hi : X[i]? = some (xown w v bs)) : RestV W v bs := (show RestV W v bs ∧ _ from h.x i hi).1
theorem Sx.ownpc {w W : World} {L : List (Nat × Obj)} {X : List Xt} (h : Sx w L X W) (i : Nat) {v : Value} {bs : List Nat} (hi : X[i]? = some (xown w v bs)) : PieceV W W.heap.size v bs := (h.own i hi).piece
theorem Sx.app {w W W' : World} {L : List (Nat × Obj)} {X : List Xt} (h : Sx w L X W) (i : Nat) {v v' : Value} {bs zs : List Nat} (hi : X[i]? = some (xown w v bs)) (R : RestV W' v' zs) (K : Keeps (fun b => v.ownBlock = some b) W W') (Nn : ∀ b, v'.ownBlock = some b → v.ownBlock = some b ∨ b = W.heap.size) : Sx w L (X.set i (xown w v' zs)) W' := by
  have ho : RestV W v bs ∧ ∀ b, v.ownBlock = some b → w.heap.size ≤ b := h.x i hi
  refine h.writeX i hi rfl rfl ⟨R, fun b hb => ?_⟩ (fun b hb => ?_) (fun b hb => R.lt b hb) (fun b hb => ho.2 b hb) K.os K.tape K.output K.size K.block
  · rcases Nn b hb with h1 | h1
    · exact ho.2 b h1
    · rw [h1]; exact h.below.size
  · rcases Nn b hb with h1 | h1
    · exact Or.inl h1
    · exact Or.inr (by omega)
/-- What a call has given: a slice of bytes of its own. -/
theorem Sx.gave {w W W' : World} {L : List (Nat × Obj)} {X : List Xt} (h : Sx w L X W) {v : Value} {bs : List Nat} (p : PadR W v bs W') : Sx w L (xown w v bs :: X) W' :=
  h.madeX p.below _ ⟨p.rest, fun b hb => Nat.le_trans h.below.size (p.own b hb)⟩ (fun b hb => p.own b hb) (fun b hb => p.rest.lt b hb)
/-- What a function gives back. -/
theorem Sx.padr {w W : World} {L : List (Nat × Obj)} {X : List Xt} (h : Sx w L X W) (i : Nat) {v : Value} {bs : List Nat} (hi : X[i]? = some (xown w v bs)) : PadR w v bs W :=
  have ho : RestV W v bs ∧ ∀ b, v.ownBlock = some b → w.heap.size ≤ b := h.x i hi
  ⟨h.below, ho.1, ho.2⟩
/-- append(s, x...), as a step. -/
theorem wp_app {o : Oper} {a : Act} {K : Act → World → Prop} {Q : Exit → Act → World → Prop} {w W : World} {L : List (Nat × Obj)} {X : List Xt} (S : Sx w L X W) (i : Nat) (s x : Operand)
    (ho : o.op = .call { callee := .builtin .append, args := #[s, x], argTypes := #[22, 22] }) {v xv : Value} (hsv : a.eval s = v) (hxv : a.eval x = xv) {bs ys : List Nat} (hi : X[i]? = some (xown w v bs)) (hs : SrcB W xv ys) (hn : bs.length + ys.length ≤ 70368744177664)
    (h : ∀ v' W', Sx w L (X.set i (xown w v' (bs ++ ys))) W' → K (a.put o.dst v') W') : o.wp Try.prog a W K Q := by
  obtain ⟨v', W', hr, h2, h3, h4⟩ := run_app o.type W v xv bs ys (S.own i hi) hs hn
  unfold Oper.wp execOp
  simp only [ho, resolve, invoke, builtin, Sem.run_bind, Sem.run_pure, Result.andThen_ok, List.map_toArray, List.map_cons, List.map_nil, hsv, hxv, hr]
  exact h _ _ (S.app i hi h2 h3 h4)
/-- A row of bytes that a region has made, as a source. -/
theorem src_row {W : World} {g n c : Nat} {cs : Array Value} {l : List Nat} {t : TypeId} (h : W.heap[g]? = some (.cells cs t (0, 0))) (hl : cs.toList = bcells l) (hn : n = l.length) : SrcB W (.slice (some ⟨g, 0, none⟩) n c) l := by
  subst hn
  refine srcB_slice W g 0 c l (fun i hi => (cell_of_row _ _ _ _ _ _ h).trans ?_)
  have := bcells_get l i hi
  rw [← hl] at this
  rw [Nat.zero_add]; simpa using this
/-- A row of no bytes is a slice of one's own. -/
theorem Sx.empty {w W : World} {L : List (Nat × Obj)} {X : List Xt} (h : Sx w L X W) : Sx w L (xown w (.slice (some ⟨W.heap.size, 0, none⟩) 0 0) [] :: X) (W.alloc (.cells #[] 5)) := h.gave (PadR.new W)
/-- b[lo:hi]. -/
theorem piece_cut {W : World} {S : Nat → Prop} {a : Option Addr} {n c : Nat} {bs : List Nat} (h : PieceS W S (.slice a n c) bs) (lo hi : Nat) (h1 : lo ≤ hi) (h2 : hi ≤ bs.length) (hc : bs.length ≤ c) :
    ∃ a', sliced a lo hi c 1 = .slice a' (hi - lo) (c - lo) ∧ PieceS W S (.slice a' (hi - lo) (c - lo)) ((bs.drop lo).take (hi - lo)) := by
  have hl : ((bs.drop lo).take (hi - lo)).length = hi - lo := by rw [List.length_take, List.length_drop]; omega
  refine ⟨_, rfl, ?_⟩
  by_cases h0 : hi = lo
  · subst h0
    refine Or.inl ⟨⟨_, _, by rw [Nat.sub_self]⟩, by rw [Nat.sub_self]; rfl⟩
  · rcases h with ⟨-, h3⟩ | ⟨b, o, c', hb, h3, h4⟩
    · exfalso; rw [h3] at h2; simp at h2; omega
    · injection h3 with e1 e2 e3
      subst e1
      rw [if_neg (by omega)]
      refine Or.inr ⟨b, o + lo, c - lo, hb, ?_, fun i hi' => ?_⟩
      · have : (⟨b, o, none⟩ : Addr).add (lo * 1) = ⟨b, o + lo, none⟩ := by unfold Addr.add; split <;> simp_all
        simp only [Option.map_some, this, hl]
      · rw [hl] at hi'
        rw [nth_take _ _ _ hi', nth_drop, Nat.add_assoc]; exact h4 (lo + i) (by omega)
section cuts
variable {o : Oper} {a : Act} {K : Act → World → Prop} {Q : Exit → Act → World → Prop} {W : World} {S : Nat → Prop} {A : Option Addr} {n c : Nat} {bs : List Nat} {x y z : Operand} {k k' : IntKind}
theorem wp_cut_lh {lo hi : Nat} (ho : o.op = .slice 22 x (some y) (some z) none) (hx : a.eval x = .slice A n c) (hy : a.eval y = .int k (lo : Int)) (hz : a.eval z = .int k' (hi : Int)) (hp : PieceS W S (.slice A n c) bs) (h1 : lo ≤ hi) (h2 : hi ≤ bs.length) (hc : bs.length ≤ c)
    (hk : ∀ a', PieceS W S (.slice a' (hi - lo) (c - lo)) ((bs.drop lo).take (hi - lo)) → K (a.put o.dst (.slice a' (hi - lo) (c - lo))) W) : o.wp Try.prog a W K Q := by
  obtain ⟨a', e, h⟩ := piece_cut hp lo hi h1 h2 hc
  have hr : (Instr.sliceAt 22 (.slice A n c) (some (.int k (lo : Int))) (some (.int k' (hi : Int))) none).run Try.prog W = .ok (.slice a' (hi - lo) (c - lo)) W := by
    rw [run_sliceAt_slice _ _ _ _ _ _ bytes_slice, run_slice_lh W 22 A n c bytes_slice k k' (lo : Int) (hi : Int) (Int.natCast_nonneg _) (by omega) (by omega), byte_size]
    simp only [Result.andThen_ok, Int.toNat_natCast, e]
  unfold Oper.wp execOp
  simp only [ho, hx, hy, hz, Option.map_some, Option.map_none, Sem.run_bind, hr, Result.andThen_ok, Sem.run_pure]
  exact hk a' h
theorem wp_cut_l {lo : Nat} (ho : o.op = .slice 22 x (some y) none none) (hx : a.eval x = .slice A n c) (hy : a.eval y = .int k (lo : Int)) (hp : PieceS W S (.slice A n c) bs) (hn : n = bs.length) (h1 : lo ≤ bs.length) (hc : bs.length ≤ c)
    (hk : ∀ a', PieceS W S (.slice a' (bs.length - lo) (c - lo)) (bs.drop lo) → K (a.put o.dst (.slice a' (bs.length - lo) (c - lo))) W) : o.wp Try.prog a W K Q := by
  subst hn
  obtain ⟨a', e, h⟩ := piece_cut hp lo bs.length h1 (Nat.le_refl _) hc
  rw [show (bs.drop lo).take (bs.length - lo) = bs.drop lo from List.take_of_length_le (by rw [List.length_drop]; omega)] at h
  have hr : (Instr.sliceAt 22 (.slice A bs.length c) (some (.int k (lo : Int))) none none).run Try.prog W = .ok (.slice a' (bs.length - lo) (c - lo)) W := by
    rw [run_sliceAt_slice _ _ _ _ _ _ bytes_slice, run_slice_l W 22 A bs.length c bytes_slice k (lo : Int) (Int.natCast_nonneg _) (by omega), byte_size]
    simp only [Result.andThen_ok, Int.toNat_natCast, e]
  unfold Oper.wp execOp
  simp only [ho, hx, hy, Option.map_some, Option.map_none, Sem.run_bind, hr, Result.andThen_ok, Sem.run_pure]
  exact hk a' h
theorem wp_cut_h {hi : Nat} (ho : o.op = .slice 22 x none (some z) none) (hx : a.eval x = .slice A n c) (hz : a.eval z = .int k' (hi : Int)) (hp : PieceS W S (.slice A n c) bs) (h2 : hi ≤ bs.length) (hc : bs.length ≤ c)
    (hk : ∀ a', PieceS W S (.slice a' hi c) (bs.take hi) → K (a.put o.dst (.slice a' hi c)) W) : o.wp Try.prog a W K Q := by
  obtain ⟨a', e, h⟩ := piece_cut hp 0 hi (Nat.zero_le _) h2 hc
  rw [List.drop_zero, Nat.sub_zero, Nat.sub_zero] at h
  rw [Nat.sub_zero, Nat.sub_zero] at e
  have hr : (Instr.sliceAt 22 (.slice A n c) none (some (.int k' (hi : Int))) none).run Try.prog W = .ok (.slice a' hi c) W := by
    rw [run_sliceAt_slice _ _ _ _ _ _ bytes_slice, run_slice_h W 22 A n c bytes_slice k' (hi : Int) (Int.natCast_nonneg _) (by omega), byte_size]
    simp only [Result.andThen_ok, Int.toNat_natCast, e]
  unfold Oper.wp execOp
  simp only [ho, hx, hz, Option.map_some, Option.map_none, Sem.run_bind, hr, Result.andThen_ok, Sem.run_pure]
  exact hk a' h
end cuts
/-- A piece of one byte or more lies somewhere. -/
theorem Sx.lies {w W : World} {L : List (Nat × Obj)} {X : List Xt} (h : Sx w L X W) (i : Nat) {q : Xt} (hi : X[i]? = some q) {B : Nat} {A : Option Addr} {n c : Nat} {bs : List Nat} (hq : q = xpc B (.slice A n c) bs) (h0 : 0 < bs.length) : ∃ b o, A = some ⟨b, o, none⟩ := by
  subst hq
  rcases h.pc i hi with ⟨-, h1⟩ | ⟨b, o, c', -, h1, -⟩
  · rw [h1] at h0; simp at h0
  · injection h1 with e; exact ⟨b, o, e⟩
theorem PieceS.at {W : World} {S : Nat → Prop} {b o n c : Nat} {bs : List Nat} (h : PieceS W S (.slice (some ⟨b, o, none⟩) n c) bs) (k a : Nat) (hk : k < bs.length) (ha : a = o + k) : W.cell? ⟨b, a, none⟩ = some (.int .u8 ((nth bs k : Nat) : Int)) := by
  subst ha
  rcases h with ⟨-, h1⟩ | ⟨b', o', c', -, h1, h2⟩
  · rw [h1] at hk; simp at hk
  · injection h1 with e; injection e with e; injection e with e1 e2; subst e1 e2; exact h2 k hk
/-- What is sliced off hangs on the same blocks. -/
theorem Sx.cutpc {w W : World} {L : List (Nat × Obj)} {X : List Xt} (h : Sx w L X W) (i : Nat) {B : Nat} {v v' : Value} {bs bs' : List Nat} (hi : X[i]? = some (xpc B v bs)) (hp : PieceS W (fun b => b < B) v' bs') : Sx w L (xpc B v' bs' :: X) W :=
  h.dup i hi rfl _ rfl (fun _ h => h) ⟨(show B ≤ W.heap.size ∧ _ from h.x i hi).1, hp⟩
theorem Sx.pcS {w W : World} {L : List (Nat × Obj)} {X : List Xt} (h : Sx w L X W) (i : Nat) {B : Nat} {v : Value} {bs : List Nat} (hi : X[i]? = some (xpc B v bs)) : PieceS W (fun b => b < B) v bs := (show B ≤ W.heap.size ∧ PieceV W B v bs from h.x i hi).2
theorem Sx.psS {w W : World} {L : List (Nat × Obj)} {X : List Xt} (h : Sx w L X W) (i : Nat) {S : Nat → Prop} {v : Value} {bs : List Nat} (hi : X[i]? = some (xps S v bs)) : PieceS W S v bs := (show (∀ b, S b → b < W.heap.size) ∧ PieceS W S v bs from h.x i hi).2
end Go.Proofs.Ytbjcigokimieoaa
namespace Go.Proofs.Ytbjcigokimieoaa
open Go.RowKit
theorem PadR.nil' {w W : World} {bs : List Nat} (h : Below w.heap.size w W) (he : bs = []) : PadR w (.slice none 0 0) bs W := ⟨h, Or.inl ⟨rfl, he⟩, fun b hb => by cases hb⟩
theorem Sx.ofpc {w : World} {v : Value} {bs : List Nat} (h : PieceV w w.heap.size v bs) : Sx w [] [xpc w.heap.size v bs] w := (Sx.nil w).addX _ ⟨Nat.le_refl _, h⟩ (fun _ h => by cases h) (fun _ h => h) (fun _ h => by cases h)
set_option maxRecDepth 100000 in
set_option maxHeartbeats 4000000 in
theorem clone_c (v : Value) (bs : List Nat) (w : World) (hp : PieceV w w.heap.size v bs) (hlen : bs.length ≤ 1000000000) :
    Calls Try.prog 19 #[v] w fun e w' => ∃ v', e = .returned v' ∧ PadR w v' bs w' := by
  obtain ⟨a, c, rfl⟩ := hp.shape
  have S0 := Sx.ofpc hp
  cases a with
  | none =>
    have he : bs = [] := by rcases hp with h | ⟨b, o, c', _, h, _⟩; exact h.2; injection h with h; cases h
    have HE := Lib.hid he
    clear he
    clear hp
    have sk : Try.f19.body = some (.seq (rgn Try.f19 0) (.seq (.seq (rgn Try.f19 1) (.cond (.tmp 4) (.seq (rgn Try.f19 2) .ret) .skip)) (.seq (rgn Try.f19 3) .ret))) := by kernel_rfl
    refine enter 8 [(0, .slice none (bs.length) (c))] Try.func19 sk (by rfl) rfl S0 (fun T W hF hS => ?_)
    clear sk S0
    refine wp_seq ?_
    conv => arg 2; whnf
    refine wp_region_lit ?_
    refine so_p hF (.slice none 0 0) (fun K hK => wp_assign rfl rfl hK) ?_; clear hF T; intro T hF
    refine wpList_nil ?_
    refine then_normal ?_
    refine wp_seq ?_
    refine wp_seq ?_
    conv => arg 2; whnf
    refine wp_region_lit ?_
    refine so_mv hF 1 ?_; clear hF T; intro T hF
    refine so_pure hF rfl (wanted_none rfl _) (by decide) rfl (.bool true) (fun K hK => ?_) ?_
    next =>
     have f3 := hF.ev 0 rfl
     have hn : (Op.equalIn 10000 22 (.slice none bs.length c) (.slice none 0 0)).run Try.prog W = .ok true W := Lib.run_equalIn_slice_nil W 9999 _ _ _ _ _ _ _ Try.underlying22
     go_simp
     exact hK.out
    clear hF
    clear T
    intro T hF
    refine wpList_nil ?_
    refine then_normal ?_
    refine wp_cond_true (hF.op 0 rfl) ?_
    refine wp_seq ?_
    conv => arg 2; whnf
    refine wp_region_lit ?_
    replace hF : Fr 8 ⟨T, []⟩ [] := hF.pick []
    refine so_p hF (.slice none 0 0) (fun K hK => wp_assign rfl rfl hK) ?_; clear hF T; intro T hF
    refine wpList_nil ?_
    refine then_normal ?_
    refine wp_ret ?_
    refine then_ret ?_
    refine bodyPost_ret (v := .slice none 0 0) (results_t1 Try.results19 (hF.ev 0 rfl)) rfl ?_
    exact ⟨_, rfl, PadR.nil' hS.below HE.out⟩
  | some a =>
    clear hp
    have sk : Try.f19.body = some (.seq (rgn Try.f19 0) (.seq (.seq (rgn Try.f19 1) (.cond (.tmp 4) (.seq (rgn Try.f19 2) .ret) .skip)) (.seq (rgn Try.f19 3) .ret))) := by kernel_rfl
    refine enter 8 [(0, .slice (some a) (bs.length) (c))] Try.func19 sk (by rfl) rfl S0 (fun T W hF hS => ?_)
    clear sk S0
    refine wp_seq ?_
    conv => arg 2; whnf
    refine wp_region_lit ?_
    refine so_p hF (.slice none 0 0) (fun K hK => wp_assign rfl rfl hK) ?_; clear hF T; intro T hF
    refine wpList_nil ?_
    refine then_normal ?_
    refine wp_seq ?_
    refine wp_seq ?_
    conv => arg 2; whnf
    refine wp_region_lit ?_
    refine so_mv hF 1 ?_; clear hF T; intro T hF
    refine so_pure hF rfl (wanted_none rfl _) (by decide) rfl (.bool false) (fun K hK => ?_) ?_
    next =>
     have f3 := hF.ev 0 rfl
     have hn : (Op.equalIn 10000 22 (.slice (some a) bs.length c) (.slice none 0 0)).run Try.prog W = .ok false W := Lib.run_equalIn_slice_nil W 9999 _ _ _ _ _ _ _ Try.underlying22
     go_simp
     exact hK.out
    clear hF
    clear T
    intro T hF
    refine wpList_nil ?_
    refine then_normal ?_
    refine wp_cond_false (hF.op 0 rfl) ?_
    refine wp_skip ?_
    refine then_normal ?_
    refine wp_seq ?_
    conv => arg 2; whnf
    refine wp_region_lit ?_
    refine so_step hF rfl (wanted_none rfl _) (by decide) rfl (fun v W' => ∃ g, (.slice (some ⟨g, 0, none⟩) 0 0 : Value) = v ∧ Sx w [] [xown w (.slice (some ⟨g, 0, none⟩) 0 0) [], xpc w.heap.size (.slice (some a) (bs.length) (c)) bs] W') (fun K hK => ?_) ?_
    next =>
     go_simp
     exact hK.out _ _ ⟨_, rfl, hS.empty⟩
    clear hS
    clear hF
    clear T
    rintro v T W1 ⟨g5, rfl, hS⟩ hF
    try clear W
    obtain ⟨W, rfl⟩ : ∃ x, x = W1 := ⟨_, rfl⟩
    refine so_mv hF 4 ?_; clear hF T; intro T hF
    refine so_step hF rfl (wanted_none rfl _) (by decide) rfl (fun v W' => ∃ aq cq, .slice aq (bs.length) cq = v ∧ Sx w [] (List.set [xown w (.slice (some ⟨g5, 0, none⟩) 0 0) [], xpc w.heap.size (.slice (some a) (bs.length) (c)) bs] 0 (xown w v ([] ++ bs))) W') (fun K hK => ?_) ?_
    next =>
     refine wp_app hS 0 (.tmp 5) (.tmp 6) rfl (hF.op 1 rfl) (hF.op 0 rfl) rfl (PieceV.src (hS.pc 1 rfl)) (by first | omega | (simp; omega)) (fun v' W' hS' => ?_)
     obtain ⟨a, c, e⟩ := (hS'.own 0 rfl).shape
     exact hK.out _ _ ⟨a, c, by rw [e]; simp, hS'⟩
    clear hF hS
    clear T
    rintro v T W1 ⟨a7, c7, rfl, hS⟩ hF
    try clear W
    obtain ⟨W, rfl⟩ : ∃ x, x = W1 := ⟨_, rfl⟩
    replace hS : Sx w [] [xown w (.slice a7 (bs.length) c7) ([] ++ bs), xpc w.heap.size (.slice (some a) (bs.length) (c)) bs] W := hS
    replace hF : Fr 8 ⟨T, []⟩ [(7, .slice a7 (bs.length) (c7))] := hF.pick [0]
    refine so_as hF 0 ?_; clear hF T; intro T hF
    refine wpList_nil ?_
    refine then_normal ?_
    refine wp_ret ?_
    refine bodyPost_ret (v := .slice a7 (bs.length) (c7)) (results_t1 Try.results19 (hF.ev 0 rfl)) rfl ?_
    exact ⟨_, rfl, hS.padr 0 rfl⟩
end Go.Proofs.Ytbjcigokimieoaa
namespace Go.Proofs.Ytbjcigokimieoaa
open Go.RowKit
/-- The bytes of a text. -/
def sb (s : ByteArray) : List Nat := s.data.toList.map UInt8.toNat
theorem sb_len (s : ByteArray) : (sb s).length = s.size := by simp [sb]
theorem sb_lt (s : ByteArray) : ∀ y, y ∈ sb s → y < 256 := by
  intro y hy; simp only [sb, List.mem_map] at hy; obtain ⟨c, -, rfl⟩ := hy; exact c.toNat_lt
theorem nst_sb (s : ByteArray) : nst (sb s) = s := by
  unfold nst sb
  simp only [List.map_map]
  rw [show (List.map (UInt8.ofNat ∘ UInt8.toNat) s.data.toList) = List.map id s.data.toList from List.map_congr_left (fun x _ => by simp), List.map_id]
theorem sb_nst (l : List Nat) (h : ∀ y, y ∈ l → y < 256) : sb (nst l) = l := bln_nst l h
/-- []byte(s), as a step. -/
theorem wp_bytes {o : Oper} {a : Act} {K : Act → World → Prop} {Q : Exit → Act → World → Prop} {w W : World} {L : List (Nat × Obj)} {X : List Xt} (S : Sx w L X W) {x : Operand} {s : ByteArray} (ho : o.op = .convert 9 22 x) (hx : a.eval x = .string s)
    (h : ∀ g c W', w.heap.size ≤ g → W.heap.size ≤ g → Sx w L (xps (fun b => b = g) (.slice (some ⟨g, 0, none⟩) (sb s).length c) (sb s) :: X) W' → K (a.put o.dst (.slice (some ⟨g, 0, none⟩) (sb s).length c)) W') : o.wp Try.prog a W K Q := by
  have hb : Below W.heap.size W (Lib.bytesWorld W 5 s) := ⟨rfl, rfl, rfl, by rw [Lib.bytesWorld_size]; omega, fun b hb => Lib.bytesWorld_at_old W _ s b hb⟩
  have hp : PieceS (Lib.bytesWorld W 5 s) (fun b => b = W.heap.size) (.slice (some ⟨W.heap.size, 0, none⟩) (sb s).length (grownCap W s.size 0 5)) (sb s) :=
    Or.inr ⟨W.heap.size, 0, _, rfl, rfl, fun i hi => by
      rw [sb_len] at hi
      rw [Nat.zero_add, Lib.bytesWorld_cell W _ s i hi]
      have e : nth (sb s) i = (s.data.toList.getD i 0).toNat := by
        have hi2 : i < s.data.toList.length := by simpa using hi
        unfold nth sb
        rw [List.getD_eq_getElem?_getD, List.getElem?_map, List.getD_eq_getElem?_getD, List.getElem?_eq_getElem hi2]; rfl
      rw [e]⟩
  have hr := Lib.run_convert_string_bytes (P := Try.prog) W 9 22 5 s Try.underlying9 Try.underlying22 Try.underlying5
  have hlt : W.heap.size < (Lib.bytesWorld W 5 s).heap.size := by rw [Lib.bytesWorld_size]; omega
  unfold Oper.wp execOp
  simp only [ho, hx, Sem.run_bind, hr, Result.andThen_ok, Sem.run_pure]
  rw [← sb_len]
  rw [← sb_len] at hp
  exact h _ _ _ S.below.size (Nat.le_refl _) (S.madeX hb _ ⟨fun b hb => hb ▸ hlt, hp⟩ (fun b hb => hb ▸ Nat.le_refl _) (fun b hb => hb ▸ hlt))
/-- string(b), as a step. -/
theorem wp_str {o : Oper} {a : Act} {K : Act → World → Prop} {Q : Exit → Act → World → Prop} {W : World} {S : Nat → Prop} {x : Operand} {v : Value} {bs : List Nat} (ho : o.op = .convert 22 9 x) (hx : a.eval x = v) (hp : PieceS W S v bs)
    (hk : Hid (K (a.put o.dst (.string (nst bs))) W)) : o.wp Try.prog a W K Q := by
  unfold Oper.wp execOp
  simp only [ho, hx, Sem.run_bind, run_str hp, Result.andThen_ok, Sem.run_pure]
  exact hk.out
/-- A row of bytes as a piece. -/
theorem row_piece {W : World} {g n c : Nat} {cs : Array Value} {l : List Nat} {t : TypeId} (h : W.heap[g]? = some (.cells cs t (0, 0))) (hl : cs.toList = bcells l) (hn : n = l.length) : PieceV W W.heap.size (.slice (some ⟨g, 0, none⟩) n c) l := by
  subst hn
  refine Or.inr ⟨g, 0, c, lt_of_block h, rfl, fun i hi => (cell_of_row _ _ _ _ _ _ h).trans ?_⟩
  have := bcells_get l i hi
  rw [← hl] at this
  rw [Nat.zero_add]; simpa using this
/-- A word that pushes. -/
def pw (x : List Nat) : List Nat := if x.length ≤ 75 then x.length :: x else if x.length < 256 then 76 :: x.length :: x else 77 :: x.length % 256 :: x.length / 256 % 256 :: x
def pws (l : List (List Nat)) : List Nat := (l.map pw).flatten
theorem pws_snoc (l : List (List Nat)) (k : Nat) (x : List Nat) (h : l[k]? = some x) : pws (l.take (k + 1)) = pws (l.take k) ++ pw x := by
  unfold pws
  rw [List.take_add_one, h]; simp
theorem pw1 (x : List Nat) (h : x.length ≤ 75) : pw x = [x.length] ++ x := by simp [pw, h]
theorem pw2 (x : List Nat) (h : ¬ x.length ≤ 75) (h2 : x.length < 256) : pw x = [76, x.length] ++ x := by simp [pw, h, h2]
theorem pw3 (x : List Nat) (h : ¬ x.length ≤ 75) (h2 : ¬ x.length < 256) : pw x = [77, x.length % 256, x.length / 256 % 256] ++ x := by simp [pw, h, h2]
theorem pws_take_le (l : List (List Nat)) (k : Nat) : (pws (l.take k)).length ≤ (pws l).length := by
  have e : pws l = pws (l.take k) ++ pws (l.drop k) := by
    unfold pws
    rw [← List.flatten_append, ← List.map_append, List.take_append_drop]
  rw [e, List.length_append]; omega
theorem pw_len (x : List Nat) : x.length < (pw x).length ∧ (pw x).length ≤ x.length + 3 := by
  unfold pw
  split
  · simp
  · split <;> simp <;> omega
theorem pw_lt (x : List Nat) (h : ∀ y, y ∈ x → y < 256) : ∀ y, y ∈ pw x → y < 256 := by
  intro y hy
  unfold pw at hy
  split at hy
  · rcases List.mem_cons.1 hy with rfl | hy
    · omega
    · exact h y hy
  · split at hy
    · rcases List.mem_cons.1 hy with rfl | hy
      · omega
      · rcases List.mem_cons.1 hy with rfl | hy
        · omega
        · exact h y hy
    · rcases List.mem_cons.1 hy with rfl | hy
      · omega
      · rcases List.mem_cons.1 hy with rfl | hy
        · omega
        · rcases List.mem_cons.1 hy with rfl | hy
          · omega
          · exact h y hy
theorem pws_lt (l : List (List Nat)) (h : ∀ x, x ∈ l → ∀ y, y ∈ x → y < 256) : ∀ y, y ∈ pws l → y < 256 := by
  intro y hy
  unfold pws at hy
  obtain ⟨z, hz, hyz⟩ := List.mem_flatten.1 hy
  obtain ⟨x, hx, rfl⟩ := List.mem_map.1 hz
  exact pw_lt x (h x hx) y hyz
theorem pws_le (l : List (List Nat)) : (pws l).length ≤ l.flatten.length + 3 * l.length := by
  induction l with
  | nil => simp [pws]
  | cons x l ih =>
    have h := pw_len x
    have e : pws (x :: l) = pw x ++ pws l := rfl
    rw [e, List.length_append, List.flatten_cons, List.length_append, List.length_cons]; omega
/-- How many bytes a word's head has, and how many it pushes. -/
def hd (b : List Nat) : Nat := if nth b 0 = 76 then 2 else if nth b 0 = 77 then 3 else 1
def sz (b : List Nat) : Nat := if nth b 0 ≤ 75 then nth b 0 else if nth b 0 = 76 then nth b 1 else if nth b 0 = 77 then nth b 1 + 256 * nth b 2 else 0
/-- The first word: its code, what it pushes, how many bytes it has. -/
def nxt (b : List Nat) : Option (Nat × List Nat × Nat) :=
  if b = [] then none
  else if 81 ≤ nth b 0 ∧ nth b 0 ≤ 96 then some (nth b 0, [nth b 0 - 80], 1)
  else if b.length < hd b + sz b then none
  else some (nth b 0, (b.drop (hd b)).take (sz b), hd b + sz b)
theorem nxt_nil (b : List Nat) (h : b.length = 0) : nxt b = none := by
  obtain rfl : b = [] := List.eq_nil_of_length_eq_zero h
  rfl
theorem nxt_one (b : List Nat) (h : ¬ b.length = 0) (c : Nat) (hc : nth b 0 = c) (h1 : 81 ≤ c) (h2 : c ≤ 96) : nxt b = some (c, [c - 80], 1) := by
  subst hc
  unfold nxt
  rw [if_neg (by rintro rfl; exact h rfl), if_pos ⟨h1, h2⟩]
theorem nxt_short (b : List Nat) (h : ¬ b.length = 0) (h1 : ¬ (81 ≤ nth b 0 ∧ nth b 0 ≤ 96)) (h2 : b.length < hd b + sz b) : nxt b = none := by
  unfold nxt
  rw [if_neg (by rintro rfl; exact h rfl), if_neg h1, if_pos h2]
theorem nxt_ok (b : List Nat) (h : ¬ b.length = 0) (h1 : ¬ (81 ≤ nth b 0 ∧ nth b 0 ≤ 96)) (h2 : ¬ b.length < hd b + sz b) : nxt b = some (nth b 0, (b.drop (hd b)).take (sz b), hd b + sz b) := by
  unfold nxt
  rw [if_neg (by rintro rfl; exact h rfl), if_neg h1, if_neg h2]
theorem nxt_le {b : List Nat} {c : Nat} {d : List Nat} {u : Nat} (h : nxt b = some (c, d, u)) : 0 < u ∧ u ≤ b.length ∧ d.length ≤ b.length := by
  unfold nxt at h
  split at h
  · cases h
  · rename_i hb
    have hpos : 0 < b.length := List.length_pos_iff.2 hb
    split at h
    · injection h with h; injection h with h1 h2; injection h2 with h2 h3
      subst h2 h3; simp; omega
    · split at h
      · cases h
      · injection h with h; injection h with h1 h2; injection h2 with h2 h3
        subst h2 h3
        have : 0 < hd b := by unfold hd; split <;> (try split) <;> omega
        rw [List.length_take, List.length_drop]; omega
theorem nxt_lt {b : List Nat} {c : Nat} {d : List Nat} {u : Nat} (h : nxt b = some (c, d, u)) (hb : ∀ y, y ∈ b → y < 256) : ∀ y, y ∈ d → y < 256 := by
  unfold nxt at h
  split at h
  · cases h
  · split at h
    · injection h with h; injection h with h1 h2; injection h2 with h2 h3
      subst h2
      intro y hy
      rw [List.mem_singleton] at hy; omega
    · split at h
      · cases h
      · injection h with h; injection h with h1 h2; injection h2 with h2 h3
        subst h2
        exact fun y hy => hb y (List.mem_of_mem_drop (List.mem_of_mem_take hy))
/-- The first pieces that are pushed, and what is behind them. -/
def parS (b : List Nat) : Nat → Option (List (List Nat) × List Nat)
  | 0 => some ([], b)
  | k + 1 => match parS b k with
    | none => none
    | some (l, r) => match nxt r with
      | none => none
      | some (_, d, u) => some (l ++ [d], r.drop u)
theorem parS_some {b : List Nat} {k : Nat} {l : List (List Nat)} {r : List Nat} (h : parS b k = some (l, r)) {c : Nat} {d : List Nat} {u : Nat} (hn : nxt r = some (c, d, u)) : parS b (k + 1) = some (l ++ [d], r.drop u) := by
  simp [parS, h, hn]
theorem parS_none {b : List Nat} {k : Nat} {l : List (List Nat)} {r : List Nat} (h : parS b k = some (l, r)) (hn : nxt r = none) : ∀ m, parS b (k + 1 + m) = none
  | 0 => by simp [parS, h, hn]
  | m + 1 => by
    show (match parS b (k + 1 + m) with | none => none | some (l, r) => match nxt r with | none => none | some (_, d, u) => some (l ++ [d], r.drop u)) = none
    rw [parS_none h hn m]
theorem parS_len {b : List Nat} : ∀ {k : Nat} {l : List (List Nat)} {r : List Nat}, parS b k = some (l, r) → l.length = k
  | 0, l, r, h => by
    simp only [parS, Option.some.injEq, Prod.mk.injEq] at h
    rw [← h.1]; rfl
  | k + 1, l, r, h => by
    cases h1 : parS b k with
    | none => simp [parS, h1] at h
    | some lr =>
      obtain ⟨l0, r0⟩ := lr
      have ih := parS_len h1
      cases h2 : nxt r0 with
      | none => simp [parS, h1, h2] at h
      | some cdu =>
        obtain ⟨c, d, u⟩ := cdu
        rw [parS_some h1 h2] at h
        injection h with h; injection h with h3 h4
        rw [← h3, List.length_append, ih]; rfl
theorem parS_le {b : List Nat} (hb : ∀ y, y ∈ b → y < 256) : ∀ {k : Nat} {l : List (List Nat)} {r : List Nat}, parS b k = some (l, r) → l.length = k ∧ (∀ x, x ∈ l → x.length ≤ b.length ∧ ∀ y, y ∈ x → y < 256) ∧ r.length ≤ b.length ∧ ∀ y, y ∈ r → y < 256
  | 0, l, r, h => by
    simp only [parS, Option.some.injEq, Prod.mk.injEq] at h
    obtain ⟨rfl, rfl⟩ := h
    exact ⟨rfl, fun x hx => (by cases hx), Nat.le_refl _, hb⟩
  | k + 1, l, r, h => by
    cases h1 : parS b k with
    | none => simp [parS, h1] at h
    | some lr =>
      obtain ⟨l0, r0⟩ := lr
      obtain ⟨e1, e2, e3, e4⟩ := parS_le hb h1
      cases h2 : nxt r0 with
      | none => simp [parS, h1, h2] at h
      | some cdu =>
        obtain ⟨c, d, u⟩ := cdu
        rw [parS_some h1 h2] at h
        simp only [Option.some.injEq, Prod.mk.injEq] at h
        obtain ⟨rfl, rfl⟩ := h
        have hle := nxt_le h2
        refine ⟨by rw [List.length_append, e1]; rfl, fun x hx => ?_, by rw [List.length_drop]; omega, fun y hy => e4 y (List.mem_of_mem_drop hy)⟩
        rcases List.mem_append.1 hx with hx | hx
        · exact e2 x hx
        · rw [List.mem_singleton] at hx; subst hx
          exact ⟨by omega, nxt_lt h2 e4⟩
/-- What is written reads back. -/
theorem nxt_pw (x r : List Nat) (hx : x.length < 65536) : ∃ c, nxt (pw x ++ r) = some (c, x, (pw x).length) := by
  unfold pw
  split
  · rename_i h
    refine ⟨x.length, ?_⟩
    have e0 : nth (x.length :: x ++ r) 0 = x.length := rfl
    have eh : hd (x.length :: x ++ r) = 1 := by unfold hd; rw [e0, if_neg (by omega), if_neg (by omega)]
    have es : sz (x.length :: x ++ r) = x.length := by unfold sz; rw [e0, if_pos h]
    rw [nxt_ok _ (by simp) (by rw [e0]; omega) (by rw [eh, es]; simp; omega), e0, eh, es]
    simp; omega
  · rename_i h
    split
    · rename_i h2
      refine ⟨76, ?_⟩
      have e0 : nth (76 :: x.length :: x ++ r) 0 = 76 := rfl
      have e1 : nth (76 :: x.length :: x ++ r) 1 = x.length := rfl
      have eh : hd (76 :: x.length :: x ++ r) = 2 := by unfold hd; rw [e0, if_pos rfl]
      have es : sz (76 :: x.length :: x ++ r) = x.length := by unfold sz; rw [e0, if_neg (by omega), if_pos rfl, e1]
      rw [nxt_ok _ (by simp) (by rw [e0]; omega) (by rw [eh, es]; simp; omega), e0, eh, es]
      simp; omega
    · rename_i h2
      refine ⟨77, ?_⟩
      have e0 : nth (77 :: x.length % 256 :: x.length / 256 % 256 :: x ++ r) 0 = 77 := rfl
      have e1 : nth (77 :: x.length % 256 :: x.length / 256 % 256 :: x ++ r) 1 = x.length % 256 := rfl
      have e2 : nth (77 :: x.length % 256 :: x.length / 256 % 256 :: x ++ r) 2 = x.length / 256 % 256 := rfl
      have eh : hd (77 :: x.length % 256 :: x.length / 256 % 256 :: x ++ r) = 3 := by unfold hd; rw [e0, if_neg (by omega), if_pos rfl]
      have es : sz (77 :: x.length % 256 :: x.length / 256 % 256 :: x ++ r) = x.length := by unfold sz; rw [e0, if_neg (by omega), if_neg (by omega), if_pos rfl, e1, e2]; omega
      rw [nxt_ok _ (by simp) (by rw [e0]; omega) (by rw [eh, es]; simp; omega), e0, eh, es]
      simp; omega
theorem parS_pws (xs : List (List Nat)) (r : List Nat) (hx : ∀ x, x ∈ xs → x.length < 65536) : ∀ k, k ≤ xs.length → parS (pws xs ++ r) k = some (xs.take k, pws (xs.drop k) ++ r)
  | 0, _ => by simp [parS]
  | k + 1, hk => by
    have ih := parS_pws xs r hx k (by omega)
    have hd0 : xs.drop k = xs[k] :: xs.drop (k + 1) := List.drop_eq_getElem_cons (by omega)
    have e : pws (xs.drop k) ++ r = pw xs[k] ++ (pws (xs.drop (k + 1)) ++ r) := by
      rw [hd0]
      show (List.map pw (xs[k] :: _)).flatten ++ r = _
      rw [List.map_cons, List.flatten_cons, List.append_assoc]; rfl
    obtain ⟨c, hc⟩ := nxt_pw xs[k] (pws (xs.drop (k + 1)) ++ r) (hx _ (List.getElem_mem (by omega)))
    rw [e] at ih
    rw [parS_some ih hc, List.drop_left, List.take_add_one, List.getElem?_eq_getElem (by omega)]
    rfl
theorem parS_all (xs : List (List Nat)) (r : List Nat) (hx : ∀ x, x ∈ xs → x.length < 65536) : parS (pws xs ++ r) xs.length = some (xs, r) := by
  rw [parS_pws xs r hx _ (Nat.le_refl _), List.take_length, List.drop_length]; rfl
/-- What Next gives back. -/
def RetN (w : World) (bs : List Nat) (e : Ending) (w' : World) : Prop :=
  (nxt bs = none ∧ e = .returned (.tuple #[.int .u8 0, .slice none 0 0, .int .i64 0, .int .i64 71]) ∧ Below w.heap.size w w') ∨
    ∃ c d u v, nxt bs = some (c, d, u) ∧ e = .returned (.tuple #[.int .u8 ((c : Nat) : Int), v, .int .i64 ((u : Nat) : Int), .int .i64 0]) ∧ PadR w v d w'
theorem RetN.no {w w' : World} {bs : List Nat} (h : nxt bs = none) (hb : Below w.heap.size w w') : RetN w bs (.returned (.tuple #[.int .u8 0, .slice none 0 0, .int .i64 0, .int .i64 71])) w' := Or.inl ⟨h, rfl, hb⟩
theorem RetN.yes {w w' : World} {bs : List Nat} (c : Nat) (d : List Nat) (u : Nat) {v : Value} (h : nxt bs = some (c, d, u)) (hp : PadR w v d w') : RetN w bs (.returned (.tuple #[.int .u8 ((c : Nat) : Int), v, .int .i64 ((u : Nat) : Int), .int .i64 0])) w' := Or.inr ⟨c, d, u, v, h, rfl, hp⟩
theorem RetN.ok {w w' : World} {bs : List Nat} (h0 : ¬ bs.length = 0) (h1 : ¬ (81 ≤ nth bs 0 ∧ nth bs 0 ≤ 96)) (H N : Nat) (hH : hd bs = H) (hN : sz bs = N) (h2 : ¬ bs.length < H + N) (c : Nat) (hc : nth bs 0 = c) {v : Value} (hp : PadR w v ((bs.drop H).take N) w') : RetN w bs (.returned (.tuple #[.int .u8 ((c : Nat) : Int), v, .int .i64 ((H + N : Nat) : Int), .int .i64 0])) w' := by
  subst hH hN hc
  exact RetN.yes _ _ _ (nxt_ok bs h0 h1 h2) hp
theorem RetN.short {w w' : World} {bs : List Nat} (h0 : ¬ bs.length = 0) (h1 : ¬ (81 ≤ nth bs 0 ∧ nth bs 0 ≤ 96)) (H N : Nat) (hH : hd bs = H) (hN : sz bs = N) (h2 : bs.length < H + N) (hb : Below w.heap.size w w') : RetN w bs (.returned (.tuple #[.int .u8 0, .slice none 0 0, .int .i64 0, .int .i64 71])) w' := by
  subst hH hN
  exact RetN.no (nxt_short bs h0 h1 h2) hb
theorem nth_lt (bs : List Nat) (h : ∀ y, y ∈ bs → y < 256) (i : Nat) : nth bs i < 256 := by
  by_cases hi : i < bs.length
  · exact h _ (nth_mem bs i hi)
  · unfold nth; rw [List.getD_eq_getElem?_getD, List.getElem?_eq_none (by omega)]; decide
end Go.Proofs.Ytbjcigokimieoaa
namespace Go.Proofs.Ytbjcigokimieoaa
open Go.RowKit
theorem pcs_cell {w W : World} {L : List (Nat × Obj)} {X : List Xt} (h : Sx w L X W) (i : Nat) {S : Nat → Prop} {A : Option Addr} {n c : Nat} {pss : List (List Nat)} (hi : X[i]? = some (xpcs S (.slice A n c) pss)) (k : Nat) (x : List Nat) (hk : pss[k]? = some x) :
    ∃ b o xa xc, A = some ⟨b, o, none⟩ ∧ W.cell? ⟨b, o + k, none⟩ = some (.slice xa x.length xc) ∧ Sx w L (xps S (.slice xa x.length xc) x :: X) W := by
  have hp : PcsS W S (.slice A n c) pss := h.x i hi
  rcases hp.shape with ⟨-, h1⟩ | ⟨lb, lo, c', hb, h1, h2⟩
  · rw [h1] at hk; simp at hk
  · injection h1 with e1 e2 e3
    obtain ⟨xv, h3, h4⟩ := h2 k x hk
    obtain ⟨xa, xc, rfl⟩ := h4.shape
    exact ⟨lb, lo, xa, xc, e1, h3, h.dup i hi rfl _ rfl (fun _ h => h) ⟨hp.le, h4⟩⟩
theorem PcsS.shape0 {W : World} {S : Nat → Prop} {lv : Value} {pss : List (List Nat)} (h : PcsS W S lv pss) : ∃ a c, lv = .slice a pss.length c := by
  rcases h.shape with ⟨⟨a, c, rfl⟩, rfl⟩ | ⟨lb, lo, c, -, rfl, -⟩
  · exact ⟨_, _, rfl⟩
  · exact ⟨_, _, rfl⟩
theorem Sx.ofpcs {w : World} {v lv : Value} {bs : List Nat} {pss : List (List Nat)} (h : PieceV w w.heap.size v bs) (h2 : Pcs w w.heap.size lv pss) : Sx w [] [xpc w.heap.size v bs, xpcs (fun b => b < w.heap.size) lv pss] w :=
  ((Sx.nil w).addX (xpcs (fun b => b < w.heap.size) lv pss) h2 (fun _ h => by cases h) (fun _ h => h) (fun _ h => by cases h)).addX _ ⟨Nat.le_refl _, h⟩ (fun _ h => by cases h) (fun _ h => h) (fun r hr hx => by
    rcases List.mem_cons.1 hr with rfl | hr
    · cases hx
    · cases hr)
set_option maxRecDepth 100000 in
set_option maxHeartbeats 4000000 in
theorem push_c (v lv : Value) (bs : List Nat) (pss : List (List Nat)) (w : World) (hp : PieceV w w.heap.size v bs) (hl : Pcs w w.heap.size lv pss) (hlen : bs.length + (pws pss).length ≤ 1000000000) (hpl : pss.length ≤ 1000000000) :
    Calls Try.prog 28 #[v, lv] w fun e w' => ∃ v', e = .returned v' ∧ PadR w v' (bs ++ pws pss) w' := by
  obtain ⟨ba, bc, rfl⟩ := hp.shape
  obtain ⟨la, lc, rfl⟩ := hl.shape0
  have S0 := Sx.ofpcs hp hl
  clear hp hl
  have sk : Try.f28.body = some (.seq (rgn Try.f28 0) (.seq (rgn Try.f28 1) (.seq (.seq (rgn Try.f28 2) (.block 0 (.loop (.seq (rgn Try.f28 3) (.seq (.cond (.tmp 14) .skip (.exit 0)) (.seq (.block 1 (.seq (rgn Try.f28 4) (.seq (.seq (rgn Try.f28 5) (.block 2 (.seq (rgn Try.f28 7) (.cond (.tmp 27) (rgn Try.f28 8) (.seq (rgn Try.f28 9) (.cond (.tmp 35) (rgn Try.f28 10) (rgn Try.f28 6))))))) (rgn Try.f28 11)))) (rgn Try.f28 12))))))) (.seq (rgn Try.f28 13) .ret)))) := by kernel_rfl
  refine enter 48 [(0, .slice ba (bs.length) (bc)), (1, .slice la (pss.length) (lc))] Try.func28 sk (by rfl) rfl S0 (fun T W hF hS => ?_)
  clear sk S0
  refine wp_seq ?_
  conv => arg 2; whnf
  refine wp_region_lit ?_
  refine so_p hF (.slice none 0 0) (fun K hK => wp_assign rfl rfl hK) ?_; clear hF T; intro T hF
  refine wpList_nil ?_
  refine then_normal ?_
  refine wp_seq ?_
  conv => arg 2; whnf
  refine wp_region_lit ?_
  refine so_mv hF 1 ?_; clear hF T; intro T hF
  refine so_step hF rfl (wanted_none rfl _) (by decide) rfl (fun v W' => ∃ aq cq, .slice aq (bs.length) cq = v ∧ Sx w [] [xown w (.slice aq (bs.length) cq) (bs), xpc w.heap.size (.slice ba (bs.length) (bc)) bs, xpcs (fun b => b < w.heap.size) (.slice la (pss.length) (lc)) pss] W') (fun K hK => ?_) ?_
  next =>
   refine wp_call rfl Try.func19 (by kernel_rfl) (ev1 (hF.op 0 rfl)) ?_
   refine (clone_c _ bs _ (hS.pc 0 rfl) (by omega)).mono ?_
   rintro e W2 ⟨v', rfl, hp⟩
   obtain ⟨aq, cq, rfl⟩ := hp.rest.shape
   exact ⟨_, rfl, hK.out _ _ ⟨_, _, rfl, hS.gave hp⟩⟩
  clear hF hS
  clear T
  rintro v T W1 ⟨a10, c10, rfl, hS⟩ hF
  try clear W
  obtain ⟨W, rfl⟩ : ∃ x, x = W1 := ⟨_, rfl⟩
  refine so_as hF 0 ?_; clear hF T; intro T hF
  refine wpList_nil ?_
  refine then_normal ?_
  refine wp_seq ?_
  refine wp_seq ?_
  conv => arg 2; whnf
  refine wp_region_lit ?_
  refine so_mv hF 5 ?_; clear hF T; intro T hF
  refine so_p hF (.int .i64 ((pss.length : Nat))) (fun K hK => wp_len rfl (hF.op 0 rfl) Try.underlying44 hK) ?_; clear hF T; intro T hF
  refine so_p hF (.int .i64 0) (fun K hK => wp_move rfl rfl hK) ?_; clear hF T; intro T hF
  refine wpList_nil ?_
  refine then_normal ?_
  refine wp_block ?_
  refine wp_loop_ghost (fun n a W => ∃ T : Array Value, ∃ k : Nat, ∃ zs : List Nat, ∃ za : Option Addr, ∃ zc : Nat, a = ⟨T, []⟩ ∧ Fr 48 ⟨T, []⟩ [(13, .int .i64 ((k : Int))), (12, .int .i64 ((pss.length : Nat))), (11, .slice la (pss.length) (lc)), (5, .slice za (zs.length) (zc))] ∧ Sx w [] [xown w (.slice za zs.length zc) zs, xpcs (fun b => b < w.heap.size) (.slice la (pss.length) (lc)) pss] W ∧ (k + n = pss.length) ∧ (zs = bs ++ pws (pss.take k))) (pss.length) ⟨T, 0, bs, a10, c10, rfl, (hF.pick [0, 1, 2, 3]), (hS.pick [] [0, 2] rfl rfl), Nat.zero_add _, by simp [pws]⟩ ?_
  clear hF hS
  try clear T
  try clear W
  rintro n a W ⟨T, k, zs, za, zc, rfl, hF, hS, hk, hz⟩
  have HZ := Lib.hid hz
  clear hz
  have hkl : (k : Int) ≤ pss.length := by omega
  have hpl := pws_take_le pss k
  have hzl : zs.length = bs.length + (pws (pss.take k)).length := by rw [HZ.out]; simp
  have hzb : zs.length ≤ 1000000000 := by omega
  clear hpl hzl
  refine wp_seq ?_
  by_cases h : k < pss.length
  next =>
   obtain ⟨x, hx⟩ : ∃ x, pss[k]? = some x := ⟨_, List.getElem?_eq_getElem h⟩
   have HX := Lib.hid hx
   have hxl : x.length + zs.length ≤ 1000000000 := by
     have h1 := pws_take_le pss (k + 1)
     rw [pws_snoc pss k x hx, List.length_append] at h1
     have h2 := pw_len x
     have h3 : zs.length = bs.length + (pws (pss.take k)).length := by rw [HZ.out]; simp
     omega
   clear hx
   conv => arg 2; whnf
   refine wp_region_lit ?_
   refine so_p hF (.bool true) (fun K hK => wp_lss_t rfl (hF.op 0 rfl) (hF.op 1 rfl) (by omega) hK) ?_; clear hF T; intro T hF
   refine wpList_nil ?_
   refine then_normal ?_
   refine wp_seq ?_
   refine wp_cond_true (hF.op 0 rfl) ?_
   refine wp_skip ?_
   refine then_normal ?_
   refine wp_seq ?_
   refine wp_block ?_
   refine wp_seq ?_
   obtain ⟨lb, lo, xa, xc, rfl, hcell, hS1⟩ := pcs_cell hS 1 rfl k x HX.out
   have hS := hS1
   clear hS1
   conv => arg 2; whnf
   refine wp_region_lit ?_
   refine so_p hF (.pointer (some ⟨lb, lo + k, none⟩)) (fun K hK => wp_ixs rfl (hF.op 3 rfl) (hF.op 1 rfl) Try.underlying44 Try.sizeOf22 (by omega) (by omega) (lo + k) (by omega) hK) ?_; clear hF T; intro T hF
   refine so_p hF (.slice xa (x.length) (xc)) (fun K hK => wp_ld rfl (hF.op 0 rfl) Try.underlying22 rfl (hcell) hK) ?_; clear hF T; intro T hF
   refine so_as hF 0 ?_; clear hF T; intro T hF
   refine wpList_nil ?_
   refine then_normal ?_
   refine wp_seq ?_
   refine wp_seq ?_
   conv => arg 2; whnf
   refine wp_region_lit ?_
   refine so_mv hF 0 ?_; clear hF T; intro T hF
   refine so_p hF (.int .i64 ((x.length : Nat))) (fun K hK => wp_len rfl (hF.op 0 rfl) Try.underlying22 hK) ?_; clear hF T; intro T hF
   refine so_as hF 0 ?_; clear hF T; intro T hF
   refine wpList_nil ?_
   refine then_normal ?_
   refine wp_block ?_
   refine wp_seq ?_
   by_cases h75 : x.length ≤ 75
   next =>
    conv => arg 2; whnf
    refine wp_region_lit ?_
    refine so_mv hF 0 ?_; clear hF T; intro T hF
    refine so_p hF (.bool true) (fun K hK => wp_leq_t rfl (hF.op 0 rfl) rfl (by omega) hK) ?_; clear hF T; intro T hF
    refine so_as hF 0 ?_; clear hF T; intro T hF
    refine wpList_nil ?_
    refine then_normal ?_
    refine wp_cond_true (hF.op 0 rfl) ?_
    conv => arg 2; whnf
    refine wp_region_lit ?_
    refine so_mv hF 13 ?_; clear hF T; intro T hF
    refine so_mv hF 4 ?_; clear hF T; intro T hF
    refine so_p hF (.int .u8 ((x.length : Int))) (fun K hK => wp_int rfl (hF.op 0 rfl) Try.underlying3 Try.underlying5 ((x.length : Int)) (by rw [IntKind.wrap_u8]; omega) hK) ?_; clear hF T; intro T hF
    refine so_step hF rfl (wanted_none rfl _) (by decide) rfl (fun v W' => ∃ g, (.slice (some ⟨g, 0, none⟩) 1 1 : Value) = v ∧ w.heap.size ≤ g ∧ Sx w ((g, .cells #[.int .u8 ((x.length : Int))] 5 (0, 0)) :: []) [xps (fun b => b < w.heap.size) (.slice xa x.length xc) x, xown w (.slice za zs.length zc) zs, xpcs (fun b => b < w.heap.size) (.slice (some ⟨lb, lo, none⟩) (pss.length) (lc)) pss] W') (fun K hK => ?_) ?_
    next =>
     have f32 := hF.ev 0 rfl
     go_simp
     exact hK.out _ _ ⟨_, rfl, hS.below.size, hS.alloc _⟩
    clear hS
    clear hF
    clear T
    rintro v T W1 ⟨g33, rfl, hg33, hS⟩ hF
    try clear W
    obtain ⟨W, rfl⟩ : ∃ x, x = W1 := ⟨_, rfl⟩
    refine so_step hF rfl (wanted_none rfl _) (by decide) rfl (fun v W' => ∃ aq cq, .slice aq ((zs ++ [x.length]).length) cq = v ∧ Sx w [(g33, .cells #[.int .u8 ((x.length : Int))] 5 (0, 0))] (List.set [xps (fun b => b < w.heap.size) (.slice xa x.length xc) x, xown w (.slice za zs.length zc) zs, xpcs (fun b => b < w.heap.size) (.slice (some ⟨lb, lo, none⟩) (pss.length) (lc)) pss] 1 (xown w v (zs ++ [x.length]))) W') (fun K hK => ?_) ?_
    next =>
     refine wp_app hS 1 (.tmp 30) (.tmp 33) rfl (hF.op 3 rfl) (hF.op 0 rfl) rfl (src_row (l := [x.length]) (hS.at 0 rfl) rfl rfl) (by first | omega | (simp; omega)) (fun v' W' hS' => ?_)
     obtain ⟨a, c, e⟩ := (hS'.own 1 rfl).shape
     exact hK.out _ _ ⟨a, c, e.symm, hS'⟩
    clear hF hS
    clear T
    rintro v T W1 ⟨a34, c34, rfl, hS⟩ hF
    try clear W
    obtain ⟨W, rfl⟩ : ∃ x, x = W1 := ⟨_, rfl⟩
    replace hS : Sx w [(g33, .cells #[.int .u8 ((x.length : Int))] 5 (0, 0))] [xps (fun b => b < w.heap.size) (.slice xa x.length xc) x, xown w (.slice a34 ((zs ++ [x.length]).length) c34) (zs ++ [x.length]), xpcs (fun b => b < w.heap.size) (.slice (some ⟨lb, lo, none⟩) (pss.length) (lc)) pss] W := hS
    replace hS : Sx w [] [xps (fun b => b < w.heap.size) (.slice xa x.length xc) x, xown w (.slice a34 ((zs ++ [x.length]).length) c34) (zs ++ [x.length]), xpcs (fun b => b < w.heap.size) (.slice (some ⟨lb, lo, none⟩) (pss.length) (lc)) pss] W := hS.pick [] [0, 1, 2] rfl rfl
    replace hF : Fr 48 ⟨T, []⟩ [(34, .slice a34 ((zs ++ [x.length]).length) (c34)), (7, .slice xa (x.length) (xc)), (13, .int .i64 ((k : Int))), (12, .int .i64 ((pss.length : Nat))), (11, .slice (some ⟨lb, lo, none⟩) (pss.length) (lc))] := hF.pick [0, 11, 15, 16, 17]
    refine so_as hF 0 ?_; clear hF T; intro T hF
    refine wpList_nil ?_
    refine block_normal ?_
    refine then_normal ?_
    conv => arg 2; whnf
    refine wp_region_lit ?_
    refine so_mv hF 0 ?_; clear hF T; intro T hF
    refine so_mv hF 3 ?_; clear hF T; intro T hF
    refine so_step hF rfl (wanted_none rfl _) (by decide) rfl (fun v W' => ∃ aq cq, .slice aq (((zs ++ [x.length]) ++ x).length) cq = v ∧ Sx w [] (List.set [xps (fun b => b < w.heap.size) (.slice xa x.length xc) x, xown w (.slice a34 ((zs ++ [x.length]).length) c34) (zs ++ [x.length]), xpcs (fun b => b < w.heap.size) (.slice (some ⟨lb, lo, none⟩) (pss.length) (lc)) pss] 1 (xown w v ((zs ++ [x.length]) ++ x))) W') (fun K hK => ?_) ?_
    next =>
     refine wp_app hS 1 (.tmp 43) (.tmp 44) rfl (hF.op 1 rfl) (hF.op 0 rfl) rfl (PieceV.src (hS.ps 0 rfl)) (by first | omega | (simp; omega)) (fun v' W' hS' => ?_)
     obtain ⟨a, c, e⟩ := (hS'.own 1 rfl).shape
     exact hK.out _ _ ⟨a, c, e.symm, hS'⟩
    clear hF hS
    clear T
    rintro v T W1 ⟨a45, c45, rfl, hS⟩ hF
    try clear W
    obtain ⟨W, rfl⟩ : ∃ x, x = W1 := ⟨_, rfl⟩
    replace hS : Sx w [] [xps (fun b => b < w.heap.size) (.slice xa x.length xc) x, xown w (.slice a45 (((zs ++ [x.length]) ++ x).length) c45) ((zs ++ [x.length]) ++ x), xpcs (fun b => b < w.heap.size) (.slice (some ⟨lb, lo, none⟩) (pss.length) (lc)) pss] W := hS
    replace hF : Fr 48 ⟨T, []⟩ [(45, .slice a45 (((zs ++ [x.length]) ++ x).length) (c45)), (13, .int .i64 ((k : Int))), (12, .int .i64 ((pss.length : Nat))), (11, .slice (some ⟨lb, lo, none⟩) (pss.length) (lc))] := hF.pick [0, 6, 7, 8]
    refine so_as hF 0 ?_; clear hF T; intro T hF
    refine wpList_nil ?_
    refine block_normal ?_
    refine then_normal ?_
    conv => arg 2; whnf
    refine wp_region_lit ?_
    refine so_p hF (.int .i64 ((k + 1 : Nat) : Int)) (fun K hK => wp_add rfl (hF.op 2 rfl) rfl (((k + 1 : Nat) : Int)) (by rw [IntKind.wrap_i64]; omega) hK) ?_; clear hF T; intro T hF
    replace hF : Fr 48 ⟨T, []⟩ [(46, .int .i64 ((k + 1 : Nat) : Int)), (5, .slice a45 (((zs ++ [x.length]) ++ x).length) (c45)), (12, .int .i64 ((pss.length : Nat))), (11, .slice (some ⟨lb, lo, none⟩) (pss.length) (lc))] := hF.pick [0, 1, 4, 5]
    refine so_mv hF 0 ?_; clear hF T; intro T hF
    refine wpList_nil ?_
    refine then_normal ?_
    exact ⟨n - 1, by omega, T, k + 1, _, _, _, rfl, (hF.pick [0, 3, 4, 2]), (hS.pick [] [1, 2] rfl rfl), by omega, by rw [pws_snoc pss k x HX.out, pw1 x h75, HZ.out]; simp⟩
   next =>
    conv => arg 2; whnf
    refine wp_region_lit ?_
    refine so_mv hF 0 ?_; clear hF T; intro T hF
    refine so_p hF (.bool false) (fun K hK => wp_leq_f rfl (hF.op 0 rfl) rfl (by omega) hK) ?_; clear hF T; intro T hF
    refine so_as hF 0 ?_; clear hF T; intro T hF
    refine wpList_nil ?_
    refine then_normal ?_
    refine wp_cond_false (hF.op 0 rfl) ?_
    refine wp_seq ?_
    by_cases h256 : x.length < 256
    next =>
     conv => arg 2; whnf
     refine wp_region_lit ?_
     refine so_mv hF 3 ?_; clear hF T; intro T hF
     refine so_p hF (.bool true) (fun K hK => wp_lss_t rfl (hF.op 0 rfl) rfl (by omega) hK) ?_; clear hF T; intro T hF
     refine so_as hF 0 ?_; clear hF T; intro T hF
     refine wpList_nil ?_
     refine then_normal ?_
     refine wp_cond_true (hF.op 0 rfl) ?_
     conv => arg 2; whnf
     refine wp_region_lit ?_
     refine so_mv hF 16 ?_; clear hF T; intro T hF
     refine so_mv hF 7 ?_; clear hF T; intro T hF
     refine so_p hF (.int .u8 ((x.length : Int))) (fun K hK => wp_int rfl (hF.op 0 rfl) Try.underlying3 Try.underlying5 ((x.length : Int)) (by rw [IntKind.wrap_u8]; omega) hK) ?_; clear hF T; intro T hF
     refine so_step hF rfl (wanted_none rfl _) (by decide) rfl (fun v W' => ∃ g, (.slice (some ⟨g, 0, none⟩) 2 2 : Value) = v ∧ w.heap.size ≤ g ∧ Sx w ((g, .cells #[.int .u8 76, .int .u8 ((x.length : Int))] 5 (0, 0)) :: []) [xps (fun b => b < w.heap.size) (.slice xa x.length xc) x, xown w (.slice za zs.length zc) zs, xpcs (fun b => b < w.heap.size) (.slice (some ⟨lb, lo, none⟩) (pss.length) (lc)) pss] W') (fun K hK => ?_) ?_
     next =>
      have f40 := hF.ev 0 rfl
      go_simp
      exact hK.out _ _ ⟨_, rfl, hS.below.size, hS.alloc _⟩
     clear hS
     clear hF
     clear T
     rintro v T W1 ⟨g41, rfl, hg41, hS⟩ hF
     try clear W
     obtain ⟨W, rfl⟩ : ∃ x, x = W1 := ⟨_, rfl⟩
     refine so_step hF rfl (wanted_none rfl _) (by decide) rfl (fun v W' => ∃ aq cq, .slice aq ((zs ++ [76, x.length]).length) cq = v ∧ Sx w [(g41, .cells #[.int .u8 76, .int .u8 ((x.length : Int))] 5 (0, 0))] (List.set [xps (fun b => b < w.heap.size) (.slice xa x.length xc) x, xown w (.slice za zs.length zc) zs, xpcs (fun b => b < w.heap.size) (.slice (some ⟨lb, lo, none⟩) (pss.length) (lc)) pss] 1 (xown w v (zs ++ [76, x.length]))) W') (fun K hK => ?_) ?_
     next =>
      refine wp_app hS 1 (.tmp 38) (.tmp 41) rfl (hF.op 3 rfl) (hF.op 0 rfl) rfl (src_row (l := [76, x.length]) (hS.at 0 rfl) rfl rfl) (by first | omega | (simp; omega)) (fun v' W' hS' => ?_)
      obtain ⟨a, c, e⟩ := (hS'.own 1 rfl).shape
      exact hK.out _ _ ⟨a, c, e.symm, hS'⟩
     clear hF hS
     clear T
     rintro v T W1 ⟨a42, c42, rfl, hS⟩ hF
     try clear W
     obtain ⟨W, rfl⟩ : ∃ x, x = W1 := ⟨_, rfl⟩
     replace hS : Sx w [(g41, .cells #[.int .u8 76, .int .u8 ((x.length : Int))] 5 (0, 0))] [xps (fun b => b < w.heap.size) (.slice xa x.length xc) x, xown w (.slice a42 ((zs ++ [76, x.length]).length) c42) (zs ++ [76, x.length]), xpcs (fun b => b < w.heap.size) (.slice (some ⟨lb, lo, none⟩) (pss.length) (lc)) pss] W := hS
     replace hS : Sx w [] [xps (fun b => b < w.heap.size) (.slice xa x.length xc) x, xown w (.slice a42 ((zs ++ [76, x.length]).length) c42) (zs ++ [76, x.length]), xpcs (fun b => b < w.heap.size) (.slice (some ⟨lb, lo, none⟩) (pss.length) (lc)) pss] W := hS.pick [] [0, 1, 2] rfl rfl
     replace hF : Fr 48 ⟨T, []⟩ [(42, .slice a42 ((zs ++ [76, x.length]).length) (c42)), (7, .slice xa (x.length) (xc)), (13, .int .i64 ((k : Int))), (12, .int .i64 ((pss.length : Nat))), (11, .slice (some ⟨lb, lo, none⟩) (pss.length) (lc))] := hF.pick [0, 14, 18, 19, 20]
     refine so_as hF 0 ?_; clear hF T; intro T hF
     refine wpList_nil ?_
     refine block_normal ?_
     refine then_normal ?_
     conv => arg 2; whnf
     refine wp_region_lit ?_
     refine so_mv hF 0 ?_; clear hF T; intro T hF
     refine so_mv hF 3 ?_; clear hF T; intro T hF
     refine so_step hF rfl (wanted_none rfl _) (by decide) rfl (fun v W' => ∃ aq cq, .slice aq (((zs ++ [76, x.length]) ++ x).length) cq = v ∧ Sx w [] (List.set [xps (fun b => b < w.heap.size) (.slice xa x.length xc) x, xown w (.slice a42 ((zs ++ [76, x.length]).length) c42) (zs ++ [76, x.length]), xpcs (fun b => b < w.heap.size) (.slice (some ⟨lb, lo, none⟩) (pss.length) (lc)) pss] 1 (xown w v ((zs ++ [76, x.length]) ++ x))) W') (fun K hK => ?_) ?_
     next =>
      refine wp_app hS 1 (.tmp 43) (.tmp 44) rfl (hF.op 1 rfl) (hF.op 0 rfl) rfl (PieceV.src (hS.ps 0 rfl)) (by first | omega | (simp; omega)) (fun v' W' hS' => ?_)
      obtain ⟨a, c, e⟩ := (hS'.own 1 rfl).shape
      exact hK.out _ _ ⟨a, c, e.symm, hS'⟩
     clear hF hS
     clear T
     rintro v T W1 ⟨a45, c45, rfl, hS⟩ hF
     try clear W
     obtain ⟨W, rfl⟩ : ∃ x, x = W1 := ⟨_, rfl⟩
     replace hS : Sx w [] [xps (fun b => b < w.heap.size) (.slice xa x.length xc) x, xown w (.slice a45 (((zs ++ [76, x.length]) ++ x).length) c45) ((zs ++ [76, x.length]) ++ x), xpcs (fun b => b < w.heap.size) (.slice (some ⟨lb, lo, none⟩) (pss.length) (lc)) pss] W := hS
     replace hF : Fr 48 ⟨T, []⟩ [(45, .slice a45 (((zs ++ [76, x.length]) ++ x).length) (c45)), (13, .int .i64 ((k : Int))), (12, .int .i64 ((pss.length : Nat))), (11, .slice (some ⟨lb, lo, none⟩) (pss.length) (lc))] := hF.pick [0, 6, 7, 8]
     refine so_as hF 0 ?_; clear hF T; intro T hF
     refine wpList_nil ?_
     refine block_normal ?_
     refine then_normal ?_
     conv => arg 2; whnf
     refine wp_region_lit ?_
     refine so_p hF (.int .i64 ((k + 1 : Nat) : Int)) (fun K hK => wp_add rfl (hF.op 2 rfl) rfl (((k + 1 : Nat) : Int)) (by rw [IntKind.wrap_i64]; omega) hK) ?_; clear hF T; intro T hF
     replace hF : Fr 48 ⟨T, []⟩ [(46, .int .i64 ((k + 1 : Nat) : Int)), (5, .slice a45 (((zs ++ [76, x.length]) ++ x).length) (c45)), (12, .int .i64 ((pss.length : Nat))), (11, .slice (some ⟨lb, lo, none⟩) (pss.length) (lc))] := hF.pick [0, 1, 4, 5]
     refine so_mv hF 0 ?_; clear hF T; intro T hF
     refine wpList_nil ?_
     refine then_normal ?_
     exact ⟨n - 1, by omega, T, k + 1, _, _, _, rfl, (hF.pick [0, 3, 4, 2]), (hS.pick [] [1, 2] rfl rfl), by omega, by rw [pws_snoc pss k x HX.out, pw2 x h75 h256, HZ.out]; simp⟩
    next =>
     conv => arg 2; whnf
     refine wp_region_lit ?_
     refine so_mv hF 3 ?_; clear hF T; intro T hF
     refine so_p hF (.bool false) (fun K hK => wp_lss_f rfl (hF.op 0 rfl) rfl (by omega) hK) ?_; clear hF T; intro T hF
     refine so_as hF 0 ?_; clear hF T; intro T hF
     refine wpList_nil ?_
     refine then_normal ?_
     refine wp_cond_false (hF.op 0 rfl) ?_
     conv => arg 2; whnf
     refine wp_region_lit ?_
     refine so_mv hF 16 ?_; clear hF T; intro T hF
     refine so_mv hF 7 ?_; clear hF T; intro T hF
     refine so_p hF (.int .u8 (((x.length % 256 : Nat) : Int))) (fun K hK => wp_int rfl (hF.op 0 rfl) Try.underlying3 Try.underlying5 (((x.length % 256 : Nat) : Int)) (by rw [IntKind.wrap_u8]; omega) hK) ?_; clear hF T; intro T hF
     refine so_mv hF 9 ?_; clear hF T; intro T hF
     refine so_p hF (.int .i64 ((x.length / 256 : Nat) : Int)) (fun K hK => wp_shr rfl (hF.op 0 rfl) rfl (by decide) (((x.length / 256 : Nat) : Int)) (by rw [Int.fdiv_eq_ediv_of_nonneg _ (by decide)]; simp [IntKind.bits]) hK) ?_; clear hF T; intro T hF
     refine so_p hF (.int .u8 (((x.length / 256 % 256 : Nat) : Int))) (fun K hK => wp_int rfl (hF.op 0 rfl) Try.underlying3 Try.underlying5 (((x.length / 256 % 256 : Nat) : Int)) (by rw [IntKind.wrap_u8]; omega) hK) ?_; clear hF T; intro T hF
     refine so_step hF rfl (wanted_none rfl _) (by decide) rfl (fun v W' => ∃ g, (.slice (some ⟨g, 0, none⟩) 3 3 : Value) = v ∧ w.heap.size ≤ g ∧ Sx w ((g, .cells #[.int .u8 77, .int .u8 (((x.length % 256 : Nat) : Int)), .int .u8 (((x.length / 256 % 256 : Nat) : Int))] 5 (0, 0)) :: []) [xps (fun b => b < w.heap.size) (.slice xa x.length xc) x, xown w (.slice za zs.length zc) zs, xpcs (fun b => b < w.heap.size) (.slice (some ⟨lb, lo, none⟩) (pss.length) (lc)) pss] W') (fun K hK => ?_) ?_
     next =>
      have f21 := hF.ev 3 rfl
      have f24 := hF.ev 0 rfl
      go_simp
      exact hK.out _ _ ⟨_, rfl, hS.below.size, hS.alloc _⟩
     clear hS
     clear hF
     clear T
     rintro v T W1 ⟨g25, rfl, hg25, hS⟩ hF
     try clear W
     obtain ⟨W, rfl⟩ : ∃ x, x = W1 := ⟨_, rfl⟩
     refine so_step hF rfl (wanted_none rfl _) (by decide) rfl (fun v W' => ∃ aq cq, .slice aq ((zs ++ [77, x.length % 256, x.length / 256 % 256]).length) cq = v ∧ Sx w [(g25, .cells #[.int .u8 77, .int .u8 (((x.length % 256 : Nat) : Int)), .int .u8 (((x.length / 256 % 256 : Nat) : Int))] 5 (0, 0))] (List.set [xps (fun b => b < w.heap.size) (.slice xa x.length xc) x, xown w (.slice za zs.length zc) zs, xpcs (fun b => b < w.heap.size) (.slice (some ⟨lb, lo, none⟩) (pss.length) (lc)) pss] 1 (xown w v (zs ++ [77, x.length % 256, x.length / 256 % 256]))) W') (fun K hK => ?_) ?_
     next =>
      refine wp_app hS 1 (.tmp 19) (.tmp 25) rfl (hF.op 6 rfl) (hF.op 0 rfl) rfl (src_row (l := [77, x.length % 256, x.length / 256 % 256]) (hS.at 0 rfl) rfl rfl) (by first | omega | (simp; omega)) (fun v' W' hS' => ?_)
      obtain ⟨a, c, e⟩ := (hS'.own 1 rfl).shape
      exact hK.out _ _ ⟨a, c, e.symm, hS'⟩
     clear hF hS
     clear T
     rintro v T W1 ⟨a26, c26, rfl, hS⟩ hF
     try clear W
     obtain ⟨W, rfl⟩ : ∃ x, x = W1 := ⟨_, rfl⟩
     replace hS : Sx w [(g25, .cells #[.int .u8 77, .int .u8 (((x.length % 256 : Nat) : Int)), .int .u8 (((x.length / 256 % 256 : Nat) : Int))] 5 (0, 0))] [xps (fun b => b < w.heap.size) (.slice xa x.length xc) x, xown w (.slice a26 ((zs ++ [77, x.length % 256, x.length / 256 % 256]).length) c26) (zs ++ [77, x.length % 256, x.length / 256 % 256]), xpcs (fun b => b < w.heap.size) (.slice (some ⟨lb, lo, none⟩) (pss.length) (lc)) pss] W := hS
     replace hS : Sx w [] [xps (fun b => b < w.heap.size) (.slice xa x.length xc) x, xown w (.slice a26 ((zs ++ [77, x.length % 256, x.length / 256 % 256]).length) c26) (zs ++ [77, x.length % 256, x.length / 256 % 256]), xpcs (fun b => b < w.heap.size) (.slice (some ⟨lb, lo, none⟩) (pss.length) (lc)) pss] W := hS.pick [] [0, 1, 2] rfl rfl
     replace hF : Fr 48 ⟨T, []⟩ [(26, .slice a26 ((zs ++ [77, x.length % 256, x.length / 256 % 256]).length) (c26)), (7, .slice xa (x.length) (xc)), (13, .int .i64 ((k : Int))), (12, .int .i64 ((pss.length : Nat))), (11, .slice (some ⟨lb, lo, none⟩) (pss.length) (lc))] := hF.pick [0, 17, 21, 22, 23]
     refine so_as hF 0 ?_; clear hF T; intro T hF
     refine wpList_nil ?_
     refine block_normal ?_
     refine then_normal ?_
     conv => arg 2; whnf
     refine wp_region_lit ?_
     refine so_mv hF 0 ?_; clear hF T; intro T hF
     refine so_mv hF 3 ?_; clear hF T; intro T hF
     refine so_step hF rfl (wanted_none rfl _) (by decide) rfl (fun v W' => ∃ aq cq, .slice aq (((zs ++ [77, x.length % 256, x.length / 256 % 256]) ++ x).length) cq = v ∧ Sx w [] (List.set [xps (fun b => b < w.heap.size) (.slice xa x.length xc) x, xown w (.slice a26 ((zs ++ [77, x.length % 256, x.length / 256 % 256]).length) c26) (zs ++ [77, x.length % 256, x.length / 256 % 256]), xpcs (fun b => b < w.heap.size) (.slice (some ⟨lb, lo, none⟩) (pss.length) (lc)) pss] 1 (xown w v ((zs ++ [77, x.length % 256, x.length / 256 % 256]) ++ x))) W') (fun K hK => ?_) ?_
     next =>
      refine wp_app hS 1 (.tmp 43) (.tmp 44) rfl (hF.op 1 rfl) (hF.op 0 rfl) rfl (PieceV.src (hS.ps 0 rfl)) (by first | omega | (simp; omega)) (fun v' W' hS' => ?_)
      obtain ⟨a, c, e⟩ := (hS'.own 1 rfl).shape
      exact hK.out _ _ ⟨a, c, e.symm, hS'⟩
     clear hF hS
     clear T
     rintro v T W1 ⟨a45, c45, rfl, hS⟩ hF
     try clear W
     obtain ⟨W, rfl⟩ : ∃ x, x = W1 := ⟨_, rfl⟩
     replace hS : Sx w [] [xps (fun b => b < w.heap.size) (.slice xa x.length xc) x, xown w (.slice a45 (((zs ++ [77, x.length % 256, x.length / 256 % 256]) ++ x).length) c45) ((zs ++ [77, x.length % 256, x.length / 256 % 256]) ++ x), xpcs (fun b => b < w.heap.size) (.slice (some ⟨lb, lo, none⟩) (pss.length) (lc)) pss] W := hS
     replace hF : Fr 48 ⟨T, []⟩ [(45, .slice a45 (((zs ++ [77, x.length % 256, x.length / 256 % 256]) ++ x).length) (c45)), (13, .int .i64 ((k : Int))), (12, .int .i64 ((pss.length : Nat))), (11, .slice (some ⟨lb, lo, none⟩) (pss.length) (lc))] := hF.pick [0, 6, 7, 8]
     refine so_as hF 0 ?_; clear hF T; intro T hF
     refine wpList_nil ?_
     refine block_normal ?_
     refine then_normal ?_
     conv => arg 2; whnf
     refine wp_region_lit ?_
     refine so_p hF (.int .i64 ((k + 1 : Nat) : Int)) (fun K hK => wp_add rfl (hF.op 2 rfl) rfl (((k + 1 : Nat) : Int)) (by rw [IntKind.wrap_i64]; omega) hK) ?_; clear hF T; intro T hF
     replace hF : Fr 48 ⟨T, []⟩ [(46, .int .i64 ((k + 1 : Nat) : Int)), (5, .slice a45 (((zs ++ [77, x.length % 256, x.length / 256 % 256]) ++ x).length) (c45)), (12, .int .i64 ((pss.length : Nat))), (11, .slice (some ⟨lb, lo, none⟩) (pss.length) (lc))] := hF.pick [0, 1, 4, 5]
     refine so_mv hF 0 ?_; clear hF T; intro T hF
     refine wpList_nil ?_
     refine then_normal ?_
     exact ⟨n - 1, by omega, T, k + 1, _, _, _, rfl, (hF.pick [0, 3, 4, 2]), (hS.pick [] [1, 2] rfl rfl), by omega, by rw [pws_snoc pss k x HX.out, pw3 x h75 h256, HZ.out]; simp⟩
  next =>
   obtain rfl : k = pss.length := by omega
   conv => arg 2; whnf
   refine wp_region_lit ?_
   refine so_p hF (.bool false) (fun K hK => wp_lss_f rfl (hF.op 0 rfl) (hF.op 1 rfl) (by omega) hK) ?_; clear hF T; intro T hF
   refine wpList_nil ?_
   refine then_normal ?_
   refine wp_seq ?_
   refine wp_cond_false (hF.op 0 rfl) ?_
   refine wp_exit ?_
   refine then_exit ?_
   refine then_exit ?_
   refine block_exit ?_
   refine then_normal ?_
   refine wp_seq ?_
   conv => arg 2; whnf
   refine wp_region_lit ?_
   refine so_mv hF 4 ?_; clear hF T; intro T hF
   refine so_as hF 0 ?_; clear hF T; intro T hF
   refine wpList_nil ?_
   refine then_normal ?_
   refine wp_ret ?_
   refine bodyPost_ret (v := .slice za (zs.length) (zc)) (results_t1 Try.results28 (hF.ev 0 rfl)) rfl ?_
   have hz2 : zs = bs ++ pws pss := by rw [HZ.out, List.take_length]
   subst hz2
   exact ⟨_, rfl, hS.padr 0 rfl⟩
end Go.Proofs.Ytbjcigokimieoaa
namespace Go.Proofs.Ytbjcigokimieoaa
open Go.RowKit
theorem nth_ext2 {xs bs : List Nat} (hl : xs.length = bs.length) (h : ∀ j, j < xs.length → nth xs j = nth bs j) : xs = bs := by
  apply List.ext_getElem hl
  intro i h1 h2
  have := h i h1
  unfold nth at this
  simpa [List.getD_eq_getElem?_getD, h1, h2] using this
theorem Sx.ofpc2 {w : World} {v v' : Value} {bs bs' : List Nat} (h : PieceV w w.heap.size v bs) (h2 : PieceV w w.heap.size v' bs') : Sx w [] [xpc w.heap.size v bs, xpc w.heap.size v' bs'] w :=
  (Sx.ofpc h2).addX _ ⟨Nat.le_refl _, h⟩ (fun _ h => by cases h) (fun _ h => h) (fun r hr hx => by
    rcases List.mem_cons.1 hr with rfl | hr
    · cases hx
    · cases hr)
set_option maxRecDepth 100000 in
set_option maxHeartbeats 4000000 in
theorem equal_c (v v' : Value) (xs bs : List Nat) (w : World) (hp : PieceV w w.heap.size v xs) (hq : PieceV w w.heap.size v' bs) (hl1 : xs.length ≤ 1000000000) :
    Calls Try.prog 21 #[v, v'] w fun e w' => e = .returned (.bool (decide (xs = bs))) ∧ Below w.heap.size w w' := by
  obtain ⟨aa, ac, rfl⟩ := hp.shape
  obtain ⟨ba, bc, rfl⟩ := hq.shape
  have S0 := Sx.ofpc2 hp hq
  clear hp hq
  have sk : Try.f21.body = some (.seq (rgn Try.f21 0) (.seq (.seq (rgn Try.f21 1) (.cond (.tmp 10) (.seq (rgn Try.f21 2) .ret) .skip)) (.seq (.seq (rgn Try.f21 3) (.block 0 (.loop (.seq (rgn Try.f21 4) (.seq (.cond (.tmp 14) .skip (.exit 0)) (.seq (.block 1 (.seq (rgn Try.f21 5) (.seq (rgn Try.f21 6) (.cond (.tmp 24) (.seq (rgn Try.f21 7) .ret) .skip)))) (rgn Try.f21 8))))))) (.seq (rgn Try.f21 9) .ret)))) := by kernel_rfl
  refine enter 26 [(0, .slice aa (xs.length) (ac)), (1, .slice ba (bs.length) (bc))] Try.func21 sk (by rfl) rfl S0 (fun T W hF hS => ?_)
  clear sk S0
  refine wp_seq ?_
  conv => arg 2; whnf
  refine wp_region_lit ?_
  refine so_p hF (.bool false) (fun K hK => wp_assign rfl rfl hK) ?_; clear hF T; intro T hF
  refine wpList_nil ?_
  refine then_normal ?_
  refine wp_seq ?_
  refine wp_seq ?_
  by_cases hlen : xs.length = bs.length
  next =>
   have HL := Lib.hid hlen
   conv => arg 2; whnf
   refine wp_region_lit ?_
   refine so_mv hF 1 ?_; clear hF T; intro T hF
   refine so_p hF (.int .i64 ((xs.length : Nat))) (fun K hK => wp_len rfl (hF.op 0 rfl) Try.underlying22 hK) ?_; clear hF T; intro T hF
   refine so_mv hF 4 ?_; clear hF T; intro T hF
   refine so_p hF (.int .i64 ((bs.length : Nat))) (fun K hK => wp_len rfl (hF.op 0 rfl) Try.underlying22 hK) ?_; clear hF T; intro T hF
   refine so_p hF (.bool false) (fun K hK => wp_neq_f rfl (hF.op 2 rfl) (hF.op 0 rfl) (by omega) hK) ?_; clear hF T; intro T hF
   refine wpList_nil ?_
   refine then_normal ?_
   refine wp_cond_false (hF.op 0 rfl) ?_
   refine wp_skip ?_
   refine then_normal ?_
   refine wp_seq ?_
   refine wp_seq ?_
   conv => arg 2; whnf
   refine wp_region_lit ?_
   refine so_mv hF 6 ?_; clear hF T; intro T hF
   refine so_p hF (.int .i64 ((xs.length : Nat))) (fun K hK => wp_len rfl (hF.op 0 rfl) Try.underlying22 hK) ?_; clear hF T; intro T hF
   refine so_p hF (.int .i64 0) (fun K hK => wp_move rfl rfl hK) ?_; clear hF T; intro T hF
   refine wpList_nil ?_
   refine then_normal ?_
   refine wp_block ?_
   refine wp_loop_ghost (fun n a W => ∃ T : Array Value, ∃ k : Nat, a = ⟨T, []⟩ ∧ Fr 26 ⟨T, []⟩ [(13, .int .i64 ((k : Int))), (12, .int .i64 ((xs.length : Nat))), (0, .slice aa (xs.length) (ac)), (1, .slice ba (bs.length) (bc))] ∧ Sx w [] [xpc w.heap.size (.slice aa (xs.length) (ac)) xs, xpc w.heap.size (.slice ba (bs.length) (bc)) bs] W ∧ (k + n = xs.length) ∧ (∀ j, j < k → nth xs j = nth bs j)) (xs.length) ⟨T, 0, rfl, (hF.pick [0, 1, 9, 10]), hS, Nat.zero_add _, fun j hj => absurd hj (Nat.not_lt_zero j)⟩ ?_
   clear hF hS
   try clear T
   try clear W
   rintro n a W ⟨T, k, rfl, hF, hS, hk, hpre⟩
   have HP := Lib.hid hpre
   clear hpre
   have hkl : (k : Int) ≤ xs.length := by omega
   refine wp_seq ?_
   by_cases h : k < xs.length
   next =>
    obtain ⟨ab, ao, rfl⟩ := hS.lies 0 rfl rfl (by omega)
    obtain ⟨bb, bo, rfl⟩ := hS.lies 1 rfl rfl (by omega)
    obtain ⟨c, hc⟩ : ∃ c, nth xs k = c := ⟨_, rfl⟩
    obtain ⟨d, hd⟩ : ∃ c, nth bs k = c := ⟨_, rfl⟩
    have HC := Lib.hid hc
    have HD := Lib.hid hd
    clear hc hd
    conv => arg 2; whnf
    refine wp_region_lit ?_
    refine so_p hF (.bool true) (fun K hK => wp_lss_t rfl (hF.op 0 rfl) (hF.op 1 rfl) (by omega) hK) ?_; clear hF T; intro T hF
    refine wpList_nil ?_
    refine then_normal ?_
    refine wp_seq ?_
    refine wp_cond_true (hF.op 0 rfl) ?_
    refine wp_skip ?_
    refine then_normal ?_
    refine wp_seq ?_
    refine wp_block ?_
    refine wp_seq ?_
    conv => arg 2; whnf
    refine wp_region_lit ?_
    refine so_mv hF 1 ?_; clear hF T; intro T hF
    refine so_as hF 0 ?_; clear hF T; intro T hF
    refine wpList_nil ?_
    refine then_normal ?_
    refine wp_seq ?_
    by_cases hcd : c = d
    next =>
     have HCD := Lib.hid hcd
     have hcd2 : c ≤ d ∧ d ≤ c := by omega
     clear hcd
     conv => arg 2; whnf
     have hst : ∀ p, p ∈ ([fun v _ => v = .slice (some ⟨ab, ao, none⟩) (xs.length) (ac), fun v _ => v = .int .i64 ((k : Int)), fun v _ => v = .pointer (some ⟨ab, ao + k, none⟩), fun v _ => v = .int .u8 ((c : Int)), fun v _ => v = .slice (some ⟨bb, bo, none⟩) (bs.length) (bc), fun v _ => v = .int .i64 ((k : Int)), fun v _ => v = .pointer (some ⟨bb, bo + k, none⟩), fun v _ => v = .int .u8 ((d : Int)), fun v _ => v = .bool false] : List (Value → World → Prop)) → Stable p := all_cons (stable_is _) (all_cons (stable_is _) (all_cons (stable_is _) (all_cons (stable_is _) (all_cons (stable_is _) (all_cons (stable_is _) (all_cons (stable_is _) (all_cons (stable_is _) (all_cons (stable_is _) (all_nil)))))))))
     refine wp_region_relL hF (by kernel_rfl) (by kernel_rfl) [fun v _ => v = .slice (some ⟨ab, ao, none⟩) (xs.length) (ac), fun v _ => v = .int .i64 ((k : Int)), fun v _ => v = .pointer (some ⟨ab, ao + k, none⟩), fun v _ => v = .int .u8 ((c : Int)), fun v _ => v = .slice (some ⟨bb, bo, none⟩) (bs.length) (bc), fun v _ => v = .int .i64 ((k : Int)), fun v _ => v = .pointer (some ⟨bb, bo + k, none⟩), fun v _ => v = .int .u8 ((d : Int)), fun v _ => v = .bool false] (fun _ W => Sx w [] [xpc w.heap.size (.slice (some ⟨ab, ao, none⟩) (xs.length) (ac)) xs, xpc w.heap.size (.slice (some ⟨bb, bo, none⟩) (bs.length) (bc)) bs] W) (hS.drew) ?rsteps [16, 17, 18, 19, 20, 21, 22, 23, 24] (by rfl) ?rfin
     case rsteps =>
      refine ⟨?_, ?_, ?_, ?_, ?_, ?_, ?_, ?_, ?_, trivial⟩
      all_goals clear hS; clear W
      next =>
       refine dr_un hst (fun T1 W L hT hJ hd hs K hK => ?_)
       have e0 := dS hs hF 5
       clear hd hs hT
       exact wp_move rfl e0 (Lib.hid (hK _ _ rfl hJ (Below.refl _ _)))
      next =>
       refine dr_un hst (fun T1 W L hT hJ hd hs K hK => ?_)
       have e5 := dS hs hF 0
       clear hd hs hT
       exact wp_move rfl e5 (Lib.hid (hK _ _ rfl hJ (Below.refl _ _)))
      next =>
       refine dr_un hst (fun T1 W L hT hJ hd hs K hK => ?_)
       have e16 := dE (v := .slice (some ⟨ab, ao, none⟩) (xs.length) (ac)) (hd 0 16 ⟨⟨0, .data⟩, by simp, rfl, rfl⟩ rfl)
       have e17 := dE (v := .int .i64 ((k : Int))) (hd 1 17 ⟨⟨1, .data⟩, by simp, rfl, rfl⟩ rfl)
       clear hd hs hT
       exact wp_ixs rfl e16 e17 Try.underlying22 Try.sizeOf5 (by omega) (by omega) (ao + k) (by omega) (Lib.hid (hK _ _ rfl hJ (Below.refl _ _)))
      next =>
       refine dr_un hst (fun T1 W L hT hJ hd hs K hK => ?_)
       have e18 := dE (v := .pointer (some ⟨ab, ao + k, none⟩)) (hd 2 18 ⟨⟨2, .data⟩, by simp, rfl, rfl⟩ rfl)
       clear hd hs hT
       exact wp_ld rfl e18 Try.underlying5 rfl (by rw [← HC.out]; exact (hJ.pcS 0 rfl).at k _ (by omega) (by omega)) (Lib.hid (hK _ _ rfl hJ (Below.refl _ _)))
      next =>
       refine dr_un hst (fun T1 W L hT hJ hd hs K hK => ?_)
       have e1 := dS hs hF 6
       clear hd hs hT
       exact wp_move rfl e1 (Lib.hid (hK _ _ rfl hJ (Below.refl _ _)))
      next =>
       refine dr_un hst (fun T1 W L hT hJ hd hs K hK => ?_)
       have e5 := dS hs hF 0
       clear hd hs hT
       exact wp_move rfl e5 (Lib.hid (hK _ _ rfl hJ (Below.refl _ _)))
      next =>
       refine dr_un hst (fun T1 W L hT hJ hd hs K hK => ?_)
       have e20 := dE (v := .slice (some ⟨bb, bo, none⟩) (bs.length) (bc)) (hd 4 20 ⟨⟨4, .data⟩, by simp, rfl, rfl⟩ rfl)
       have e21 := dE (v := .int .i64 ((k : Int))) (hd 5 21 ⟨⟨5, .data⟩, by simp, rfl, rfl⟩ rfl)
       clear hd hs hT
       exact wp_ixs rfl e20 e21 Try.underlying22 Try.sizeOf5 (by omega) (by omega) (bo + k) (by omega) (Lib.hid (hK _ _ rfl hJ (Below.refl _ _)))
      next =>
       refine dr_un hst (fun T1 W L hT hJ hd hs K hK => ?_)
       have e22 := dE (v := .pointer (some ⟨bb, bo + k, none⟩)) (hd 6 22 ⟨⟨6, .data⟩, by simp, rfl, rfl⟩ rfl)
       clear hd hs hT
       exact wp_ld rfl e22 Try.underlying5 rfl (by rw [← HD.out]; exact (hJ.pcS 1 rfl).at k _ (by omega) (by omega)) (Lib.hid (hK _ _ rfl hJ (Below.refl _ _)))
      next =>
       refine dr_un hst (fun T1 W L hT hJ hd hs K hK => ?_)
       have e19 := dE (v := .int .u8 ((c : Int))) (hd 3 19 ⟨⟨3, .data⟩, by simp, rfl, rfl⟩ rfl)
       have e23 := dE (v := .int .u8 ((d : Int))) (hd 7 23 ⟨⟨7, .data⟩, by simp, rfl, rfl⟩ rfl)
       clear hd hs hT
       exact wp_neq_f rfl e19 e23 (by omega) (Lib.hid (hK _ _ rfl hJ (Below.refl _ _)))
     case rfin =>
      clear hS; clear W
      intro T1 L W hall hS hT1 hd1 hs1
      clear hst
      clear hall
      clear L
      have hF1 := hF.old hT1 hs1 rfl
      clear hF hs1 hT1
      have hF := hF1
      clear hF1
      clear T
      obtain ⟨T, rfl⟩ : ∃ x, x = T1 := ⟨_, rfl⟩
      replace hF := hF.cons (hd1 0 _ 16 rfl rfl)
      replace hF := hF.cons (hd1 1 _ 17 rfl rfl)
      replace hF := hF.cons (hd1 2 _ 18 rfl rfl)
      replace hF := hF.cons (hd1 3 _ 19 rfl rfl)
      replace hF := hF.cons (hd1 4 _ 20 rfl rfl)
      replace hF := hF.cons (hd1 5 _ 21 rfl rfl)
      replace hF := hF.cons (hd1 6 _ 22 rfl rfl)
      replace hF := hF.cons (hd1 7 _ 23 rfl rfl)
      replace hF := hF.cons (hd1 8 _ 24 rfl rfl)
      clear hd1
      replace hF : Fr 26 ⟨T, []⟩ [(24, .bool false), (23, .int .u8 ((d : Int))), (22, .pointer (some ⟨bb, bo + k, none⟩)), (21, .int .i64 ((k : Int))), (20, .slice (some ⟨bb, bo, none⟩) (bs.length) (bc)), (19, .int .u8 ((c : Int))), (18, .pointer (some ⟨ab, ao + k, none⟩)), (17, .int .i64 ((k : Int))), (16, .slice (some ⟨ab, ao, none⟩) (xs.length) (ac)), (5, .int .i64 ((k : Int))), (15, .int .i64 ((k : Int))), (14, .bool true), (13, .int .i64 ((k : Int))), (12, .int .i64 ((xs.length : Nat))), (0, .slice (some ⟨ab, ao, none⟩) (xs.length) (ac)), (1, .slice (some ⟨bb, bo, none⟩) (bs.length) (bc))] := hF
      refine then_normal ?_
      refine wp_cond_false (hF.op 0 rfl) ?_
      refine wp_skip ?_
      refine block_normal ?_
      refine then_normal ?_
      conv => arg 2; whnf
      refine wp_region_lit ?_
      refine so_p hF (.int .i64 ((k + 1 : Nat) : Int)) (fun K hK => wp_add rfl (hF.op 12 rfl) rfl (((k + 1 : Nat) : Int)) (by rw [IntKind.wrap_i64]; omega) hK) ?_; clear hF T; intro T hF
      replace hF : Fr 26 ⟨T, []⟩ [(25, .int .i64 ((k + 1 : Nat) : Int)), (12, .int .i64 ((xs.length : Nat))), (0, .slice (some ⟨ab, ao, none⟩) (xs.length) (ac)), (1, .slice (some ⟨bb, bo, none⟩) (bs.length) (bc))] := hF.pick [0, 14, 15, 16]
      refine so_mv hF 0 ?_; clear hF T; intro T hF
      refine wpList_nil ?_
      refine then_normal ?_
      exact ⟨n - 1, by omega, T, k + 1, rfl, (hF.pick [0, 2, 3, 4]), hS, by omega, fun j hj => by
                  by_cases e : j = k
                  · subst e; rw [HC.out, HD.out]; omega
                  · exact HP.out j (by omega)⟩
    next =>
     conv => arg 2; whnf
     have hst : ∀ p, p ∈ ([fun v _ => v = .slice (some ⟨ab, ao, none⟩) (xs.length) (ac), fun v _ => v = .int .i64 ((k : Int)), fun v _ => v = .pointer (some ⟨ab, ao + k, none⟩), fun v _ => v = .int .u8 ((c : Int)), fun v _ => v = .slice (some ⟨bb, bo, none⟩) (bs.length) (bc), fun v _ => v = .int .i64 ((k : Int)), fun v _ => v = .pointer (some ⟨bb, bo + k, none⟩), fun v _ => v = .int .u8 ((d : Int)), fun v _ => v = .bool true] : List (Value → World → Prop)) → Stable p := all_cons (stable_is _) (all_cons (stable_is _) (all_cons (stable_is _) (all_cons (stable_is _) (all_cons (stable_is _) (all_cons (stable_is _) (all_cons (stable_is _) (all_cons (stable_is _) (all_cons (stable_is _) (all_nil)))))))))
     refine wp_region_relL hF (by kernel_rfl) (by kernel_rfl) [fun v _ => v = .slice (some ⟨ab, ao, none⟩) (xs.length) (ac), fun v _ => v = .int .i64 ((k : Int)), fun v _ => v = .pointer (some ⟨ab, ao + k, none⟩), fun v _ => v = .int .u8 ((c : Int)), fun v _ => v = .slice (some ⟨bb, bo, none⟩) (bs.length) (bc), fun v _ => v = .int .i64 ((k : Int)), fun v _ => v = .pointer (some ⟨bb, bo + k, none⟩), fun v _ => v = .int .u8 ((d : Int)), fun v _ => v = .bool true] (fun _ W => Sx w [] [xpc w.heap.size (.slice (some ⟨ab, ao, none⟩) (xs.length) (ac)) xs, xpc w.heap.size (.slice (some ⟨bb, bo, none⟩) (bs.length) (bc)) bs] W) (hS.drew) ?rsteps [16, 17, 18, 19, 20, 21, 22, 23, 24] (by rfl) ?rfin
     case rsteps =>
      refine ⟨?_, ?_, ?_, ?_, ?_, ?_, ?_, ?_, ?_, trivial⟩
      all_goals clear hS; clear W
      next =>
       refine dr_un hst (fun T1 W L hT hJ hd hs K hK => ?_)
       have e0 := dS hs hF 5
       clear hd hs hT
       exact wp_move rfl e0 (Lib.hid (hK _ _ rfl hJ (Below.refl _ _)))
      next =>
       refine dr_un hst (fun T1 W L hT hJ hd hs K hK => ?_)
       have e5 := dS hs hF 0
       clear hd hs hT
       exact wp_move rfl e5 (Lib.hid (hK _ _ rfl hJ (Below.refl _ _)))
      next =>
       refine dr_un hst (fun T1 W L hT hJ hd hs K hK => ?_)
       have e16 := dE (v := .slice (some ⟨ab, ao, none⟩) (xs.length) (ac)) (hd 0 16 ⟨⟨0, .data⟩, by simp, rfl, rfl⟩ rfl)
       have e17 := dE (v := .int .i64 ((k : Int))) (hd 1 17 ⟨⟨1, .data⟩, by simp, rfl, rfl⟩ rfl)
       clear hd hs hT
       exact wp_ixs rfl e16 e17 Try.underlying22 Try.sizeOf5 (by omega) (by omega) (ao + k) (by omega) (Lib.hid (hK _ _ rfl hJ (Below.refl _ _)))
      next =>
       refine dr_un hst (fun T1 W L hT hJ hd hs K hK => ?_)
       have e18 := dE (v := .pointer (some ⟨ab, ao + k, none⟩)) (hd 2 18 ⟨⟨2, .data⟩, by simp, rfl, rfl⟩ rfl)
       clear hd hs hT
       exact wp_ld rfl e18 Try.underlying5 rfl (by rw [← HC.out]; exact (hJ.pcS 0 rfl).at k _ (by omega) (by omega)) (Lib.hid (hK _ _ rfl hJ (Below.refl _ _)))
      next =>
       refine dr_un hst (fun T1 W L hT hJ hd hs K hK => ?_)
       have e1 := dS hs hF 6
       clear hd hs hT
       exact wp_move rfl e1 (Lib.hid (hK _ _ rfl hJ (Below.refl _ _)))
      next =>
       refine dr_un hst (fun T1 W L hT hJ hd hs K hK => ?_)
       have e5 := dS hs hF 0
       clear hd hs hT
       exact wp_move rfl e5 (Lib.hid (hK _ _ rfl hJ (Below.refl _ _)))
      next =>
       refine dr_un hst (fun T1 W L hT hJ hd hs K hK => ?_)
       have e20 := dE (v := .slice (some ⟨bb, bo, none⟩) (bs.length) (bc)) (hd 4 20 ⟨⟨4, .data⟩, by simp, rfl, rfl⟩ rfl)
       have e21 := dE (v := .int .i64 ((k : Int))) (hd 5 21 ⟨⟨5, .data⟩, by simp, rfl, rfl⟩ rfl)
       clear hd hs hT
       exact wp_ixs rfl e20 e21 Try.underlying22 Try.sizeOf5 (by omega) (by omega) (bo + k) (by omega) (Lib.hid (hK _ _ rfl hJ (Below.refl _ _)))
      next =>
       refine dr_un hst (fun T1 W L hT hJ hd hs K hK => ?_)
       have e22 := dE (v := .pointer (some ⟨bb, bo + k, none⟩)) (hd 6 22 ⟨⟨6, .data⟩, by simp, rfl, rfl⟩ rfl)
       clear hd hs hT
       exact wp_ld rfl e22 Try.underlying5 rfl (by rw [← HD.out]; exact (hJ.pcS 1 rfl).at k _ (by omega) (by omega)) (Lib.hid (hK _ _ rfl hJ (Below.refl _ _)))
      next =>
       refine dr_un hst (fun T1 W L hT hJ hd hs K hK => ?_)
       have e19 := dE (v := .int .u8 ((c : Int))) (hd 3 19 ⟨⟨3, .data⟩, by simp, rfl, rfl⟩ rfl)
       have e23 := dE (v := .int .u8 ((d : Int))) (hd 7 23 ⟨⟨7, .data⟩, by simp, rfl, rfl⟩ rfl)
       clear hd hs hT
       exact wp_neq_t rfl e19 e23 (by omega) (Lib.hid (hK _ _ rfl hJ (Below.refl _ _)))
     case rfin =>
      clear hS; clear W
      intro T1 L W hall hS hT1 hd1 hs1
      clear hst
      clear hall
      clear L
      have hF1 := hF.old hT1 hs1 rfl
      clear hF hs1 hT1
      have hF := hF1
      clear hF1
      clear T
      obtain ⟨T, rfl⟩ : ∃ x, x = T1 := ⟨_, rfl⟩
      replace hF := hF.cons (hd1 0 _ 16 rfl rfl)
      replace hF := hF.cons (hd1 1 _ 17 rfl rfl)
      replace hF := hF.cons (hd1 2 _ 18 rfl rfl)
      replace hF := hF.cons (hd1 3 _ 19 rfl rfl)
      replace hF := hF.cons (hd1 4 _ 20 rfl rfl)
      replace hF := hF.cons (hd1 5 _ 21 rfl rfl)
      replace hF := hF.cons (hd1 6 _ 22 rfl rfl)
      replace hF := hF.cons (hd1 7 _ 23 rfl rfl)
      replace hF := hF.cons (hd1 8 _ 24 rfl rfl)
      clear hd1
      replace hF : Fr 26 ⟨T, []⟩ [(24, .bool true), (23, .int .u8 ((d : Int))), (22, .pointer (some ⟨bb, bo + k, none⟩)), (21, .int .i64 ((k : Int))), (20, .slice (some ⟨bb, bo, none⟩) (bs.length) (bc)), (19, .int .u8 ((c : Int))), (18, .pointer (some ⟨ab, ao + k, none⟩)), (17, .int .i64 ((k : Int))), (16, .slice (some ⟨ab, ao, none⟩) (xs.length) (ac)), (5, .int .i64 ((k : Int))), (15, .int .i64 ((k : Int))), (14, .bool true), (13, .int .i64 ((k : Int))), (12, .int .i64 ((xs.length : Nat))), (0, .slice (some ⟨ab, ao, none⟩) (xs.length) (ac)), (1, .slice (some ⟨bb, bo, none⟩) (bs.length) (bc))] := hF
      refine then_normal ?_
      refine wp_cond_true (hF.op 0 rfl) ?_
      refine wp_seq ?_
      conv => arg 2; whnf
      refine wp_region_lit ?_
      refine so_p hF (.bool false) (fun K hK => wp_assign rfl rfl hK) ?_; clear hF T; intro T hF
      refine wpList_nil ?_
      refine then_normal ?_
      refine wp_ret ?_
      refine block_ret ?_
      refine then_ret ?_
      refine then_ret ?_
      refine block_ret ?_
      refine then_ret ?_
      refine bodyPost_ret (v := .bool false) (results_t1 Try.results21 (hF.ev 0 rfl)) rfl ?_
      exact ⟨by rw [decide_eq_false (fun e => hcd (by rw [← HC.out, ← HD.out, e]))], hS.below⟩
   next =>
    obtain rfl : k = xs.length := by omega
    conv => arg 2; whnf
    refine wp_region_lit ?_
    refine so_p hF (.bool false) (fun K hK => wp_lss_f rfl (hF.op 0 rfl) (hF.op 1 rfl) (by omega) hK) ?_; clear hF T; intro T hF
    refine wpList_nil ?_
    refine then_normal ?_
    refine wp_seq ?_
    refine wp_cond_false (hF.op 0 rfl) ?_
    refine wp_exit ?_
    refine then_exit ?_
    refine then_exit ?_
    refine block_exit ?_
    refine then_normal ?_
    refine wp_seq ?_
    conv => arg 2; whnf
    refine wp_region_lit ?_
    refine so_p hF (.bool true) (fun K hK => wp_assign rfl rfl hK) ?_; clear hF T; intro T hF
    refine wpList_nil ?_
    refine then_normal ?_
    refine wp_ret ?_
    refine bodyPost_ret (v := .bool true) (results_t1 Try.results21 (hF.ev 0 rfl)) rfl ?_
    exact ⟨by rw [decide_eq_true (nth_ext2 hlen HP.out)], hS.below⟩
  next =>
   conv => arg 2; whnf
   refine wp_region_lit ?_
   refine so_mv hF 1 ?_; clear hF T; intro T hF
   refine so_p hF (.int .i64 ((xs.length : Nat))) (fun K hK => wp_len rfl (hF.op 0 rfl) Try.underlying22 hK) ?_; clear hF T; intro T hF
   refine so_mv hF 4 ?_; clear hF T; intro T hF
   refine so_p hF (.int .i64 ((bs.length : Nat))) (fun K hK => wp_len rfl (hF.op 0 rfl) Try.underlying22 hK) ?_; clear hF T; intro T hF
   refine so_p hF (.bool true) (fun K hK => wp_neq_t rfl (hF.op 2 rfl) (hF.op 0 rfl) (by omega) hK) ?_; clear hF T; intro T hF
   refine wpList_nil ?_
   refine then_normal ?_
   refine wp_cond_true (hF.op 0 rfl) ?_
   refine wp_seq ?_
   conv => arg 2; whnf
   refine wp_region_lit ?_
   replace hF : Fr 26 ⟨T, []⟩ [] := hF.pick []
   refine so_p hF (.bool false) (fun K hK => wp_assign rfl rfl hK) ?_; clear hF T; intro T hF
   refine wpList_nil ?_
   refine then_normal ?_
   refine wp_ret ?_
   refine then_ret ?_
   refine bodyPost_ret (v := .bool false) (results_t1 Try.results21 (hF.ev 0 rfl)) rfl ?_
   exact ⟨by rw [decide_eq_false (fun e => hlen (by rw [e]))], hS.below⟩
set_option maxRecDepth 100000 in
set_option maxHeartbeats 4000000 in
theorem grow_c (n : Nat) (hn : n ≤ 1000000000) (w : World) :
    Calls Try.prog 27 #[.slice none 0 0, .int .i64 (n : Int)] w fun e w' => ∃ v', e = .returned v' ∧ PadR w v' [] w' := by
  have S0 := Sx.nil w
  have sk : Try.f27.body = some (.seq (rgn Try.f27 0) (.seq (.seq (rgn Try.f27 1) (.cond (.tmp 6) (rgn Try.f27 2) .skip)) (.seq (.seq (rgn Try.f27 3) (.seq (rgn Try.f27 4) (.cond (.tmp 16) (rgn Try.f27 5) .skip))) (.seq (rgn Try.f27 6) .ret)))) := by kernel_rfl
  refine enter 27 [(0, .slice none 0 0), (1, .int .i64 ((n : Int)))] Try.func27 sk (by rfl) rfl S0 (fun T W hF hS => ?_)
  clear sk S0
  refine wp_seq ?_
  conv => arg 2; whnf
  refine wp_region_lit ?_
  refine so_p hF (.slice none 0 0) (fun K hK => wp_assign rfl rfl hK) ?_; clear hF T; intro T hF
  refine wpList_nil ?_
  refine then_normal ?_
  refine wp_seq ?_
  refine wp_seq ?_
  conv => arg 2; whnf
  refine wp_region_lit ?_
  refine so_mv hF 2 ?_; clear hF T; intro T hF
  refine so_p hF (.bool false) (fun K hK => wp_lss_f rfl (hF.op 0 rfl) rfl (by omega) hK) ?_; clear hF T; intro T hF
  refine wpList_nil ?_
  refine then_normal ?_
  refine wp_cond_false (hF.op 0 rfl) ?_
  refine wp_skip ?_
  refine then_normal ?_
  refine wp_seq ?_
  refine wp_seq ?_
  conv => arg 2; whnf
  refine wp_region_lit ?_
  refine so_mv hF 4 ?_; clear hF T; intro T hF
  refine so_mv hF 4 ?_; clear hF T; intro T hF
  refine so_pure hF rfl (wanted_none rfl _) (by decide) rfl (.int .i64 0) (fun K hK => ?_) ?_
  next =>
   have f9 := hF.ev 0 rfl
   go_simp
   exact hK.out
  clear hF
  clear T
  intro T hF
  refine so_mv hF 6 ?_; clear hF T; intro T hF
  refine so_p hF (.int .i64 0) (fun K hK => wp_len rfl (hF.op 0 rfl) Try.underlying22 hK) ?_; clear hF T; intro T hF
  refine so_p hF (.int .i64 0) (fun K hK => wp_sub rfl (hF.op 2 rfl) (hF.op 0 rfl) (0) (rfl) hK) ?_; clear hF T; intro T hF
  refine so_p hF (.int .i64 (n : Int)) (fun K hK => wp_sub rfl (hF.op 5 rfl) (hF.op 0 rfl) ((n : Int)) (by rw [IntKind.wrap_i64]; omega) hK) ?_; clear hF T; intro T hF
  replace hF : Fr 27 ⟨T, []⟩ [(14, .int .i64 (n : Int)), (0, .slice none 0 0)] := hF.pick [0, 10]
  refine so_as hF 0 ?_; clear hF T; intro T hF
  refine wpList_nil ?_
  refine then_normal ?_
  refine wp_seq ?_
  by_cases h : 0 < n
  next =>
   conv => arg 2; whnf
   refine wp_region_lit ?_
   refine so_mv hF 0 ?_; clear hF T; intro T hF
   refine so_p hF (.bool true) (fun K hK => wp_gtr_t rfl (hF.op 0 rfl) rfl (by omega) hK) ?_; clear hF T; intro T hF
   refine wpList_nil ?_
   refine then_normal ?_
   refine wp_cond_true (hF.op 0 rfl) ?_
   conv => arg 2; whnf
   refine wp_region_lit ?_
   refine so_mv hF 4 ?_; clear hF T; intro T hF
   refine so_mv hF 5 ?_; clear hF T; intro T hF
   refine so_pure hF rfl (wanted_none rfl _) (by decide) rfl (.int .i64 0) (fun K hK => ?_) ?_
   next =>
    have f18 := hF.ev 0 rfl
    go_simp
    exact hK.out
   clear hF
   clear T
   intro T hF
   refine so_pure hF rfl (wanted_none rfl _) (by decide) rfl (.slice none 0 0) (fun K hK => ?_) ?_
   next =>
    have f17 := hF.ev 2 rfl
    have f19 := hF.ev 0 rfl
    go_simp
    exact hK.out
   clear hF
   clear T
   intro T hF
   refine so_mv hF 6 ?_; clear hF T; intro T hF
   refine so_step hF rfl (wanted_none rfl _) (by decide) rfl (fun v W' => ∃ g c, .slice (some ⟨g, 0, none⟩) n c = v ∧ n ≤ c ∧ w.heap.size ≤ g ∧ ∃ cs, c ≤ cs.size ∧ Sx w [(g, .cells cs 5 (0, 0))] [] W') (fun K hK => ?_) ?_
   next =>
    obtain ⟨i, hi, hz, h1, h2⟩ := info_parts u8_row
    have hr := fun ty => Lib.run_append_nil_zeros (P := Try.prog) W 22 3 ty 5 i (.int .u8 0) .i64 .i64 Try.underlying22 Try.underlying3 hi hz n h (by rw [h1]; decide) (by omega) (by rw [h2]; omega)
    have hge := grownCap_ge W n 0 5
    refine Lib.wp_append_run W (.tmp 20) (.tmp 21) _ _ rfl _ _ (hF.op 1 rfl) (hF.op 0 rfl) _ _ (hr _) ?_
    refine hK.out _ _ ⟨_, _, rfl, hge, hS.below.size, _, ?_, hS.drew.alloc _⟩
    simp only [Array.size_append, size_zeroCells]; simp [Value.cells]; omega
   clear hS
   clear hF
   clear T
   rintro v T W1 ⟨g22, c22, rfl, hc22, hg22, cs22, hcs22, hS⟩ hF
   try clear W
   obtain ⟨W, rfl⟩ : ∃ x, x = W1 := ⟨_, rfl⟩
   refine so_mv hF 10 ?_; clear hF T; intro T hF
   refine so_p hF (.int .i64 0) (fun K hK => wp_len rfl (hF.op 0 rfl) Try.underlying22 hK) ?_; clear hF T; intro T hF
   refine so_pure hF rfl (wanted_none rfl _) (by decide) rfl (.slice (some ⟨g22, 0, none⟩) (0) (c22)) (fun K hK => ?_) ?_
   next =>
    have f22 := hF.ev 2 rfl
    have f24 := hF.ev 0 rfl
    have hcI : (0 : Int) ≤ (c22 : Int) := Int.natCast_nonneg _
    go_simp
    exact hK.out
   clear hF
   clear T
   intro T hF
   replace hF : Fr 27 ⟨T, []⟩ [(25, .slice (some ⟨g22, 0, none⟩) (0) (c22))] := hF.pick [0]
   refine so_as hF 0 ?_; clear hF T; intro T hF
   refine wpList_nil ?_
   refine then_normal ?_
   refine wp_seq ?_
   conv => arg 2; whnf
   refine wp_region_lit ?_
   refine so_mv hF 0 ?_; clear hF T; intro T hF
   refine so_as hF 0 ?_; clear hF T; intro T hF
   refine wpList_nil ?_
   refine then_normal ?_
   refine wp_ret ?_
   refine bodyPost_ret (v := .slice (some ⟨g22, 0, none⟩) (0) (c22)) (results_t1 Try.results27 (hF.ev 0 rfl)) rfl ?_
   refine ⟨_, rfl, hS.below, Or.inr ⟨g22, 0, c22, cs22, rfl, hS.at 0 rfl, Nat.zero_le _, by omega, fun i hi => absurd hi (Nat.not_lt_zero i)⟩, fun b hb => ?_⟩
   simp [Value.ownBlock] at hb; omega
  next =>
   conv => arg 2; whnf
   refine wp_region_lit ?_
   refine so_mv hF 0 ?_; clear hF T; intro T hF
   refine so_p hF (.bool false) (fun K hK => wp_gtr_f rfl (hF.op 0 rfl) rfl (by omega) hK) ?_; clear hF T; intro T hF
   refine wpList_nil ?_
   refine then_normal ?_
   refine wp_cond_false (hF.op 0 rfl) ?_
   refine wp_skip ?_
   refine then_normal ?_
   refine wp_seq ?_
   conv => arg 2; whnf
   refine wp_region_lit ?_
   refine so_mv hF 4 ?_; clear hF T; intro T hF
   refine so_as hF 0 ?_; clear hF T; intro T hF
   refine wpList_nil ?_
   refine then_normal ?_
   refine wp_ret ?_
   refine bodyPost_ret (v := .slice none 0 0) (results_t1 Try.results27 (hF.ev 0 rfl)) rfl ?_
   exact ⟨_, rfl, hS.below, Or.inl ⟨rfl, rfl⟩, fun b hb => by cases hb⟩
theorem flat_snoc (l : List (List Nat)) (k : Nat) (x : List Nat) (h : l[k]? = some x) : (l.take (k + 1)).flatten = (l.take k).flatten ++ x := by
  rw [List.take_add_one, h]; simp
theorem flat_take (l : List (List Nat)) (k : Nat) : (l.take k).flatten.length ≤ l.flatten.length := by
  have e : l.flatten = (l.take k).flatten ++ (l.drop k).flatten := by rw [← List.flatten_append, List.take_append_drop]
  rw [e, List.length_append]; omega
theorem Sx.ofpcs1 {w : World} {lv : Value} {pss : List (List Nat)} (h2 : Pcs w w.heap.size lv pss) : Sx w [] [xpcs (fun b => b < w.heap.size) lv pss] w :=
  (Sx.nil w).addX (xpcs (fun b => b < w.heap.size) lv pss) h2 (fun _ h => by cases h) (fun _ h => h) (fun _ h => by cases h)
set_option maxRecDepth 100000 in
set_option maxHeartbeats 4000000 in
theorem concat_c (lv : Value) (pss : List (List Nat)) (w : World) (hl : Pcs w w.heap.size lv pss) (hlen : pss.flatten.length ≤ 1000000000) (hpl : pss.length ≤ 1000000000) :
    Calls Try.prog 17 #[lv] w fun e w' => ∃ v', e = .returned v' ∧ PadR w v' pss.flatten w' := by
  obtain ⟨la, lc, rfl⟩ := hl.shape0
  have S0 := Sx.ofpcs1 hl
  clear hl
  have sk : Try.f17.body = some (.seq (rgn Try.f17 0) (.seq (rgn Try.f17 1) (.seq (.seq (rgn Try.f17 2) (.block 0 (.loop (.seq (rgn Try.f17 3) (.seq (.cond (.tmp 12) .skip (.exit 0)) (.seq (.block 1 (.seq (rgn Try.f17 4) (.seq (rgn Try.f17 5) (.seq (rgn Try.f17 6) (.cond (.tmp 20) (rgn Try.f17 7) .skip))))) (rgn Try.f17 8))))))) (.seq (rgn Try.f17 9) (.seq (.seq (rgn Try.f17 10) (.block 2 (.loop (.seq (rgn Try.f17 11) (.seq (.cond (.tmp 28) .skip (.exit 2)) (.seq (.block 3 (.seq (rgn Try.f17 12) (rgn Try.f17 13))) (rgn Try.f17 14))))))) (.seq (rgn Try.f17 15) .ret)))))) := by kernel_rfl
  refine enter 36 [(0, .slice la (pss.length) (lc))] Try.func17 sk (by rfl) rfl S0 (fun T W hF hS => ?_)
  clear sk S0
  refine wp_seq ?_
  conv => arg 2; whnf
  refine wp_region_lit ?_
  refine so_p hF (.slice none 0 0) (fun K hK => wp_assign rfl rfl hK) ?_; clear hF T; intro T hF
  refine wpList_nil ?_
  refine then_normal ?_
  refine wp_seq ?_
  conv => arg 2; whnf
  refine wp_region_lit ?_
  refine so_p hF (.int .i64 0) (fun K hK => wp_assign rfl rfl hK) ?_; clear hF T; intro T hF
  refine wpList_nil ?_
  refine then_normal ?_
  refine wp_seq ?_
  refine wp_seq ?_
  conv => arg 2; whnf
  refine wp_region_lit ?_
  refine so_mv hF 2 ?_; clear hF T; intro T hF
  refine so_p hF (.int .i64 ((pss.length : Nat))) (fun K hK => wp_len rfl (hF.op 0 rfl) Try.underlying44 hK) ?_; clear hF T; intro T hF
  refine so_p hF (.int .i64 0) (fun K hK => wp_move rfl rfl hK) ?_; clear hF T; intro T hF
  refine wpList_nil ?_
  refine then_normal ?_
  refine wp_block ?_
  refine wp_loop_ghost (fun n a W => ∃ T : Array Value, ∃ k : Nat, ∃ m : Nat, a = ⟨T, []⟩ ∧ Fr 36 ⟨T, []⟩ [(11, .int .i64 ((k : Int))), (10, .int .i64 ((pss.length : Nat))), (9, .slice la (pss.length) (lc)), (3, .int .i64 ((m : Int))), (0, .slice la (pss.length) (lc))] ∧ Sx w [] [xpcs (fun b => b < w.heap.size) (.slice la (pss.length) (lc)) pss] W ∧ (k + n = pss.length) ∧ (m = (pss.take k).flatten.length)) (pss.length) ⟨T, 0, 0, rfl, (hF.pick [0, 1, 2, 3, 5]), hS, Nat.zero_add _, by simp⟩ ?_
  clear hF hS
  try clear T
  try clear W
  rintro n a W ⟨T, k, m, rfl, hF, hS, hk, hm⟩
  have HM := Lib.hid hm
  have hml := flat_take pss k
  rw [← hm] at hml
  clear hm
  have hkl : (k : Int) ≤ pss.length := by omega
  refine wp_seq ?_
  by_cases h : k < pss.length
  next =>
   obtain ⟨x, hx⟩ : ∃ x, pss[k]? = some x := ⟨_, List.getElem?_eq_getElem h⟩
   have HX := Lib.hid hx
   have hfl := flat_take pss (k + 1)
   rw [flat_snoc pss k x hx, List.length_append] at hfl
   rw [← HM.out] at hfl
   clear hx
   conv => arg 2; whnf
   refine wp_region_lit ?_
   refine so_p hF (.bool true) (fun K hK => wp_lss_t rfl (hF.op 0 rfl) (hF.op 1 rfl) (by omega) hK) ?_; clear hF T; intro T hF
   refine wpList_nil ?_
   refine then_normal ?_
   refine wp_seq ?_
   refine wp_cond_true (hF.op 0 rfl) ?_
   refine wp_skip ?_
   refine then_normal ?_
   refine wp_seq ?_
   refine wp_block ?_
   refine wp_seq ?_
   obtain ⟨lb, lo, xa, xc, rfl, hcell, hS1⟩ := pcs_cell hS 0 rfl k x HX.out
   have hS := hS1
   clear hS1
   conv => arg 2; whnf
   refine wp_region_lit ?_
   refine so_p hF (.pointer (some ⟨lb, lo + k, none⟩)) (fun K hK => wp_ixs rfl (hF.op 3 rfl) (hF.op 1 rfl) Try.underlying44 Try.sizeOf22 (by omega) (by omega) (lo + k) (by omega) hK) ?_; clear hF T; intro T hF
   refine so_p hF (.slice xa (x.length) (xc)) (fun K hK => wp_ld rfl (hF.op 0 rfl) Try.underlying22 rfl (hcell) hK) ?_; clear hF T; intro T hF
   refine so_as hF 0 ?_; clear hF T; intro T hF
   refine wpList_nil ?_
   refine then_normal ?_
   refine wp_seq ?_
   conv => arg 2; whnf
   refine wp_region_lit ?_
   refine so_mv hF 7 ?_; clear hF T; intro T hF
   refine so_mv hF 1 ?_; clear hF T; intro T hF
   refine so_p hF (.int .i64 ((x.length : Nat))) (fun K hK => wp_len rfl (hF.op 0 rfl) Try.underlying22 hK) ?_; clear hF T; intro T hF
   refine so_p hF (.int .i64 ((m + x.length : Nat) : Int)) (fun K hK => wp_add rfl (hF.op 2 rfl) (hF.op 0 rfl) (((m + x.length : Nat) : Int)) (by rw [IntKind.wrap_i64]; omega) hK) ?_; clear hF T; intro T hF
   replace hF : Fr 36 ⟨T, []⟩ [(18, .int .i64 ((m + x.length : Nat) : Int)), (11, .int .i64 ((k : Int))), (10, .int .i64 ((pss.length : Nat))), (9, .slice (some ⟨lb, lo, none⟩) (pss.length) (lc)), (0, .slice (some ⟨lb, lo, none⟩) (pss.length) (lc))] := hF.pick [0, 8, 9, 10, 12]
   refine so_as hF 0 ?_; clear hF T; intro T hF
   refine wpList_nil ?_
   refine then_normal ?_
   refine wp_seq ?_
   conv => arg 2; whnf
   refine wp_region_lit ?_
   refine so_mv hF 0 ?_; clear hF T; intro T hF
   refine so_p hF (.bool false) (fun K hK => wp_lss_f rfl (hF.op 0 rfl) rfl (by omega) hK) ?_; clear hF T; intro T hF
   refine wpList_nil ?_
   refine then_normal ?_
   refine wp_cond_false (hF.op 0 rfl) ?_
   refine wp_skip ?_
   refine block_normal ?_
   refine then_normal ?_
   conv => arg 2; whnf
   refine wp_region_lit ?_
   refine so_p hF (.int .i64 ((k + 1 : Nat) : Int)) (fun K hK => wp_add rfl (hF.op 4 rfl) rfl (((k + 1 : Nat) : Int)) (by rw [IntKind.wrap_i64]; omega) hK) ?_; clear hF T; intro T hF
   replace hF : Fr 36 ⟨T, []⟩ [(22, .int .i64 ((k + 1 : Nat) : Int)), (3, .int .i64 ((m + x.length : Nat) : Int)), (10, .int .i64 ((pss.length : Nat))), (9, .slice (some ⟨lb, lo, none⟩) (pss.length) (lc)), (0, .slice (some ⟨lb, lo, none⟩) (pss.length) (lc))] := hF.pick [0, 3, 6, 7, 8]
   refine so_mv hF 0 ?_; clear hF T; intro T hF
   refine wpList_nil ?_
   refine then_normal ?_
   exact ⟨n - 1, by omega, T, k + 1, m + x.length, rfl, (hF.pick [0, 3, 4, 2, 5]), (hS.pick [] [1] rfl rfl), by omega, by rw [flat_snoc pss k x HX.out, List.length_append, HM.out]⟩
  next =>
   obtain rfl : k = pss.length := by omega
   rw [List.take_length] at HM
   conv => arg 2; whnf
   refine wp_region_lit ?_
   refine so_p hF (.bool false) (fun K hK => wp_lss_f rfl (hF.op 0 rfl) (hF.op 1 rfl) (by omega) hK) ?_; clear hF T; intro T hF
   refine wpList_nil ?_
   refine then_normal ?_
   refine wp_seq ?_
   refine wp_cond_false (hF.op 0 rfl) ?_
   refine wp_exit ?_
   refine then_exit ?_
   refine then_exit ?_
   refine block_exit ?_
   refine then_normal ?_
   refine wp_seq ?_
   conv => arg 2; whnf
   refine wp_region_lit ?_
   refine so_mv hF 4 ?_; clear hF T; intro T hF
   refine so_step hF rfl (wanted_none rfl _) (by decide) rfl (fun v W' => ∃ aq cq, .slice aq (0) cq = v ∧ Sx w [] [xown w (.slice aq (0) cq) ([]), xpcs (fun b => b < w.heap.size) (.slice la (pss.length) (lc)) pss] W') (fun K hK => ?_) ?_
   next =>
    refine wp_call rfl Try.func27 (by kernel_rfl) (ev2 rfl (hF.op 0 rfl)) ?_
    refine (grow_c m (by omega) _).mono ?_
    rintro e W2 ⟨v', rfl, hp⟩
    obtain ⟨aq, cq, rfl⟩ := hp.rest.shape
    exact ⟨_, rfl, hK.out _ _ ⟨_, _, rfl, hS.gave hp⟩⟩
   clear hF hS
   clear T
   rintro v T W1 ⟨a24, c24, rfl, hS⟩ hF
   try clear W
   obtain ⟨W, rfl⟩ : ∃ x, x = W1 := ⟨_, rfl⟩
   refine so_as hF 0 ?_; clear hF T; intro T hF
   refine wpList_nil ?_
   refine then_normal ?_
   refine wp_seq ?_
   refine wp_seq ?_
   conv => arg 2; whnf
   refine wp_region_lit ?_
   refine so_mv hF 8 ?_; clear hF T; intro T hF
   refine so_p hF (.int .i64 ((pss.length : Nat))) (fun K hK => wp_len rfl (hF.op 0 rfl) Try.underlying44 hK) ?_; clear hF T; intro T hF
   refine so_p hF (.int .i64 0) (fun K hK => wp_move rfl rfl hK) ?_; clear hF T; intro T hF
   refine wpList_nil ?_
   refine then_normal ?_
   refine wp_block ?_
   refine wp_loop_ghost (fun n a W => ∃ T : Array Value, ∃ k : Nat, ∃ zs : List Nat, ∃ za : Option Addr, ∃ zc : Nat, a = ⟨T, []⟩ ∧ Fr 36 ⟨T, []⟩ [(27, .int .i64 ((k : Int))), (26, .int .i64 ((pss.length : Nat))), (25, .slice la (pss.length) (lc)), (6, .slice za (zs.length) (zc))] ∧ Sx w [] [xown w (.slice za zs.length zc) zs, xpcs (fun b => b < w.heap.size) (.slice la (pss.length) (lc)) pss] W ∧ (k + n = pss.length) ∧ (zs = (pss.take k).flatten)) (pss.length) ⟨T, 0, [], _, _, rfl, (hF.pick [0, 1, 2, 3]), hS, Nat.zero_add _, by simp⟩ ?_
   clear hF hS
   try clear T
   try clear W
   rintro n a W ⟨T, k, zs, za, zc, rfl, hF, hS, hk, hz⟩
   have HZ := Lib.hid hz
   have hml := flat_take pss k
   rw [← hz] at hml
   clear hz
   have hkl : (k : Int) ≤ pss.length := by omega
   refine wp_seq ?_
   by_cases h : k < pss.length
   next =>
    obtain ⟨x, hx⟩ : ∃ x, pss[k]? = some x := ⟨_, List.getElem?_eq_getElem h⟩
    have HX := Lib.hid hx
    have hfl := flat_take pss (k + 1)
    rw [flat_snoc pss k x hx, List.length_append] at hfl
    rw [← HZ.out] at hfl
    clear hx
    conv => arg 2; whnf
    refine wp_region_lit ?_
    refine so_p hF (.bool true) (fun K hK => wp_lss_t rfl (hF.op 0 rfl) (hF.op 1 rfl) (by omega) hK) ?_; clear hF T; intro T hF
    refine wpList_nil ?_
    refine then_normal ?_
    refine wp_seq ?_
    refine wp_cond_true (hF.op 0 rfl) ?_
    refine wp_skip ?_
    refine then_normal ?_
    refine wp_seq ?_
    refine wp_block ?_
    refine wp_seq ?_
    obtain ⟨lb, lo, xa, xc, rfl, hcell, hS1⟩ := pcs_cell hS 1 rfl k x HX.out
    have hS := hS1
    clear hS1
    conv => arg 2; whnf
    refine wp_region_lit ?_
    refine so_p hF (.pointer (some ⟨lb, lo + k, none⟩)) (fun K hK => wp_ixs rfl (hF.op 3 rfl) (hF.op 1 rfl) Try.underlying44 Try.sizeOf22 (by omega) (by omega) (lo + k) (by omega) hK) ?_; clear hF T; intro T hF
    refine so_p hF (.slice xa (x.length) (xc)) (fun K hK => wp_ld rfl (hF.op 0 rfl) Try.underlying22 rfl (hcell) hK) ?_; clear hF T; intro T hF
    refine so_as hF 0 ?_; clear hF T; intro T hF
    refine wpList_nil ?_
    refine then_normal ?_
    conv => arg 2; whnf
    refine wp_region_lit ?_
    refine so_mv hF 7 ?_; clear hF T; intro T hF
    refine so_mv hF 1 ?_; clear hF T; intro T hF
    refine so_step hF rfl (wanted_none rfl _) (by decide) rfl (fun v W' => ∃ aq cq, .slice aq ((zs ++ x).length) cq = v ∧ Sx w [] (List.set [xps (fun b => b < w.heap.size) (.slice xa x.length xc) x, xown w (.slice za zs.length zc) zs, xpcs (fun b => b < w.heap.size) (.slice (some ⟨lb, lo, none⟩) (pss.length) (lc)) pss] 1 (xown w v (zs ++ x))) W') (fun K hK => ?_) ?_
    next =>
     refine wp_app hS 1 (.tmp 31) (.tmp 32) rfl (hF.op 1 rfl) (hF.op 0 rfl) rfl (PieceV.src (hS.ps 0 rfl)) (by first | omega | (simp; omega)) (fun v' W' hS' => ?_)
     obtain ⟨a, c, e⟩ := (hS'.own 1 rfl).shape
     exact hK.out _ _ ⟨a, c, e.symm, hS'⟩
    clear hF hS
    clear T
    rintro v T W1 ⟨a33, c33, rfl, hS⟩ hF
    try clear W
    obtain ⟨W, rfl⟩ : ∃ x, x = W1 := ⟨_, rfl⟩
    replace hS : Sx w [] [xps (fun b => b < w.heap.size) (.slice xa x.length xc) x, xown w (.slice a33 ((zs ++ x).length) c33) (zs ++ x), xpcs (fun b => b < w.heap.size) (.slice (some ⟨lb, lo, none⟩) (pss.length) (lc)) pss] W := hS
    replace hF : Fr 36 ⟨T, []⟩ [(33, .slice a33 ((zs ++ x).length) (c33)), (27, .int .i64 ((k : Int))), (26, .int .i64 ((pss.length : Nat))), (25, .slice (some ⟨lb, lo, none⟩) (pss.length) (lc))] := hF.pick [0, 7, 8, 9]
    refine so_as hF 0 ?_; clear hF T; intro T hF
    refine wpList_nil ?_
    refine block_normal ?_
    refine then_normal ?_
    conv => arg 2; whnf
    refine wp_region_lit ?_
    refine so_p hF (.int .i64 ((k + 1 : Nat) : Int)) (fun K hK => wp_add rfl (hF.op 2 rfl) rfl (((k + 1 : Nat) : Int)) (by rw [IntKind.wrap_i64]; omega) hK) ?_; clear hF T; intro T hF
    replace hF : Fr 36 ⟨T, []⟩ [(34, .int .i64 ((k + 1 : Nat) : Int)), (6, .slice a33 ((zs ++ x).length) (c33)), (26, .int .i64 ((pss.length : Nat))), (25, .slice (some ⟨lb, lo, none⟩) (pss.length) (lc))] := hF.pick [0, 1, 4, 5]
    refine so_mv hF 0 ?_; clear hF T; intro T hF
    refine wpList_nil ?_
    refine then_normal ?_
    exact ⟨n - 1, by omega, T, k + 1, _, _, _, rfl, (hF.pick [0, 3, 4, 2]), (hS.pick [] [1, 2] rfl rfl), by omega, by rw [flat_snoc pss k x HX.out, HZ.out]⟩
   next =>
    obtain rfl : k = pss.length := by omega
    rw [List.take_length] at HZ
    conv => arg 2; whnf
    refine wp_region_lit ?_
    refine so_p hF (.bool false) (fun K hK => wp_lss_f rfl (hF.op 0 rfl) (hF.op 1 rfl) (by omega) hK) ?_; clear hF T; intro T hF
    refine wpList_nil ?_
    refine then_normal ?_
    refine wp_seq ?_
    refine wp_cond_false (hF.op 0 rfl) ?_
    refine wp_exit ?_
    refine then_exit ?_
    refine then_exit ?_
    refine block_exit ?_
    refine then_normal ?_
    refine wp_seq ?_
    conv => arg 2; whnf
    refine wp_region_lit ?_
    refine so_mv hF 4 ?_; clear hF T; intro T hF
    refine so_as hF 0 ?_; clear hF T; intro T hF
    refine wpList_nil ?_
    refine then_normal ?_
    refine wp_ret ?_
    refine bodyPost_ret (v := .slice za (zs.length) (zc)) (results_t1 Try.results17 (hF.ev 0 rfl)) rfl ?_
    rw [← HZ.out]
    exact ⟨_, rfl, hS.padr 0 rfl⟩
end Go.Proofs.Ytbjcigokimieoaa
namespace Go.Proofs.Ytbjcigokimieoaa
open Go.RowKit
/-- A deed. -/
structure Dd where
  kd : Int
  nm : ByteArray
  vl : ByteArray
  rd : ByteArray
  cm : List Nat
@[reducible] def dcells (d : Dd) : Array Value := #[.int .i64 d.kd, .string d.nm, .string d.vl, .string d.rd, .int .u8 ((nth d.cm 0 : Nat) : Int), .int .u8 ((nth d.cm 1 : Nat) : Int), .int .u8 ((nth d.cm 2 : Nat) : Int), .int .u8 ((nth d.cm 3 : Nat) : Int), .int .u8 ((nth d.cm 4 : Nat) : Int), .int .u8 ((nth d.cm 5 : Nat) : Int), .int .u8 ((nth d.cm 6 : Nat) : Int), .int .u8 ((nth d.cm 7 : Nat) : Int), .int .u8 ((nth d.cm 8 : Nat) : Int), .int .u8 ((nth d.cm 9 : Nat) : Int), .int .u8 ((nth d.cm 10 : Nat) : Int), .int .u8 ((nth d.cm 11 : Nat) : Int), .int .u8 ((nth d.cm 12 : Nat) : Int), .int .u8 ((nth d.cm 13 : Nat) : Int), .int .u8 ((nth d.cm 14 : Nat) : Int), .int .u8 ((nth d.cm 15 : Nat) : Int), .int .u8 ((nth d.cm 16 : Nat) : Int), .int .u8 ((nth d.cm 17 : Nat) : Int), .int .u8 ((nth d.cm 18 : Nat) : Int), .int .u8 ((nth d.cm 19 : Nat) : Int)]
theorem cm_part (l : List Nat) (h : l.length = 20) : (wcells .u8 l).toList = ((dcells ⟨0, .empty, .empty, .empty, l⟩).toList.drop 4).take 20 := by
  match l, h with
  | [_, _, _, _, _, _, _, _, _, _, _, _, _, _, _, _, _, _, _, _], _ => rfl
theorem cm_part' (d : Dd) (h : d.cm.length = 20) : ((dcells d).toList.drop 4).take 20 = (wcells .u8 d.cm).toList := by rw [cm_part d.cm h]; rfl
theorem dcells_one (d : Dd) : (dcells d).all (·.oneCell') = true := by simp [Value.oneCell']
def noCm : List Nat := List.replicate 20 0
/-- The deed that tells nothing. -/
def noDd : Dd := ⟨0, .empty, .empty, .empty, noCm⟩
theorem run_eql_array_d {P : Program} (w : World) (d : Nat) {t e : TypeId} {n : Nat} {k : IntKind} {i : TypeInfo} (hu : P.underlying t = some (.array n e)) (he : P.underlying e = some (.int k)) (hi : P.info? e = some i) (hc : P.cellsOf e = 1)
    (f g : Nat → Int) (xs ys : Array Value) (hx : ∀ j, j < n → xs[j]? = some (.int k (f j))) (hy : ∀ j, j < n → ys[j]? = some (.int k (g j))) :
    (Op.equalIn (d + 2) t (.agg xs) (.agg ys)).run P w = .ok (alike n f g) w := by
  rw [run_equalIn_array w (d + 1) xs ys hu hi, hc]
  exact run_eqItems_ints w d he f g xs ys _ (fun j hj => hx j (by simpa using hj)) (fun j hj => hy j (by simpa using hj))
theorem eql_short_d (d : Nat) (a b : List Nat) (ha : a.length = 20) (hb : b.length = 20) (w : World) : (Op.equalIn (d + 2) 27 (.agg (wcells .u8 a)) (.agg (wcells .u8 b))).run Try.prog w = .ok (heq a b) w := by
  obtain ⟨i, hi⟩ := Option.isSome_iff_exists.1 u8_info
  have := run_eql_array_d w d Try.underlying27 Try.underlying5 hi u8_cells (fun i => ((nth a i : Nat) : Int)) (fun i => ((nth b i : Nat) : Int)) _ _ (fun j hj => wcells_get .u8 a j (by omega)) (fun j hj => wcells_get .u8 b j (by omega))
  rw [alike_lists 20 a b ha hb] at this
  exact this
theorem deed_guard : Try.prog.eqGuardType Try.prog.depth 29 = false := by kernel_rfl
theorem deed_stood : Try.prog.stoodInHeld 29 = false := by kernel_rfl
theorem part_cell (w : World) (t : TypeId) (xs : Array Value) (o : Nat) (v : Value) (ht : (isAgg t).run Try.prog w = .ok false w) (hv : xs[o]? = some v) : (part t xs o).run Try.prog w = .ok v w := by
  unfold part
  obtain ⟨h1, h2⟩ := Array.getElem?_eq_some_iff.1 hv
  simp [Sem.run_bind, ht, h1, h2]
theorem agg_no {t : TypeId} {d : TypeDesc} (h : Try.prog.underlying t = some d) (hd : (match d with | .struct _ | .array _ _ => false | _ => true) = true) (w : World) : (isAgg t).run Try.prog w = .ok false w := by
  unfold isAgg
  rw [Sem.run_bind, run_underlying h w]
  cases d <;> simp at hd ⊢
theorem part_short (w : World) (xs : Array Value) (o : Nat) (l : List Nat) (hl : l.length = 20) (hx : (xs.toList.drop o).take 20 = (wcells .u8 l).toList) : (part 27 xs o).run Try.prog w = .ok (.agg (wcells .u8 l)) w := by
  have ha : (isAgg 27).run Try.prog w = .ok true w := by
    unfold isAgg; rw [Sem.run_bind, run_underlying Try.underlying27 w]; rfl
  have hs : (Go.sizeOf 27).run Try.prog w = .ok 20 w := Try.sizeOf27 w
  have e : xs.extract o (o + 20) = wcells .u8 l := by
    apply Array.toList_inj.1
    rw [Array.toList_extract, ← hx]
    simp [List.extract]
  unfold part
  simp [ha, hs, e]
theorem deed_fields : ∃ f0 f1 f2 f3 f4 : Field, (Try.prog.fieldsOf 29).toList = [f0, f1, f2, f3, f4] ∧ (f0.name ≠ "_" ∧ f0.type = 3 ∧ f0.offset = 0) ∧ (f1.name ≠ "_" ∧ f1.type = 9 ∧ f1.offset = 1) ∧ (f2.name ≠ "_" ∧ f2.type = 9 ∧ f2.offset = 2) ∧ (f3.name ≠ "_" ∧ f3.type = 9 ∧ f3.offset = 3) ∧ (f4.name ≠ "_" ∧ f4.type = 27 ∧ f4.offset = 4) :=
  ⟨_, _, _, _, _, rfl, ⟨by decide, rfl, rfl⟩, ⟨by decide, rfl, rfl⟩, ⟨by decide, rfl, rfl⟩, ⟨by decide, rfl, rfl⟩, ⟨by decide, rfl, rfl⟩⟩
theorem eqFields_cons {P : Program} (d : Nat) (xs ys : Array Value) (f : Field) (fs : List Field) (w : World) (hn : f.name ≠ "_") {a b : Value} {r q : Bool} (ha : (part f.type xs f.offset).run P w = .ok a w) (hb : (part f.type ys f.offset).run P w = .ok b w) (hr : (Op.equalIn d f.type a b).run P w = .ok r w) (hq : (Op.eqFields d xs ys fs).run P w = .ok q w) :
    (Op.eqFields d xs ys (f :: fs)).run P w = .ok (r && q) w := by
  simp only [Op.eqFields, hn, ne_eq, not_false_eq_true, if_true, Sem.run_bind, ha, hb, hr, Result.andThen_ok]
  cases r <;> simp [hq]
theorem eql_deed_raw (a b : Dd) (ha : a.cm.length = 20) (hb : b.cm.length = 20) (w : World) : (Op.equalIn 10000 29 (.agg (dcells a)) (.agg (dcells b))).run Try.prog w = .ok ((a.kd == b.kd) && ((a.nm.toList == b.nm.toList) && ((a.vl.toList == b.vl.toList) && ((a.rd.toList == b.rd.toList) && (heq a.cm b.cm && true))))) w := by
  rw [run_equalIn_struct w 9999 29 (dcells a) (dcells b) Try.underlying29 deed_stood]
  obtain ⟨f0, f1, f2, f3, f4, hfs, ⟨n0, t0, o0⟩, ⟨n1, t1, o1⟩, ⟨n2, t2, o2⟩, ⟨n3, t3, o3⟩, ⟨n4, t4, o4⟩⟩ := deed_fields
  rw [hfs]
  have i := agg_no Try.underlying3 rfl
  have s := agg_no Try.underlying9 rfl
  refine eqFields_cons _ _ _ _ _ w n0 (a := .int .i64 a.kd) (b := .int .i64 b.kd) (by rw [t0, o0]; exact part_cell w _ _ _ _ (i w) rfl) (by rw [t0, o0]; exact part_cell w _ _ _ _ (i w) rfl) (by rw [t0]; exact run_equalIn_int w 9998 _ _ _ _ _ Try.underlying3) ?_
  refine eqFields_cons _ _ _ _ _ w n1 (a := .string a.nm) (b := .string b.nm) (by rw [t1, o1]; exact part_cell w _ _ _ _ (s w) rfl) (by rw [t1, o1]; exact part_cell w _ _ _ _ (s w) rfl) (by rw [t1]; exact run_equalIn_string w 9998 _ _ _ Try.underlying9) ?_
  refine eqFields_cons _ _ _ _ _ w n2 (a := .string a.vl) (b := .string b.vl) (by rw [t2, o2]; exact part_cell w _ _ _ _ (s w) rfl) (by rw [t2, o2]; exact part_cell w _ _ _ _ (s w) rfl) (by rw [t2]; exact run_equalIn_string w 9998 _ _ _ Try.underlying9) ?_
  refine eqFields_cons _ _ _ _ _ w n3 (a := .string a.rd) (b := .string b.rd) (by rw [t3, o3]; exact part_cell w _ _ _ _ (s w) rfl) (by rw [t3, o3]; exact part_cell w _ _ _ _ (s w) rfl) (by rw [t3]; exact run_equalIn_string w 9998 _ _ _ Try.underlying9) ?_
  refine eqFields_cons _ _ _ _ _ w n4 (by rw [t4, o4]; exact part_short w _ _ a.cm ha (cm_part' a ha)) (by rw [t4, o4]; exact part_short w _ _ b.cm hb (cm_part' b hb)) (by rw [t4]; exact eql_short_d 9997 a.cm b.cm ha hb w) ?_
  rfl
theorem toList_inj' {s u : ByteArray} : (s.toList == u.toList) = true ↔ s = u := by
  simp [ByteArray.toList_eq]
  exact ⟨fun h => ByteArray.ext h, fun h => by rw [h]⟩
theorem eql_deed_t (a b : Dd) (ha : a.cm.length = 20) (hb : b.cm.length = 20) (h : a = b) (w : World) : (Op.equalIn 10000 29 (.agg (dcells a)) (.agg (dcells b))).run Try.prog w = .ok true w := by
  subst h
  rw [eql_deed_raw a a ha hb w]
  simp [heq]
theorem eql_deed_f (a b : Dd) (ha : a.cm.length = 20) (hb : b.cm.length = 20) (h : a ≠ b) (w : World) : (Op.equalIn 10000 29 (.agg (dcells a)) (.agg (dcells b))).run Try.prog w = .ok false w := by
  rw [eql_deed_raw a b ha hb w]
  congr 1
  refine Bool.eq_false_iff.2 (fun e => h ?_)
  simp only [Bool.and_eq_true, beq_iff_eq, heq, decide_eq_true_eq] at e
  obtain ⟨e1, e2, e3, e4, e5, -⟩ := e
  obtain ⟨k, n, v, r, c⟩ := a
  obtain ⟨k', n', v', r', c'⟩ := b
  simp only at e1 e2 e3 e4 e5
  obtain rfl := e1
  obtain rfl := toList_inj'.1 (by simpa using e2)
  obtain rfl := toList_inj'.1 (by simpa using e3)
  obtain rfl := toList_inj'.1 (by simpa using e4)
  obtain rfl := e5
  rfl
/-- Does a deed tell a name? -/
def Dd.named (d : Dd) : Prop := d.kd = 2 ∨ d.kd = 3
/-- Can a deed be? -/
def Dd.right (d : Dd) : Prop :=
  (d.kd = 0 ∧ d.nm.size = 0 ∧ d.vl.size = 0 ∧ d.rd.size = 0 ∧ d.cm = noCm) ∨ (d.kd = 1 ∧ d.nm.size = 0 ∧ d.vl.size = 0 ∧ d.rd.size = 0) ∨
    (d.kd = 2 ∧ 1 ≤ d.nm.size ∧ d.nm.size ≤ 64 ∧ 1 ≤ d.rd.size ∧ d.rd.size ≤ 32 ∧ d.vl.size ≤ 200 ∧ d.cm = noCm) ∨ (d.kd = 3 ∧ 1 ≤ d.nm.size ∧ d.nm.size ≤ 64 ∧ d.rd.size = 0 ∧ d.vl.size ≤ 200 ∧ d.cm = noCm)
/-- A deed's words. -/
def Dd.words (d : Dd) : List Nat :=
  if d.kd = 1 then [81] ++ pws [d.cm] ++ [109] else if d.kd = 2 then [82] ++ pws [sb d.nm, sb d.rd, sb d.vl] ++ [109, 109] else if d.kd = 3 then [83] ++ pws [sb d.nm, sb d.vl] ++ [109, 117] else []
/-- Do bytes seem to say something of a name? -/
def Says (b : List Nat) : Prop := b.length ≠ 0 ∧ 81 ≤ nth b 0 ∧ nth b 0 ≤ 83
theorem size0 {s : ByteArray} (h : s.size = 0) : s = .empty := by
  apply ByteArray.ext
  exact Array.eq_empty_of_size_eq_zero h
end Go.Proofs.Ytbjcigokimieoaa
