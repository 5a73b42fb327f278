/-
  Texts Ri, Num, By, Fr, Eq, Dv, St, Fm, Rw, Rr, Sx, Ha, Hb, Hc, Hd, He, Hf, Hr, Hv, Hw of the claim, merged. (Printed by shake.py.)
-/
import Derived.Orders
import Derived.RegionTactic
import Derived.Below
import Derived.WalkKit
import Derived.Handy
import Derived.Lib.Hide
import Derived.Test.YtbjcigokimieoaaRows
import Derived.WalkSpells
import Derived.WalkLawsBesides
import Derived.Laws.Externs
import Derived.BigRegion
import Derived.Shelf.Spec.BitsCarry
import Derived.Shelf.Strconv.Itoa0
import Derived.Shelf.Bits.Mul64
import Derived.Test.YtbjcigokimieoaaProg
import Derived.Lib.BitFns
import Derived.Laws.Bits64b
import Derived.BigQuiet
import Derived.LoopTactic
import Derived.Deep.WholeRow
import Derived.ChangeKeysEq
import Derived.Deep.RegionHeld3
import Derived.Deep.DeepCutAuto
import Derived.Deep.MidRow
import Derived.Deep.LoopGhost
import Derived.LoopN
import Derived.Deep.QuietTactic
import Derived.Laws.Bits64
import Derived.Great.BuildSlice
import Derived.StillTailTactics
import Derived.Deep.AppendSrc
import Derived.Laws.OwnMore
import Derived.Laws.AppendOwn
import Derived.Deep.AppendLies
import Derived.Deep.RegionLaw
import Derived.Deep.CutBlock
import Derived.Great.Walk
import Derived.Lib.ConvBytes
import Derived.Lib.BufferRead
import Derived.Laws.BytesArg
import Derived.Lib.AppendZeros
import Derived.DeepKeys
import Derived.Laws.Cover3
import Derived.ProofKit
import Derived.OpenShut
import Derived.Carry
import Derived.Lib.SmallJoins
import Derived.Laws.IdiomArrays
import Derived.Deep.Matrix
namespace Go.Proofs.Ytbjcigokimieoaa
open Go.RowKit
/-- One operation more. -/
def also (L : Nat → Bool) (i : Nat) : Nat → Bool := fun j => j == i || L j
theorem wp_region_inv {P : Program} {ops : Array Oper} {Q : Exit → Act → World → Prop} {id : Nat} {a : Act} {w : World} (n : Nat) (hn : ops.size = n) (hm : P.follows .mixedOrders = true)
    (hac : ∀ (i : Nat) (o : Oper), ops[i]? = some o → ∀ e ∈ o.after, Region.binds .any e = true → e.on < i) (I : (Nat → Bool) → Act → World → Prop) (h0 : I (fun _ => false) a w.drew)
    (step : ∀ (i : Nat) (o : Oper), ops[i]? = some o → ∀ L a w, I L a w → L i = false → (∀ e ∈ o.after, Region.binds .any e = true → L e.on = true) →
      if Region.wanted o (yielded ops a.tmps) = true then Oper.wp P o a w (I (also L i)) Q else I (also L i) (a.put o.dst undef) w)
    (fin : ∀ L a w, (∀ i, i < n → L i = true) → I L a w → Q .normal a w) : (Code.region id ops true).wp P Q a w := by
  refine wp_region_any hm ?_
  have key : ∀ (fuel : Nat) (listed : Array Bool) (a : Act) (w : World), listed.size = n → (List.range n).countP (fun i => !listed.getD i false) ≤ fuel → I (fun i => listed.getD i false) a w → wpAny P .any ops Q fuel listed a w := by
    have full : ∀ (listed : Array Bool), listed.size = n → Region.ready .any ops listed = [] → ∀ i, i < n → listed.getD i false = true := by
      intro listed hs hr i
      induction i using Nat.strongRecOn with
      | _ i ih =>
        intro hi
        cases hl : listed.getD i false with
        | true => rfl
        | false =>
          have hmem : i ∈ Region.ready .any ops listed := by
            have hsz : i < ops.size := by omega
            refine mem_ready.2 ⟨?_, ops[i], Array.getElem?_eq_getElem hsz, fun e he hbd => ih _ (hac i _ (Array.getElem?_eq_getElem hsz) e he hbd) (by have := hac i _ (Array.getElem?_eq_getElem hsz) e he hbd; omega)⟩
            rw [Array.getD_eq_getD_getElem?] at hl ⊢
            rw [Array.getElem?_eq_getElem (by omega)] at hl ⊢
            exact hl
          rw [hr] at hmem; cases hmem
    intro fuel
    induction fuel with
    | zero =>
      intro listed a w hs hc hI
      have hall : ∀ i, i < n → listed.getD i false = true := by
        intro i hi
        have := List.countP_eq_zero.1 (Nat.le_zero.1 hc) i (List.mem_range.2 hi)
        simpa using this
      refine ⟨?_, fin _ a w hall hI⟩
      refine List.eq_nil_iff_forall_not_mem.2 fun i hi => ?_
      obtain ⟨h1, o, ho, -⟩ := mem_ready.1 hi
      have hlt : i < n := by have := (Array.getElem?_eq_some_iff.1 ho).1; omega
      have := hall i hlt
      rw [Array.getD_eq_getD_getElem?, Array.getElem?_eq_getElem (by omega)] at this h1
      simp at this h1
      rw [this] at h1; cases h1
    | succ fuel ih =>
      intro listed a w hs hc hI
      refine ⟨fun hr => fin _ a w (full listed hs hr) hI, fun i hi => ?_⟩
      obtain ⟨h1, o, ho, hdep⟩ := mem_ready.1 hi
      have hlt : i < n := by have := (Array.getElem?_eq_some_iff.1 ho).1; omega
      refine wpOp_step ho fun K' hK => ?_
      have hf0 : listed.getD i false = false := by
        rw [Array.getD_eq_getD_getElem?, Array.getElem?_eq_getElem (by omega)] at h1 ⊢; exact h1
      have st := step i o ho _ a w hI hf0 hdep
      have hset : (fun j => (listed.setIfInBounds i true).getD j false) = also (fun j => listed.getD j false) i := by
        funext j
        unfold also
        simp only [Array.getD_eq_getD_getElem?, Array.getElem?_setIfInBounds]
        by_cases e : i = j
        · subst e; simp [hs, hlt]
        · simp [e, show ¬ j = i from fun h => e h.symm]
      have hcount : (List.range n).countP (fun j => !(listed.setIfInBounds i true).getD j false) ≤ fuel := by
        have hf : listed.getD i false = false := by
          rw [Array.getD_eq_getD_getElem?, Array.getElem?_eq_getElem (by omega)] at h1 ⊢; exact h1
        have hlt2 : (List.range n).countP (fun j => !(listed.setIfInBounds i true).getD j false) < (List.range n).countP (fun j => !listed.getD j false) := by
          have h3 := congrFun hset
          simp only [h3]
          clear h3 hset
          have : ∀ l : List Nat, i ∈ l → l.countP (fun j => !also (fun j => listed.getD j false) i j) < l.countP (fun j => !listed.getD j false) := by
            intro l
            induction l with
            | nil => intro h; cases h
            | cons x l ihl =>
              intro h
              have hle : l.countP (fun j => !also (fun j => listed.getD j false) i j) ≤ l.countP (fun j => !listed.getD j false) := List.countP_mono_left fun y _ hy => by simp [also] at hy ⊢; exact hy.2
              by_cases e : x = i
              · subst e
                rw [List.countP_cons, List.countP_cons]; simp only [also, beq_self_eq_true, Bool.true_or, hf]; simp only [Bool.not_true, Bool.false_eq_true, if_false, Bool.not_false, if_true]
                exact Nat.lt_succ_of_le hle
              · have hm2 : i ∈ l := by rcases List.mem_cons.1 h with h | h; exact absurd h.symm e; exact h
                have := ihl hm2
                rw [List.countP_cons, List.countP_cons]
                have e2 : (also (fun j => listed.getD j false) i x) = listed.getD x false := by simp [also, e]
                rw [e2]; omega
          exact this _ (List.mem_range.2 hlt)
        omega
      have goK : ∀ a' w', I (also (fun j => listed.getD j false) i) a' w' → K' a' w' := fun a' w' h => hK a' w' (ih _ a' w' (by simpa using hs) hcount (by rw [hset]; exact h))
      split
      · rename_i hw; rw [if_pos hw] at st; exact Oper.wp_mono goK st
      · rename_i hw; rw [if_neg hw] at st; exact goK _ _ st
  refine key _ _ _ _ (by simp [hn]) ?_ ?_
  · rw [hn]; exact Nat.le_trans (List.countP_le_length) (by simp)
  · have : (fun i => (Array.replicate ops.size false).getD i false) = fun _ => false := by
      funext i
      rw [Array.getD_eq_getD_getElem?, Array.getElem?_replicate]; split <;> rfl
    rw [this]; exact h0
/-- Each edge that binds goes back, and nothing is guarded. -/
def plainOps (ops : List Oper) : Bool := (List.range ops.length).all fun i => match ops[i]? with | some o => o.guard.isNone && o.after.all (fun e => !Region.binds .any e || decide (e.on < i)) | none => true
/-- The steps, one for each operation from number i on. -/
def Steps (P : Program) (I : (Nat → Bool) → Act → World → Prop) (Q : Exit → Act → World → Prop) : Nat → List Oper → Prop
  | _, [] => True
  | i, o :: rest => (∀ L a w, I L a w → L i = false → (∀ e ∈ o.after, Region.binds .any e = true → L e.on = true) → Oper.wp P o a w (I (also L i)) Q) ∧ Steps P I Q (i + 1) rest
theorem Steps.at_ {P : Program} {I : (Nat → Bool) → Act → World → Prop} {Q : Exit → Act → World → Prop} : ∀ {l : List Oper} {i : Nat}, Steps P I Q i l → ∀ (j : Nat) (o : Oper), l[j]? = some o →
    ∀ L a w, I L a w → L (i + j) = false → (∀ e ∈ o.after, Region.binds .any e = true → L e.on = true) → Oper.wp P o a w (I (also L (i + j))) Q
  | [], _, _, j, o, h => by simp at h
  | x :: l, i, hs, 0, o, h => by
    simp at h; subst h
    exact hs.1
  | x :: l, i, hs, j + 1, o, h => by
    have := Steps.at_ hs.2 j o (by simpa using h)
    rw [show i + 1 + j = i + (j + 1) by omega] at this
    exact this
theorem wp_region_steps {P : Program} {l : List Oper} {Q : Exit → Act → World → Prop} {id : Nat} {a : Act} {w : World} (hm : P.follows .mixedOrders = true) (hp : plainOps l = true)
    (I : (Nat → Bool) → Act → World → Prop) (h0 : I (fun _ => false) a w.drew) (step : Steps P I Q 0 l)
    (fin : ∀ L a w, (∀ i, i < l.length → L i = true) → I L a w → Q .normal a w) : (Code.region id l.toArray true).wp P Q a w := by
  have look : ∀ (i : Nat) (o : Oper), l.toArray[i]? = some o → o.guard.isNone = true ∧ ∀ e ∈ o.after, Region.binds .any e = true → e.on < i := by
    intro i o ho
    have ho' : l[i]? = some o := by simpa using ho
    have hi : i < l.length := (List.getElem?_eq_some_iff.1 ho').1
    have h1 := List.all_eq_true.1 hp i (List.mem_range.2 hi)
    rw [ho', Bool.and_eq_true] at h1
    refine ⟨h1.1, fun e he hbd => ?_⟩
    have h2 := Array.all_eq_true_iff_forall_mem.1 h1.2 e he
    rw [hbd] at h2
    simpa using h2
  refine wp_region_inv l.length (by simp) hm (fun i o ho => (look i o ho).2) I h0 (fun i o ho L a w hI hf hd => ?_) fin
  have hg : o.guard = none := by have := (look i o ho).1; simpa using this
  rw [if_pos (by simp [Region.wanted, hg])]
  have := step.at_ i o (by simpa using ho) L a w hI (by rw [Nat.zero_add]; exact hf) hd
  rwa [Nat.zero_add] at this
theorem also_of {L : Nat → Bool} {j k : Nat} (hk : k ≠ j) : also L j k = L k := by simp [also, hk]
theorem also_self {L : Nat → Bool} {j : Nat} : also L j j = true := by simp [also]
end Go.Proofs.Ytbjcigokimieoaa
namespace Go.Proofs.Ytbjcigokimieoaa
open Go.RowKit
/-- Limb i of a number. -/
def limb (n i : Nat) : Nat := n / 18446744073709551616 ^ i % 18446744073709551616
theorem heapAt (w : World) (o : Obj) (k : Nat) : (w.alloc o).heap[k]? = if k = w.heap.size then some o else w.heap[k]? := by
  show (w.heap.push o)[k]? = _
  rw [Array.getElem?_push]
/-- One step more. -/
theorem below_step {w W w' : World} (h : Below w.heap.size w W) (hb : Below W.heap.size W w') : Below w.heap.size w w' := h.trans (hb.mono h.size)
/-- A bool. -/
def RetB (w : World) (b : Bool) (e : Ending) (w' : World) : Prop := e = .returned (.bool b) ∧ Below w.heap.size w w'
end Go.Proofs.Ytbjcigokimieoaa
namespace Go.Proofs.Ytbjcigokimieoaa
open Go.RowKit
/-- Thirty-two bytes, as the model has them: byte i is f i. -/
@[reducible] def cells32 (f : Nat → Int) : Array Value := #[.int .u8 (f 0), .int .u8 (f 1), .int .u8 (f 2), .int .u8 (f 3), .int .u8 (f 4), .int .u8 (f 5), .int .u8 (f 6), .int .u8 (f 7), .int .u8 (f 8), .int .u8 (f 9), .int .u8 (f 10), .int .u8 (f 11), .int .u8 (f 12), .int .u8 (f 13), .int .u8 (f 14), .int .u8 (f 15), .int .u8 (f 16), .int .u8 (f 17), .int .u8 (f 18), .int .u8 (f 19), .int .u8 (f 20), .int .u8 (f 21), .int .u8 (f 22), .int .u8 (f 23), .int .u8 (f 24), .int .u8 (f 25), .int .u8 (f 26), .int .u8 (f 27), .int .u8 (f 28), .int .u8 (f 29), .int .u8 (f 30), .int .u8 (f 31)]
/-- The same, closed to the walk. -/
def row32 (f : Nat → Int) : Array Value := cells32 f
end Go.Proofs.Ytbjcigokimieoaa
namespace Go.Proofs.Ytbjcigokimieoaa
open Go.RowKit
/-- The number of the last k bytes. -/
def beN (f : Nat → Int) : Nat → Nat
  | 0 => 0
  | k + 1 => beN f k + (f (31 - k)).toNat * 256 ^ k
/-- A number's limbs in a row of four cells. -/
@[reducible] def limbs4 (z : Nat) : Array Value := #[.int .u64 (limb z 0 : Nat), .int .u64 (limb z 1 : Nat), .int .u64 (limb z 2 : Nat), .int .u64 (limb z 3 : Nat)]
theorem below_setRow {B : Nat} {a w : World} (h : Below B a w) {g : Nat} (hg : B ≤ g) (c : Array Value) : Below B a (w.setRow g c) :=
  h.trans ⟨rfl, rfl, rfl, by simp, fun k hk => setRow_other w g k c (by omega)⟩
end Go.Proofs.Ytbjcigokimieoaa
namespace Go.Proofs.Ytbjcigokimieoaa
open Go.RowKit
/-- Are two arrays of n numbers the same? -/
def alike (n : Nat) (f g : Nat → Int) : Bool := (List.range n).all fun i => f i == g i
theorem alike_iff (n : Nat) (f g : Nat → Int) : alike n f g = true ↔ ∀ i, i < n → f i = g i := by
  simp [alike]
theorem run_eqItems_ints {P : Program} (w : World) (d : Nat) {e : TypeId} {k : IntKind} (he : P.underlying e = some (.int k)) (f g : Nat → Int) (xs ys : Array Value) (l : List Nat)
    (hx : ∀ j, j ∈ l → xs[j]? = some (.int k (f j))) (hy : ∀ j, j ∈ l → ys[j]? = some (.int k (g j))) :
    (Op.eqItems (d + 1) e 1 xs ys l).run P w = .ok (l.all fun i => f i == g i) w := by
  induction l with
  | nil => simp [Op.eqItems]
  | cons j l ih =>
    have hxj := hx j (by simp)
    have hyj := hy j (by simp)
    obtain ⟨hxs, hxv⟩ := Array.getElem?_eq_some_iff.1 hxj
    obtain ⟨hys, hyv⟩ := Array.getElem?_eq_some_iff.1 hyj
    have hag : (isAgg e).run P w = .ok false w := by
      unfold isAgg; rw [Sem.run_bind, run_underlying he w]; rfl
    have px : (part e xs (j * 1)).run P w = .ok (.int k (f j)) w := by
      unfold part; simp [Sem.run_bind, hag, hxs, hxv]
    have py : (part e ys (j * 1)).run P w = .ok (.int k (g j)) w := by
      unfold part; simp [Sem.run_bind, hag, hys, hyv]
    have pe : (Op.equalIn (d + 1) e (.int k (f j)) (.int k (g j))).run P w = .ok (f j == g j) w := run_equalIn_int w d e k k (f j) (g j) he
    simp only [Op.eqItems, Sem.run_bind, px, py, pe, Result.andThen_ok]
    by_cases h : f j = g j
    · simp [h]
      simpa using ih (fun j hj => hx j (by simp [hj])) (fun j hj => hy j (by simp [hj]))
    · have : (f j == g j) = false := by simpa using h
      simp [this]
theorem run_eql_array {P : Program} (w : World) {t e : TypeId} {n : Nat} {k : IntKind} {i : TypeInfo} (hu : P.underlying t = some (.array n e)) (he : P.underlying e = some (.int k)) (hi : P.info? e = some i) (hc : P.cellsOf e = 1)
    (f g : Nat → Int) (xs ys : Array Value) (hx : ∀ j, j < n → xs[j]? = some (.int k (f j))) (hy : ∀ j, j < n → ys[j]? = some (.int k (g j))) :
    (Op.equalIn 10000 t (.agg xs) (.agg ys)).run P w = .ok (alike n f g) w := by
  rw [run_equalIn_array w 9999 xs ys hu hi, hc]
  exact run_eqItems_ints w 9998 he f g xs ys _ (fun j hj => hx j (by simpa using hj)) (fun j hj => hy j (by simpa using hj))
end Go.Proofs.Ytbjcigokimieoaa
namespace Go.Proofs.Ytbjcigokimieoaa
open Go.RowKit
/-- What a row of four limbs gives the walk. -/
theorem at4 {w : World} {b z : Nat} {t : TypeId} (h : w.heap[b]? = some (.cells (limbs4 z) t (0, 0))) :
    (w.cell? ⟨b, 0, none⟩ = some (.int .u64 (limb z 0 : Nat)) ∧ w.cell? ⟨b, 1, none⟩ = some (.int .u64 (limb z 1 : Nat)) ∧ w.cell? ⟨b, 2, none⟩ = some (.int .u64 (limb z 2 : Nat)) ∧ w.cell? ⟨b, 3, none⟩ = some (.int .u64 (limb z 3 : Nat))) ∧
    (w.frozen? ⟨b, 0, none⟩ = false ∧ w.frozen? ⟨b, 1, none⟩ = false ∧ w.frozen? ⟨b, 2, none⟩ = false ∧ w.frozen? ⟨b, 3, none⟩ = false) :=
  ⟨⟨(cell_of_row _ _ _ _ _ _ h).trans rfl, (cell_of_row _ _ _ _ _ _ h).trans rfl, (cell_of_row _ _ _ _ _ _ h).trans rfl, (cell_of_row _ _ _ _ _ _ h).trans rfl⟩,
   frozen_of_row _ _ _ _ _ h, frozen_of_row _ _ _ _ _ h, frozen_of_row _ _ _ _ _ h, frozen_of_row _ _ _ _ _ h⟩
end Go.Proofs.Ytbjcigokimieoaa
namespace Go.Proofs.Ytbjcigokimieoaa
open Go.RowKit
/-- W is w with new blocks; each row of the list lies there. -/
structure St (w : World) (L : List (Nat × Obj)) (W : World) : Prop where
  below : Below w.heap.size w W
  rows : ∀ p, p ∈ L → W.heap[p.1]? = some p.2
theorem St.nil (w : World) : St w [] w := ⟨Below.refl _ _, fun _ h => by cases h⟩
theorem St.get {w W : World} {L : List (Nat × Obj)} (h : St w L W) {b : Nat} {o : Obj} (hm : (b, o) ∈ L) : W.heap[b]? = some o := h.rows _ hm
theorem St.keep {w W W' : World} {L : List (Nat × Obj)} (h : St w L W) (hb : Below W.heap.size W W') : St w L W' :=
  ⟨below_step h.below hb, fun p hp => (hb.block _ (lt_of_block (h.rows p hp))).trans (h.rows p hp)⟩
theorem St.alloc {w W : World} {L : List (Nat × Obj)} (h : St w L W) (o : Obj) (n : Nat) (hn : W.heap.size = n) : St w ((n, o) :: L) (W.alloc o) := by
  refine ⟨h.below.alloc h.below.size o, fun p hp => ?_⟩
  rcases List.mem_cons.1 hp with rfl | hp
  · rw [heapAt, if_pos hn.symm]
  · have := lt_of_block (h.rows p hp)
    rw [heapAt, if_neg (by omega)]
    exact h.rows p hp
theorem St.drew {w W : World} {L : List (Nat × Obj)} (h : St w L W) : St w L W.drew := ⟨h.below.drew, h.rows⟩
theorem St.drop {w W : World} {L L' : List (Nat × Obj)} (h : St w L W) (hs : ∀ p, p ∈ L' → p ∈ L) : St w L' W := ⟨h.below, fun p hp => h.rows p (hs p hp)⟩
theorem St.alloc0 {w W : World} {L : List (Nat × Obj)} (h : St w L W) (o : Obj) : St w L (W.alloc o) := (h.alloc o _ rfl).drop (fun _ hp => List.mem_cons_of_mem _ hp)
theorem St.cons {w W : World} {L : List (Nat × Obj)} (h : St w L W) {g : Nat} {o : Obj} (hg : W.heap[g]? = some o) : St w ((g, o) :: L) W :=
  ⟨h.below, fun p hp => by
    rcases List.mem_cons.1 hp with rfl | hp
    · exact hg
    · exact h.rows p hp⟩
theorem keepH {W W' : World} (hb : Below W.heap.size W W') {b : Nat} {o : Obj} (h : W.heap[b]? = some o) : W'.heap[b]? = some o := (hb.block _ (lt_of_block h)).trans h
theorem lastH (W : World) (o : Obj) (n : Nat) (h : W.heap.size = n) : (W.alloc o).heap[n]? = some o := by rw [heapAt, if_pos h.symm]
end Go.Proofs.Ytbjcigokimieoaa
namespace Go.Proofs.Ytbjcigokimieoaa
open Go.RowKit
/-- A block of a function's code, by its number. -/
def blk (n : Nat) : Code → Option Code
  | .block i c => if i = n then some (.block i c) else blk n c
  | .seq a b => match blk n a with
    | some c => some c
    | none => blk n b
  | .loop c => blk n c
  | .scope c => blk n c
  | .cond _ a b => match blk n a with
    | some c => some c
    | none => blk n b
  | _ => none
def piece (f : Func) (n : Nat) : Code := (f.body.bind (blk n)).getD .skip
/-- A slot of a frame. -/
def slot (T : Array Value) (i : Nat) : Value := T.getD i undef
theorem frame_lit (T : Array Value) (n : Nat) (h : T.size = n) : T = ((List.range n).map (slot T)).toArray := by
  apply Array.ext
  · simp [h]
  · intro i h1 h2
    simp [slot, Array.getD, h1]
/-- A frame of n slots, of which these are known. -/
structure Fr (n : Nat) (a : Act) (l : List (Nat × Value)) : Prop where
  size : a.tmps.size = n
  defers : a.defers = []
  known : ∀ p, p ∈ l → slot a.tmps p.1 = p.2
theorem Fr.act {n : Nat} {a : Act} {l : List (Nat × Value)} (h : Fr n a l) : a = ⟨((List.range n).map (slot a.tmps)).toArray, []⟩ := by
  obtain ⟨T, d⟩ := a
  have h1 := h.size; have h2 := h.defers
  simp only at h1 h2
  rw [← frame_lit T n h1, h2]
theorem fr_of {n : Nat} {T : Array Value} {l : List (Nat × Value)} (h1 : T.size = n) (h3 : (l.map fun p => T[p.1]?) = l.map fun p => some p.2) : Fr n ⟨T, []⟩ l := ⟨h1, rfl, fun p hp => by
  have h := List.map_inj_left.1 h3 p hp
  simp [slot, Array.getD_eq_getD_getElem?, h]⟩
end Go.Proofs.Ytbjcigokimieoaa
namespace Go.Proofs.Ytbjcigokimieoaa
open Go.RowKit
theorem keepI {L : Nat → Bool} {j k : Nat} {p : Prop} (h : L j = true → p) (hk : (j == k) = false) : also L k j = true → p := fun e => h (by simpa [also, hk] using e)
theorem keepF {L : Nat → Bool} {j k : Nat} {p : Prop} (h : L j = false → p) : also L k j = false → p := fun e => h (by simp [also] at e; exact e.2)
theorem keepD {L : Nat → Bool} {j i k : Nat} (h : L j = true → L i = true) (hk : (j == k) = false) : also L k j = true → also L k i = true := fun e => by
  have := h (by simpa [also, hk] using e)
  simp [also, this]
theorem alsoD {L : Nat → Bool} {i k : Nat} (h : L i = true) : also L k i = true := by simp [also, h]
theorem noF {L : Nat → Bool} {s i : Nat} (h : L s = true → L i = true) (hi : L i = false) : L s = false := by
  cases hs : L s with
  | false => rfl
  | true => rw [h hs] at hi; cases hi
theorem alsoF {L : Nat → Bool} {k : Nat} {p : Prop} : also L k k = false → p := fun e => by simp [also] at e
/-- The frame in which the region begins is named. -/
theorem wp_region_frame {P : Program} {l : List Oper} {Q : Exit → Act → World → Prop} {id : Nat} {a : Act} {w : World} (hm : P.follows .mixedOrders = true) (hp : plainOps l = true)
    (I : Array Value → (Nat → Bool) → Act → World → Prop) (h : ∀ T0, T0 = a.tmps → I T0 (fun _ => false) a w.drew ∧ Steps P (I T0) Q 0 l ∧ ∀ L a w, (∀ i, i < l.length → L i = true) → I T0 L a w → Q .normal a w) : (Code.region id l.toArray true).wp P Q a w := by
  obtain ⟨h1, h2, h3⟩ := h _ rfl
  exact wp_region_steps hm hp (I a.tmps) h1 h2 h3
/-- A frame with some slots written. -/
def sets (T : Array Value) : List (Nat × Value) → Array Value
  | [] => T
  | (i, v) :: l => sets (T.setIfInBounds i v) l
theorem sets_self : ∀ (l : List Nat) (T : Array Value), sets T (l.map fun s => (s, T.getD s undef)) = T
  | [], _ => rfl
  | s :: l, T => by
    have e : T.setIfInBounds s (T.getD s undef) = T := by
      by_cases hs : s < T.size
      · apply Array.ext_getElem?
        intro i
        rw [Array.getElem?_setIfInBounds]
        by_cases h : s = i
        · subst h
          rw [if_pos rfl, if_pos hs, Array.getElem?_eq_getElem hs]
          simp [Array.getD, hs]
        · rw [if_neg h]
      · unfold Array.setIfInBounds; rw [dif_neg hs]
    show sets (T.setIfInBounds s (T.getD s undef)) _ = T
    rw [e]; exact sets_self l T
/-- A row that lies in no block of the list's. -/
theorem St.setRow {w W : World} {L : List (Nat × Obj)} (h : St w L W) {g : Nat} (hg : w.heap.size ≤ g) (hL : ∀ p, p ∈ L → p.1 ≠ g) (c : Array Value) : St w L (W.setRow g c) :=
  ⟨below_setRow h.below hg c, fun p hp => (setRow_other W g p.1 c (hL p hp)).trans (h.rows p hp)⟩
/-- A variable of type T that the region makes: where it lies. -/
def Made (W : World) (T : TypeId) (n : Nat) (v : Value) (k : Bool) (z r : Array Value) : Prop := ∃ g, v = .pointer (some ⟨g, 0, none⟩) ∧ n ≤ g ∧ W.heap[g]? = some (.cells (if k then r else z) T (0, 0))
theorem Made.keep {W W' : World} {T : TypeId} {n : Nat} {v : Value} {k : Bool} {z r : Array Value} (h : Made W T n v k z r) (hb : Below W.heap.size W W') : Made W' T n v k z r := by
  obtain ⟨g, h1, h2, h3⟩ := h
  exact ⟨g, h1, h2, keepH hb h3⟩
theorem Made.alloc {W : World} {T : TypeId} {n : Nat} {v : Value} {k : Bool} {z r : Array Value} (h : Made W T n v k z r) (o : Obj) : Made (W.alloc o) T n v k z r := h.keep ((Below.refl _ _).alloc (Nat.le_refl _) _)
theorem Made.new (W : World) (T : TypeId) (n : Nat) (hn : n ≤ W.heap.size) (z r : Array Value) : Made (W.alloc (.cells z T)) T n (.pointer (some ⟨W.heap.size, 0, none⟩)) false z r :=
  ⟨_, rfl, hn, lastH _ _ _ rfl⟩
theorem Made.new' (W : World) (T : TypeId) (n : Nat) (hn : n ≤ W.heap.size) (z r : Array Value) {k : Bool} (hk : k = false) : Made (W.alloc (.cells z T)) T n (.pointer (some ⟨W.heap.size, 0, none⟩)) k z r := by
  subst hk; exact Made.new W T n hn z r
theorem Made.ne {W : World} {T : TypeId} {n : Nat} {v : Value} {k : Bool} {z r : Array Value} (h : Made W T n v k z r) : v ≠ .pointer (some ⟨W.heap.size, 0, none⟩) := by
  obtain ⟨g, rfl, h2, h3⟩ := h
  have := lt_of_block h3
  intro e
  injection e with e; injection e with e; injection e with e
  omega
theorem Made.other {W : World} {T : TypeId} {n g : Nat} {v : Value} {k : Bool} {z r : Array Value} (h : Made W T n v k z r) (hne : v ≠ .pointer (some ⟨g, 0, none⟩)) (c : Array Value) : Made (W.setRow g c) T n v k z r := by
  obtain ⟨g', rfl, h2, h3⟩ := h
  exact ⟨g', rfl, h2, (setRow_other W g g' c (fun e => hne (by rw [e]))).trans h3⟩
theorem Made.below {W : World} {T : TypeId} {n g : Nat} {v : Value} {k : Bool} {z r : Array Value} (h : Made W T n v k z r) (hg : g < n) (c : Array Value) : Made (W.setRow g c) T n v k z r :=
  h.other (by
    obtain ⟨g', rfl, h2, -⟩ := h
    intro e; injection e with e; injection e with e; injection e with e; omega) c
theorem Made.stored {W : World} {T : TypeId} {n g : Nat} {cs : Array Value} (h : W.heap[g]? = some (.cells cs T (0, 0))) (hn : n ≤ g) (z r : Array Value) : Made (W.setRow g r) T n (.pointer (some ⟨g, 0, none⟩)) true z r :=
  ⟨g, rfl, hn, setRow_heap W g cs _ _ _ h⟩
/-- A row's cells as a range. -/
theorem part_of_row {W : World} {g o : Nat} {cs : Array Value} {t : TypeId} {fr : Nat × Nat} (h : W.heap[g]? = some (.cells cs t fr)) (l : List Value) (hl : (cs.toList.drop o).take l.length = l) : W.rangeAt g o l := fun j v hv => by
  rw [cell_of_row _ _ _ _ _ _ h]
  have hj : j < l.length := (List.getElem?_eq_some_iff.1 hv).1
  rw [← hl, List.getElem?_take, if_pos hj, List.getElem?_drop] at hv
  simpa using hv
end Go.Proofs.Ytbjcigokimieoaa
namespace Go.Proofs.Ytbjcigokimieoaa
open Go.RowKit
/-- What stays when new blocks are made. -/
def Stable (p : Value → World → Prop) : Prop := ∀ v W W', Below W.heap.size W W' → p v W → p v W'
theorem stable_is (x : Value) : Stable (fun v _ => v = x) := fun _ _ _ _ h => h
theorem stable_any : Stable (fun _ _ => True) := fun _ _ _ _ _ => trivial
/-- Edges that bind go back; each slot is written once, and lies in the frame; a guard is behind an edge. -/
def relOps (n : Nat) (ops : List Oper) : Bool :=
  ((List.range ops.length).all fun i => match ops[i]? with
    | some o => o.after.all (fun e => !Region.binds .any e || decide (e.on < i)) && (match o.dst with | some d => decide (d < n) && (List.range i).all (fun j => match ops[j]? with | some o' => o'.dst != some d | none => true) | none => true)
    | none => true)
/-- What holds when a set of operations has been carried out. -/
structure RelInv (ops : List Oper) (T0 : Array Value) (Rs : List (Value → World → Prop)) (J : World → Prop) (L : Nat → Bool) (a : Act) (W : World) : Prop where
  defers : a.defers = []
  size : a.tmps.size = T0.size
  st : J W
  done : ∀ (i : Nat) (o : Oper) (d : Tmp), ops[i]? = some o → L i = true → o.dst = some d → (Rs.getD i (fun _ _ => True)) (slot a.tmps d) W
  rest : ∀ s, (∀ (i : Nat) (o : Oper), ops[i]? = some o → o.dst = some s → L i = false) → slot a.tmps s = slot T0 s
  shut : ∀ (i : Nat) (o : Oper), ops[i]? = some o → L i = true → ∀ e ∈ o.after, Region.binds .any e = true → L e.on = true
/-- What a step of operation i may lean on, and must show. -/
def RelStep (P : Program) (ops : List Oper) (T0 : Array Value) (Rs : List (Value → World → Prop)) (J : World → Prop) (Q : Exit → Act → World → Prop) (i : Nat) (o : Oper) : Prop :=
  ∀ (T : Array Value) (W : World), T.size = T0.size → J W →
    (∀ j d, (∃ e ∈ o.after, Region.binds .any e = true ∧ e.on = j) → (ops[j]?.bind (·.dst)) = some d → (Rs.getD j (fun _ _ => True)) (slot T d) W) →
    (∀ s, (∀ (j : Nat) (o' : Oper), ops[j]? = some o' → o'.dst = some s → i = j ∨ ∃ e ∈ o'.after, Region.binds .any e = true ∧ e.on = i) → slot T s = slot T0 s) →
    ∀ K : Act → World → Prop, (∀ v W', (Rs.getD i (fun _ _ => True)) v W' → J W' → Below W.heap.size W W' → K ((⟨T, []⟩ : Act).put o.dst v) W') →
      if Region.wanted o (yielded ops.toArray T) = true then Oper.wp P o ⟨T, []⟩ W K Q else K ((⟨T, []⟩ : Act).put o.dst undef) W
def RelSteps (P : Program) (ops : List Oper) (T0 : Array Value) (Rs : List (Value → World → Prop)) (J : World → Prop) (Q : Exit → Act → World → Prop) : Nat → List Oper → Prop
  | _, [] => True
  | i, o :: rest => RelStep P ops T0 Rs J Q i o ∧ RelSteps P ops T0 Rs J Q (i + 1) rest
theorem RelSteps.at_ {P : Program} {ops : List Oper} {T0 : Array Value} {Rs : List (Value → World → Prop)} {J : World → Prop} {Q : Exit → Act → World → Prop} : ∀ {l : List Oper} {i : Nat}, RelSteps P ops T0 Rs J Q i l → ∀ (j : Nat) (o : Oper), l[j]? = some o → RelStep P ops T0 Rs J Q (i + j) o
  | [], _, _, j, o, h => by simp at h
  | x :: l, i, hs, 0, o, h => by simp at h; subst h; exact hs.1
  | x :: l, i, hs, j + 1, o, h => by
    have := RelSteps.at_ hs.2 j o (by simpa using h)
    rwa [show i + 1 + j = i + (j + 1) by omega] at this
theorem slot_put_same (T : Array Value) (d : Nat) (v : Value) (h : d < T.size) : slot ((⟨T, []⟩ : Act).put (some d) v).tmps d = v := by
  simp [slot, Act.put, h, Array.getD]
theorem slot_put_other (T : Array Value) (x : Option Tmp) (s : Nat) (v : Value) (h : x ≠ some s) : slot ((⟨T, []⟩ : Act).put x v).tmps s = slot T s := by
  cases x with
  | none => rfl
  | some d =>
    have hd : d ≠ s := fun e => h (by rw [e])
    simp only [slot, Act.put, Array.getD_eq_getD_getElem?, Array.getElem?_setIfInBounds, if_neg hd]
theorem put_size (T : Array Value) (x : Option Tmp) (v : Value) : ((⟨T, []⟩ : Act).put x v).tmps.size = T.size := by
  cases x <;> simp [Act.put]
theorem put_defers (T : Array Value) (x : Option Tmp) (v : Value) : ((⟨T, []⟩ : Act).put x v).defers = [] := by
  cases x <;> rfl
theorem slot_set (T : Array Value) (d s : Nat) (v : Value) (h : d < T.size) : slot (T.setIfInBounds d v) s = if d = s then v else slot T s := by
  simp only [slot, Array.getD_eq_getD_getElem?, Array.getElem?_setIfInBounds]
  by_cases e : d = s
  · subst e; simp [h]
  · simp [e]
/-- Is a guarded operation wanted? -/
theorem wanted_by {ops : List Oper} {T : Array Value} {o oj : Oper} {j d : Nat} {b c : Bool} (hg : o.guard = some (j, b)) (ho : ops[j]? = some oj) (hd : oj.dst = some d) (hlt : d < T.size) (hv : slot T d = .bool c) : Region.wanted o (yielded ops.toArray T) = (c == b) := by
  have h1 : T[d]? = some (.bool c) := by
    rw [Array.getElem?_eq_getElem hlt]
    simp [slot, Array.getD, hlt] at hv
    rw [hv]
  simp only [Region.wanted, hg, yielded, List.getElem?_toArray, ho, Option.bind_some, hd, h1]
  cases c <;> cases b <;> rfl
/-- A slot that no operation has written yet. -/
def lateB (ops : List Oper) (i s : Nat) : Bool := (List.range ops.length).all fun j => match ops[j]? with
  | some o => o.dst != some s || i == j || o.after.any (fun e => Region.binds .any e && e.on == i)
  | none => true
theorem late {ops : List Oper} {i s : Nat} (h : lateB ops i s = true) : ∀ (j : Nat) (o' : Oper), ops[j]? = some o' → o'.dst = some s → i = j ∨ ∃ e ∈ o'.after, Region.binds .any e = true ∧ e.on = i := fun j o' ho hd => by
  have h1 := List.all_eq_true.1 h j (List.mem_range.2 (List.getElem?_eq_some_iff.1 ho).1)
  rw [ho] at h1
  simp only [hd, bne_self_eq_false, Bool.false_or, Bool.or_eq_true, beq_iff_eq] at h1
  rcases h1 with h1 | h1
  · exact Or.inl h1
  · obtain ⟨k, hk, h2⟩ := Array.any_eq_true.1 h1
    simp only [Bool.and_eq_true, beq_iff_eq] at h2
    exact Or.inr ⟨_, Array.getElem_mem hk, h2.1, h2.2⟩
theorem slot_get (T : Array Value) (i : Nat) : slot T i = T[i]?.getD undef := by simp [slot, Array.getD_eq_getD_getElem?]
theorem all_nil : ∀ p, p ∈ ([] : List (Value → World → Prop)) → Stable p := fun _ h => by cases h
theorem all_cons {p : Value → World → Prop} {l : List (Value → World → Prop)} (h : Stable p) (hl : ∀ q, q ∈ l → Stable q) : ∀ q, q ∈ p :: l → Stable q := fun q hq => by
  rcases List.mem_cons.1 hq with rfl | hq
  · exact h
  · exact hl q hq
theorem wanted_none {o : Oper} (h : o.guard = none) (y : Nat → Option Bool) : Region.wanted o y = true := by simp [Region.wanted, h]
theorem eval_slot (T : Array Value) (k : Nat) : (⟨T, []⟩ : Act).eval (.tmp k) = slot T k := rfl
end Go.Proofs.Ytbjcigokimieoaa
namespace Go.Proofs.Ytbjcigokimieoaa
open Go.RowKit
/-- A region of a function's code, by its number. -/
def rgo (n : Nat) : Code → Option Code
  | .region i ops d => if i = n then some (.region i ops d) else none
  | .seq a b => match rgo n a with
    | some c => some c
    | none => rgo n b
  | .block _ c => rgo n c
  | .loop c => rgo n c
  | .scope c => rgo n c
  | .cond _ a b => match rgo n a with
    | some c => some c
    | none => rgo n b
  | _ => none
noncomputable def rgn (f : Func) (n : Nat) : Code := (f.body.bind (rgo n)).getD .skip
theorem Fr.ev {N : Nat} {T : Array Value} {l : List (Nat × Value)} (h : Fr N ⟨T, []⟩ l) (i : Nat) {k : Nat} {v : Value} (hi : l[i]? = some (k, v)) : T[k]?.getD undef = v := by
  have := h.known (k, v) (List.mem_of_getElem? hi)
  rwa [slot_get] at this
theorem Fr.op {N : Nat} {T : Array Value} {l : List (Nat × Value)} (h : Fr N ⟨T, []⟩ l) (i : Nat) {k : Nat} {v : Value} (hi : l[i]? = some (k, v)) : (⟨T, []⟩ : Act).eval (.tmp k) = v := h.known (k, v) (List.mem_of_getElem? hi)
theorem Fr.put {N : Nat} {T : Array Value} {l : List (Nat × Value)} (h : Fr N ⟨T, []⟩ l) (d : Nat) (v : Value) (hd : d < N) (hl : (l.all fun p => p.1 != d) = true) : Fr N ⟨T.setIfInBounds d v, []⟩ ((d, v) :: l) :=
  ⟨by simpa using h.size, rfl, fun p hp => by
    rcases List.mem_cons.1 hp with rfl | hp
    · show slot (T.setIfInBounds d v) d = v
      rw [slot_set _ _ _ _ (by have := h.size; simp only at this; omega), if_pos rfl]
    · have h1 := List.all_eq_true.1 hl p hp
      show slot (T.setIfInBounds d v) p.1 = p.2
      rw [slot_set _ _ _ _ (by have := h.size; simp only at this; omega), if_neg (by simpa using Ne.symm (bne_iff_ne.1 h1))]
      exact h.known p hp⟩
theorem Fr.pick {N : Nat} {a : Act} {l : List (Nat × Value)} (h : Fr N a l) (is : List Nat) : Fr N a (is.filterMap fun i => l[i]?) :=
  ⟨h.size, h.defers, fun p hp => by
    obtain ⟨i, -, hi⟩ := List.mem_filterMap.1 hp
    exact h.known p (List.mem_of_getElem? hi)⟩
theorem Fr.nil {N : Nat} {T : Array Value} (h : T.size = N) : Fr N ⟨T, []⟩ [] := ⟨h, rfl, fun _ h => by cases h⟩
theorem Fr.cons {N : Nat} {T : Array Value} {l : List (Nat × Value)} (h : Fr N ⟨T, []⟩ l) {k : Nat} {v : Value} (hs : slot T k = v) : Fr N ⟨T, []⟩ ((k, v) :: l) :=
  ⟨h.size, h.defers, fun p hp => by
    rcases List.mem_cons.1 hp with rfl | hp
    · exact hs
    · exact h.known p hp⟩
theorem Fr.old {N : Nat} {T0 T : Array Value} {l : List (Nat × Value)} (h : Fr N ⟨T0, []⟩ l) (hT : T.size = N) {ds : List Nat} (hs : ∀ s, s ∉ ds → slot T s = slot T0 s) (hl : (l.all fun p => !ds.contains p.1) = true) : Fr N ⟨T, []⟩ l :=
  ⟨hT, rfl, fun p hp => by
    have h1 := List.all_eq_true.1 hl p hp
    exact (hs p.1 (by simpa using h1)).trans (h.known p hp)⟩
/-- Something of a world that hangs on some blocks alone. ex: on these nothing else hangs. -/
structure Xt where
  ex : Bool
  foot : Nat → Prop
  holds : World → Prop
  stays : ∀ W W', (∀ b, foot b → b < W.heap.size → W'.heap[b]? = W.heap[b]?) → W.heap.size ≤ W'.heap.size → holds W → holds W'
/-- W is w with new blocks; these rows lie there; and what else is known of it, which hangs on none of these rows. -/
structure Sx (w : World) (L : List (Nat × Obj)) (X : List Xt) (W : World) : Prop where
  below : Below w.heap.size w W
  rows : ∀ p, p ∈ L → W.heap[p.1]? = some p.2
  apart : L.Pairwise (fun p q => p.1 ≠ q.1)
  ext : ∀ q, q ∈ X → q.holds W
  sep : ∀ p, p ∈ L → ∀ q, q ∈ X → ¬ q.foot p.1
  bound : ∀ q, q ∈ X → ∀ b, q.foot b → b < W.heap.size
  excl : X.Pairwise (fun p q => (p.ex || q.ex) = true → ∀ b, p.foot b → ¬ q.foot b)
theorem Sx.nil (w : World) : Sx w [] [] w := ⟨Below.refl _ _, fun _ h => (by cases h), List.Pairwise.nil, fun _ h => (by cases h), fun _ h => (by cases h), fun _ h => (by cases h), List.Pairwise.nil⟩
theorem Sx.at {w W : World} {L : List (Nat × Obj)} {X : List Xt} (h : Sx w L X W) (i : Nat) {g : Nat} {o : Obj} (hi : L[i]? = some (g, o)) : W.heap[g]? = some o := h.rows _ (List.mem_of_getElem? hi)
theorem Sx.x {w W : World} {L : List (Nat × Obj)} {X : List Xt} (h : Sx w L X W) (i : Nat) {q : Xt} (hi : X[i]? = some q) : q.holds W := h.ext _ (List.mem_of_getElem? hi)
theorem Sx.cell {w W : World} {L : List (Nat × Obj)} {X : List Xt} (h : Sx w L X W) (i : Nat) {g o : Nat} {cs : Array Value} {t : TypeId} {fr : Nat × Nat} {v : Value} (hi : L[i]? = some (g, .cells cs t fr)) (hc : cs[o]? = some v) : W.cell? ⟨g, o, none⟩ = some v := (cell_of_row _ _ _ _ _ _ (h.at i hi)).trans hc
theorem Sx.free {w W : World} {L : List (Nat × Obj)} {X : List Xt} (h : Sx w L X W) (i : Nat) {g : Nat} {cs : Array Value} {t : TypeId} (hi : L[i]? = some (g, .cells cs t (0, 0))) (o : Nat) : W.frozen? ⟨g, o, none⟩ = false := frozen_of_row W g o _ _ (h.at i hi)
theorem Sx.keep {w W W' : World} {L : List (Nat × Obj)} {X : List Xt} (h : Sx w L X W) (hb : Below W.heap.size W W') : Sx w L X W' :=
  ⟨below_step h.below hb, fun p hp => (hb.block _ (lt_of_block (h.rows p hp))).trans (h.rows p hp), h.apart, fun q hq => q.stays W W' (fun b _ hlt => hb.block b hlt) hb.size (h.ext q hq), h.sep, fun q hq b hbq => Nat.lt_of_lt_of_le (h.bound q hq b hbq) hb.size, h.excl⟩
theorem Sx.drew {w W : World} {L : List (Nat × Obj)} {X : List Xt} (h : Sx w L X W) : Sx w L X W.drew := h.keep ((Below.refl _ _).drew)
/-- The rows at these places, in order. -/
def picks {α : Type} (l : List α) (is : List Nat) : List α := is.filterMap fun i => l[i]?
theorem picks_mem {α : Type} {l : List α} {is : List Nat} {x : α} (h : x ∈ picks l is) : x ∈ l := by
  obtain ⟨i, -, hi⟩ := List.mem_filterMap.1 h
  exact List.mem_of_getElem? hi
def incr : List Nat → Bool
  | a :: b :: l => decide (a < b) && incr (b :: l)
  | _ => true
theorem picks_pair {α : Type} {R : α → α → Prop} {l : List α} (h : l.Pairwise R) : ∀ (is : List Nat), incr is = true → (picks l is).Pairwise R ∧ ∀ a, (∀ i, i ∈ is → a < i) → ∀ p, l[a]? = some p → ∀ q, q ∈ picks l is → R p q
  | [], _ => ⟨List.Pairwise.nil, fun _ _ _ _ _ h => by cases h⟩
  | i :: is, hi => by
    have hi2 : incr is = true ∧ ∀ j, j ∈ is → i < j := by
      clear h
      induction is generalizing i with
      | nil => exact ⟨rfl, fun _ h => by cases h⟩
      | cons b is ih =>
        simp only [incr, Bool.and_eq_true, decide_eq_true_eq] at hi
        refine ⟨hi.2, fun j hj => ?_⟩
        rcases List.mem_cons.1 hj with rfl | hj
        · exact hi.1
        · exact Nat.lt_trans hi.1 ((ih b hi.2).2 j hj)
    obtain ⟨h1, h2⟩ := picks_pair h is hi2.1
    have e : picks l (i :: is) = match l[i]? with | some x => x :: picks l is | none => picks l is := by
      unfold picks; rw [List.filterMap_cons]; cases l[i]? <;> rfl
    rw [e]
    cases hx : l[i]? with
    | none => exact ⟨h1, fun a ha p hp q hq => h2 a (fun j hj => ha j (List.mem_cons_of_mem _ hj)) p hp q hq⟩
    | some x =>
      refine ⟨List.Pairwise.cons (fun q hq => h2 i hi2.2 x hx q hq) h1, fun a ha p hp q hq => ?_⟩
      rcases List.mem_cons.1 hq with rfl | hq
      · have hai := ha i (List.mem_cons_self ..)
        obtain ⟨ha1, rfl⟩ := List.getElem?_eq_some_iff.1 hp
        obtain ⟨hi1, rfl⟩ := List.getElem?_eq_some_iff.1 hx
        exact List.pairwise_iff_getElem.1 h a i ha1 hi1 hai
      · exact h2 a (fun j hj => ha j (List.mem_cons_of_mem _ hj)) p hp q hq
/-- Some rows and some facts are let go. -/
theorem Sx.pick {w W : World} {L : List (Nat × Obj)} {X : List Xt} (h : Sx w L X W) (is js : List Nat) (hi : incr is = true) (hj : incr js = true) : Sx w (picks L is) (picks X js) W :=
  ⟨h.below, fun p hp => h.rows p (picks_mem hp), (picks_pair h.apart is hi).1, fun q hq => h.ext q (picks_mem hq), fun p hp q hq => h.sep p (picks_mem hp) q (picks_mem hq), fun q hq => h.bound q (picks_mem hq), (picks_pair h.excl js hj).1⟩
theorem Sx.fresh {w W : World} {L : List (Nat × Obj)} {X : List Xt} (h : Sx w L X W) {g : Nat} (hg : W.heap.size ≤ g) : ∀ p, p ∈ L → g ≠ p.1 := fun p hp => by have := lt_of_block (h.rows p hp); omega
/-- A row that a step has made. -/
theorem Sx.made {w W W' : World} {L : List (Nat × Obj)} {X : List Xt} (h : Sx w L X W) (hb : Below W.heap.size W W') {g : Nat} {o : Obj} (hg : W'.heap[g]? = some o) (hge : W.heap.size ≤ g) : Sx w ((g, o) :: L) X W' :=
  have k := h.keep hb
  ⟨k.below, fun p hp => by
    rcases List.mem_cons.1 hp with rfl | hp
    · exact hg
    · exact k.rows p hp, List.Pairwise.cons (fun p hp => h.fresh hge p hp) k.apart, k.ext, fun p hp q hq => by
    rcases List.mem_cons.1 hp with rfl | hp
    · exact fun hf => Nat.lt_irrefl _ (Nat.lt_of_lt_of_le (h.bound q hq _ hf) hge)
    · exact k.sep p hp q hq, k.bound, k.excl⟩
theorem Sx.alloc {w W : World} {L : List (Nat × Obj)} {X : List Xt} (h : Sx w L X W) (o : Obj) : Sx w ((W.heap.size, o) :: L) X (W.alloc o) :=
  h.made ((Below.refl _ _).alloc (Nat.le_refl _) o) (lastH W o _ rfl) (Nat.le_refl _)
theorem Sx.alloc0 {w W : World} {L : List (Nat × Obj)} {X : List Xt} (h : Sx w L X W) (o : Obj) : Sx w L X (W.alloc o) := h.keep ((Below.refl _ _).alloc (Nat.le_refl _) o)
/-- A fact more. -/
theorem Sx.addX {w W : World} {L : List (Nat × Obj)} {X : List Xt} (h : Sx w L X W) (q : Xt) (hq : q.holds W) (hs : ∀ p, p ∈ L → ¬ q.foot p.1) (hbd : ∀ b, q.foot b → b < W.heap.size) (hx : ∀ r, r ∈ X → (q.ex || r.ex) = true → ∀ b, q.foot b → ¬ r.foot b) : Sx w L (q :: X) W :=
  ⟨h.below, h.rows, h.apart, fun r hr => by
    rcases List.mem_cons.1 hr with rfl | hr
    · exact hq
    · exact h.ext r hr, fun p hp r hr => by
    rcases List.mem_cons.1 hr with rfl | hr
    · exact hs p hp
    · exact h.sep p hp r hr, fun r hr => by
    rcases List.mem_cons.1 hr with rfl | hr
    · exact hbd
    · exact h.bound r hr, List.Pairwise.cons hx h.excl⟩
/-- A fact on blocks that a step has made. -/
theorem Sx.madeX {w W W' : World} {L : List (Nat × Obj)} {X : List Xt} (h : Sx w L X W) (hb : Below W.heap.size W W') (q : Xt) (hq : q.holds W') (hge : ∀ b, q.foot b → W.heap.size ≤ b) (hbd : ∀ b, q.foot b → b < W'.heap.size) : Sx w L (q :: X) W' :=
  (h.keep hb).addX q hq (fun p hp hf => by have h1 := lt_of_block (h.rows p hp); have h2 := hge _ hf; omega) hbd (fun r hr _ b h1 h2 => by have h3 := h.bound r hr b h2; have h4 := hge b h1; omega)
/-- A row is written: block g alone changes. -/
theorem Sx.write {w W W' : World} {L : List (Nat × Obj)} {X : List Xt} (h : Sx w L X W) (i : Nat) {g : Nat} {o : Obj} (hi : L[i]? = some (g, o)) (o' : Obj)
    (hb : Below w.heap.size w W') (hs : W.heap.size ≤ W'.heap.size) (hold : ∀ b, b ≠ g → b < W.heap.size → W'.heap[b]? = W.heap[b]?) (hnew : W'.heap[g]? = some o') : Sx w (L.set i (g, o')) X W' := by
  have hlen : i < L.length := (List.getElem?_eq_some_iff.1 hi).1
  have e2 : L[i] = (g, o) := (List.getElem?_eq_some_iff.1 hi).2
  have hne : ∀ (j : Nat) (p : Nat × Obj), L[j]? = some p → j ≠ i → p.1 ≠ g := by
    intro j p hj hji
    have hjl : j < L.length := (List.getElem?_eq_some_iff.1 hj).1
    have e1 : L[j] = p := (List.getElem?_eq_some_iff.1 hj).2
    rcases Nat.lt_or_gt_of_ne hji with hlt | hgt
    · have := List.pairwise_iff_getElem.1 h.apart j i hjl hlen hlt
      rw [e1, e2] at this; exact this
    · have := List.pairwise_iff_getElem.1 h.apart i j hlen hjl hgt
      rw [e1, e2] at this; exact fun e => this e.symm
  have hmem : ∀ p, p ∈ L.set i (g, o') → p = (g, o') ∨ (p ∈ L ∧ p.1 ≠ g) := by
    intro p hp
    obtain ⟨j, hj⟩ := List.getElem?_of_mem hp
    rw [List.getElem?_set] at hj
    by_cases hij : i = j
    · subst hij
      rw [if_pos rfl, if_pos hlen] at hj
      cases hj; exact Or.inl rfl
    · rw [if_neg hij] at hj
      exact Or.inr ⟨List.mem_of_getElem? hj, hne j p hj (Ne.symm hij)⟩
  have hgm : (g, o) ∈ L := List.mem_of_getElem? hi
  refine ⟨hb, fun p hp => ?_, ?_, fun q hq => q.stays W W' (fun b hb2 hlt => hold b (fun e => h.sep _ hgm q hq (by rw [← e]; exact hb2)) hlt) hs (h.ext q hq), fun p hp q hq => ?_, fun q hq b hbq => Nat.lt_of_lt_of_le (h.bound q hq b hbq) hs, h.excl⟩
  · rcases hmem p hp with rfl | ⟨h1, h2⟩
    · exact hnew
    · exact (hold _ h2 (lt_of_block (h.rows p h1))).trans (h.rows p h1)
  · rw [List.pairwise_iff_getElem]
    intro a b ha hb2 hab
    have hal : a < L.length := by simpa using ha
    have hbl : b < L.length := by simpa using hb2
    have hp := List.pairwise_iff_getElem.1 h.apart a b hal hbl hab
    rw [List.getElem_set, List.getElem_set]
    by_cases e1 : i = a
    · subst e1
      rw [if_pos rfl, if_neg (by omega)]
      rw [e2] at hp; exact hp
    · rw [if_neg e1]
      by_cases e3 : i = b
      · subst e3
        rw [if_pos rfl]; rw [e2] at hp; exact hp
      · rw [if_neg e3]; exact hp
  · rcases hmem p hp with rfl | ⟨h1, h2⟩
    · exact h.sep _ hgm q hq
    · exact h.sep p h1 q hq
theorem Sx.setCell {w W : World} {L : List (Nat × Obj)} {X : List Xt} (h : Sx w L X W) (i : Nat) {g : Nat} {cs : Array Value} {t : TypeId} (hi : L[i]? = some (g, .cells cs t (0, 0))) (hg : w.heap.size ≤ g) (o : Nat) (v : Value) :
    Sx w (L.set i (g, .cells (cs.setIfInBounds o v) t (0, 0))) X (W.setCell ⟨g, o, none⟩ v) :=
  h.write i hi _ (h.below.setCell hg v) (Below.setCell (Below.refl 0 W) (p := ⟨g, o, none⟩) (Nat.zero_le _) v).size (fun b hb _ => heap_setCell_other W ⟨g, o, none⟩ b v hb) (heap_setCell_same W g o cs t v (h.at i hi))
theorem Sx.setRow {w W : World} {L : List (Nat × Obj)} {X : List Xt} (h : Sx w L X W) (i : Nat) {g : Nat} {cs : Array Value} {t : TypeId} (hi : L[i]? = some (g, .cells cs t (0, 0))) (hg : w.heap.size ≤ g) (c : Array Value) :
    Sx w (L.set i (g, .cells c t (0, 0))) X (W.setRow g c) :=
  h.write i hi _ (below_setRow h.below hg c) (by simp [World.setRow]) (fun b hb _ => setRow_other W g b c hb) (setRow_heap W g cs c t (0, 0) (h.at i hi))
/-- A row that is only read. -/
def xrow (g : Nat) (o : Obj) : Xt := ⟨false, fun b => b = g, fun W => W.heap[g]? = some o, fun W W' hk _ h => (hk g rfl (lt_of_block h)).trans h⟩
/-- A fact more on the blocks of another one. -/
theorem Sx.dup {w W : World} {L : List (Nat × Obj)} {X : List Xt} (h : Sx w L X W) (i : Nat) {q : Xt} (hi : X[i]? = some q) (hex : q.ex = false) (q' : Xt) (hex' : q'.ex = false) (hf : ∀ b, q'.foot b → q.foot b) (hq' : q'.holds W) : Sx w L (q' :: X) W := by
  have hlen : i < X.length := (List.getElem?_eq_some_iff.1 hi).1
  have e2 : X[i] = q := (List.getElem?_eq_some_iff.1 hi).2
  have hqm : q ∈ X := List.mem_of_getElem? hi
  refine h.addX q' hq' (fun p hp hb => h.sep p hp q hqm (hf _ hb)) (fun b hb => h.bound q hqm b (hf b hb)) (fun r hr hrx b hb hrb => ?_)
  rw [hex', Bool.false_or] at hrx
  obtain ⟨j, hj⟩ := List.getElem?_of_mem hr
  have hjl : j < X.length := (List.getElem?_eq_some_iff.1 hj).1
  have e1 : X[j] = r := (List.getElem?_eq_some_iff.1 hj).2
  rcases Nat.lt_trichotomy i j with hlt | heq | hgt
  · have := List.pairwise_iff_getElem.1 h.excl i j hlen hjl hlt
    rw [e1, e2] at this; exact this (by rw [hrx]; simp) b (hf b hb) hrb
  · subst heq; rw [e2] at e1; subst e1; rw [hex] at hrx; cases hrx
  · have := List.pairwise_iff_getElem.1 h.excl j i hjl hlen hgt
    rw [e1, e2] at this; exact this (by rw [hrx]; rfl) b hrb (hf b hb)
/-- What hangs on blocks of its own is written. -/
theorem Sx.writeX {w W W' : World} {L : List (Nat × Obj)} {X : List Xt} (h : Sx w L X W) (i : Nat) {q q' : Xt} (hi : X[i]? = some q) (hex : q.ex = true) (hex' : q'.ex = true) (hq' : q'.holds W') (hf : ∀ b, q'.foot b → q.foot b ∨ W.heap.size ≤ b) (hbd' : ∀ b, q'.foot b → b < W'.heap.size)
    (hlow : ∀ b, q.foot b → w.heap.size ≤ b) (hos : W'.os = W.os) (htape : W'.tape = W.tape) (hout : W'.output = W.output) (hs : W.heap.size ≤ W'.heap.size) (hold : ∀ b, b < W.heap.size → ¬ q.foot b → W'.heap[b]? = W.heap[b]?) : Sx w L (X.set i q') W' := by
  have hlen : i < X.length := (List.getElem?_eq_some_iff.1 hi).1
  have e2 : X[i] = q := (List.getElem?_eq_some_iff.1 hi).2
  have hqm : q ∈ X := List.mem_of_getElem? hi
  have hmem : ∀ p, p ∈ X.set i q' → p = q' ∨ (p ∈ X ∧ ∀ b, q.foot b → ¬ p.foot b) := by
    intro p hp
    obtain ⟨j, hj⟩ := List.getElem?_of_mem hp
    rw [List.getElem?_set] at hj
    by_cases hij : i = j
    · subst hij
      rw [if_pos rfl, if_pos hlen] at hj
      cases hj; exact Or.inl rfl
    · rw [if_neg hij] at hj
      have hjl : j < X.length := (List.getElem?_eq_some_iff.1 hj).1
      have e1 : X[j] = p := (List.getElem?_eq_some_iff.1 hj).2
      refine Or.inr ⟨List.mem_of_getElem? hj, fun b hqb hpb => ?_⟩
      rcases Nat.lt_or_gt_of_ne hij with hlt | hgt
      · have := List.pairwise_iff_getElem.1 h.excl i j hlen hjl hlt
        rw [e1, e2] at this; exact this (by rw [hex]; rfl) b hqb hpb
      · have := List.pairwise_iff_getElem.1 h.excl j i hjl hlen hgt
        rw [e1, e2] at this; exact this (by rw [hex]; simp) b hpb hqb
  refine ⟨h.below.trans ⟨hos, htape, hout, hs, fun b hb => hold b (Nat.lt_of_lt_of_le hb h.below.size) (fun e => by have := hlow b e; omega)⟩, fun p hp => ?_, h.apart, fun p hp => ?_, fun p hp r hr => ?_, fun r hr b hb => ?_, ?_⟩
  · exact (hold _ (lt_of_block (h.rows p hp)) (h.sep p hp q hqm)).trans (h.rows p hp)
  · rcases hmem p hp with rfl | ⟨h1, h2⟩
    · exact hq'
    · exact p.stays W W' (fun b hb hlt => hold b hlt (fun e => h2 b e hb)) hs (h.ext p h1)
  · rcases hmem r hr with rfl | ⟨h1, h2⟩
    · intro e
      rcases hf _ e with h3 | h3
      · exact h.sep p hp q hqm h3
      · have := lt_of_block (h.rows p hp); omega
    · exact h.sep p hp r h1
  · rcases hmem r hr with rfl | ⟨h1, h2⟩
    · exact hbd' b hb
    · exact Nat.lt_of_lt_of_le (h.bound r h1 b hb) hs
  · have hnew : ∀ r, r ∈ X → (∀ b, q.foot b → ¬ r.foot b) → ∀ b, q'.foot b → ¬ r.foot b := fun r hr h2 b hb hrb => by
      rcases hf b hb with h3 | h3
      · exact h2 b h3 hrb
      · have := h.bound r hr b hrb; omega
    rw [List.pairwise_iff_getElem]
    intro a b ha hb2 hab
    have hal : a < X.length := by simpa using ha
    have hbl : b < X.length := by simpa using hb2
    have hp := List.pairwise_iff_getElem.1 h.excl a b hal hbl hab
    rw [List.getElem_set, List.getElem_set]
    by_cases e1 : i = a
    · subst e1
      rw [if_pos rfl, if_neg (by omega)]
      rw [e2] at hp
      exact fun _ => hnew _ (List.getElem_mem hbl) (hp (by rw [hex]; rfl))
    · rw [if_neg e1]
      by_cases e3 : i = b
      · subst e3
        rw [if_pos rfl]
        rw [e2] at hp
        exact fun _ c hc hc' => hnew _ (List.getElem_mem hal) (fun c h1 h2 => hp (by rw [hex]; simp) c h2 h1) c hc' hc
      · rw [if_neg e3]; exact hp
section steps
variable {P : Program} {ops : Array Oper} {rest : List Oper} {Q : Exit → Act → World → Prop} {o : Oper} {N : Nat} {T : Array Value} {W : World} {l : List (Nat × Value)}
/-- An operation of a plain region: what it yields and what becomes of the world, by a relation. -/
theorem so_step (hF : Fr N ⟨T, []⟩ l) {d : Nat} (hd : o.dst = some d) (hw : Region.wanted o (yielded ops T) = true) (hdN : d < N) (hl : (l.all fun p => p.1 != d) = true) (R : Value → World → Prop)
    (hop : ∀ K : Act → World → Prop, Hid (∀ v W', R v W' → K ((⟨T, []⟩ : Act).put o.dst v) W') → o.wp P ⟨T, []⟩ W K Q)
    (k : ∀ v T' W', R v W' → Fr N ⟨T', []⟩ ((d, v) :: l) → wpList P ops Q rest ⟨T', []⟩ W') : wpList P ops Q (o :: rest) ⟨T, []⟩ W :=
  wpList_step fun K hK => by
    rw [if_pos hw]
    refine hop K (fun v W' hR => ?_)
    rw [hd]
    exact hK _ _ (k v _ W' hR (hF.put d v hdN hl))
/-- .. that leaves the world as it is. -/
theorem so_pure (hF : Fr N ⟨T, []⟩ l) {d : Nat} (hd : o.dst = some d) (hw : Region.wanted o (yielded ops T) = true) (hdN : d < N) (hl : (l.all fun p => p.1 != d) = true) (v : Value)
    (hop : ∀ K : Act → World → Prop, Hid (K ((⟨T, []⟩ : Act).put o.dst v) W) → o.wp P ⟨T, []⟩ W K Q)
    (k : ∀ T', Fr N ⟨T', []⟩ ((d, v) :: l) → wpList P ops Q rest ⟨T', []⟩ W) : wpList P ops Q (o :: rest) ⟨T, []⟩ W :=
  so_step hF hd hw hdN hl (fun v' W' => v = v' ∧ W = W') (fun K hK => hop K (hK.out _ _ ⟨rfl, rfl⟩)) (fun v' T' W' h hF' => by obtain ⟨rfl, rfl⟩ := h; exact k T' hF')
/-- .. that yields nothing. -/
theorem so_step0 (hd : o.dst = none) (hw : Region.wanted o (yielded ops T) = true) (R : World → Prop)
    (hop : ∀ K : Act → World → Prop, Hid (∀ W', R W' → K ((⟨T, []⟩ : Act).put o.dst undef) W') → o.wp P ⟨T, []⟩ W K Q)
    (k : ∀ W', R W' → wpList P ops Q rest ⟨T, []⟩ W') : wpList P ops Q (o :: rest) ⟨T, []⟩ W :=
  wpList_step fun K hK => by
    rw [if_pos hw]
    refine hop K (fun W' hR => ?_)
    rw [hd]
    exact hK _ _ (k W' hR)
/-- .. that isn't wanted. -/
theorem so_off (hF : Fr N ⟨T, []⟩ l) {d : Nat} (hd : o.dst = some d) (hw : Region.wanted o (yielded ops T) = false) (hdN : d < N) (hl : (l.all fun p => p.1 != d) = true)
    (k : ∀ T', Fr N ⟨T', []⟩ l → wpList P ops Q rest ⟨T', []⟩ W) : wpList P ops Q (o :: rest) ⟨T, []⟩ W :=
  wpList_step fun K hK => by
    rw [if_neg (by rw [hw]; simp), hd]
    refine hK _ _ (k _ ?_)
    have h := hF.put d undef hdN hl
    exact ⟨h.size, h.defers, fun p hp => h.known p (List.mem_cons_of_mem _ hp)⟩
theorem so_offU (hF : Fr N ⟨T, []⟩ l) {d : Nat} (hd : o.dst = some d) (hw : Region.wanted o (yielded ops T) = false) (hdN : d < N) (hl : (l.all fun p => p.1 != d) = true)
    (k : ∀ T', Fr N ⟨T', []⟩ ((d, undef) :: l) → wpList P ops Q rest ⟨T', []⟩ W) : wpList P ops Q (o :: rest) ⟨T, []⟩ W :=
  wpList_step fun K hK => by
    rw [if_neg (by rw [hw]; simp), hd]
    exact hK _ _ (k _ (hF.put d undef hdN hl))
theorem wantedU {l0 : List Oper} {oj : Oper} {j d : Nat} {b : Bool} (hF : Fr N ⟨T, []⟩ l) (hg : o.guard = some (j, b)) (ho : l0[j]? = some oj) (hd : oj.dst = some d) (hdN : d < N) (i : Nat) (hi : l[i]? = some (d, undef)) : Region.wanted o (yielded l0.toArray T) = false := by
  have hlt : d < T.size := by have := hF.size; simp only at this; omega
  have hv : slot T d = undef := hF.known (d, undef) (List.mem_of_getElem? hi)
  have h1 : T[d]? = some undef := by
    rw [Array.getElem?_eq_getElem hlt]
    simp [slot, Array.getD, hlt] at hv
    rw [hv]
  simp only [Region.wanted, hg, yielded, List.getElem?_toArray, ho, Option.bind_some, hd, h1]
  rfl
theorem wantedT {l0 : List Oper} {oj : Oper} {j d : Nat} {b c : Bool} (hF : Fr N ⟨T, []⟩ l) (hg : o.guard = some (j, b)) (ho : l0[j]? = some oj) (hd : oj.dst = some d) (hdN : d < N) (i : Nat) (hi : l[i]? = some (d, .bool c)) : Region.wanted o (yielded l0.toArray T) = (c == b) :=
  wanted_by hg ho hd (by have := hF.size; simp only at this; omega) (hF.known (d, .bool c) (List.mem_of_getElem? hi))
end steps
/-- What holds when a set of operations has been carried out; the world's condition hangs on that set. -/
structure RelInvL (ops : List Oper) (T0 : Array Value) (Rs : List (Value → World → Prop)) (J : (Nat → Bool) → World → Prop) (L : Nat → Bool) (a : Act) (W : World) : Prop where
  defers : a.defers = []
  size : a.tmps.size = T0.size
  st : J L W
  done : ∀ (i : Nat) (o : Oper) (d : Tmp), ops[i]? = some o → L i = true → o.dst = some d → (Rs.getD i (fun _ _ => True)) (slot a.tmps d) W
  rest : ∀ s, (∀ (i : Nat) (o : Oper), ops[i]? = some o → o.dst = some s → L i = false) → slot a.tmps s = slot T0 s
  shut : ∀ (i : Nat) (o : Oper), ops[i]? = some o → L i = true → ∀ e ∈ o.after, Region.binds .any e = true → L e.on = true
/-- What is known of values stays. -/
def Stay (Rs : List (Value → World → Prop)) (W W' : World) : Prop := ∀ p, p ∈ Rs → ∀ v, p v W → p v W'
theorem stayB {Rs : List (Value → World → Prop)} (hst : ∀ p, p ∈ Rs → Stable p) {W W' : World} (hb : Below W.heap.size W W') : Stay Rs W W' := fun p hp v h => hst p hp v W W' hb h
def RelStepL (P : Program) (ops : List Oper) (T0 : Array Value) (Rs : List (Value → World → Prop)) (J : (Nat → Bool) → World → Prop) (Q : Exit → Act → World → Prop) (i : Nat) (o : Oper) : Prop :=
  ∀ (L : Nat → Bool) (T : Array Value) (W : World), T.size = T0.size → J L W → L i = false → (∀ j, (∃ e ∈ o.after, Region.binds .any e = true ∧ e.on = j) → L j = true) →
    (∀ j d, (∃ e ∈ o.after, Region.binds .any e = true ∧ e.on = j) → (ops[j]?.bind (·.dst)) = some d → (Rs.getD j (fun _ _ => True)) (slot T d) W) →
    (∀ s, (∀ (j : Nat) (o' : Oper), ops[j]? = some o' → o'.dst = some s → i = j ∨ ∃ e ∈ o'.after, Region.binds .any e = true ∧ e.on = i) → slot T s = slot T0 s) →
    ∀ K : Act → World → Prop, (∀ v W', (Rs.getD i (fun _ _ => True)) v W' → J (also L i) W' → Stay Rs W W' → K ((⟨T, []⟩ : Act).put o.dst v) W') →
      if Region.wanted o (yielded ops.toArray T) = true then Oper.wp P o ⟨T, []⟩ W K Q else K ((⟨T, []⟩ : Act).put o.dst undef) W
def RelStepsL (P : Program) (ops : List Oper) (T0 : Array Value) (Rs : List (Value → World → Prop)) (J : (Nat → Bool) → World → Prop) (Q : Exit → Act → World → Prop) : Nat → List Oper → Prop
  | _, [] => True
  | i, o :: rest => RelStepL P ops T0 Rs J Q i o ∧ RelStepsL P ops T0 Rs J Q (i + 1) rest
theorem RelStepsL.at_ {P : Program} {ops : List Oper} {T0 : Array Value} {Rs : List (Value → World → Prop)} {J : (Nat → Bool) → World → Prop} {Q : Exit → Act → World → Prop} : ∀ {l : List Oper} {i : Nat}, RelStepsL P ops T0 Rs J Q i l → ∀ (j : Nat) (o : Oper), l[j]? = some o → RelStepL P ops T0 Rs J Q (i + j) o
  | [], _, _, j, o, h => by simp at h
  | x :: l, i, hs, 0, o, h => by simp at h; subst h; exact hs.1
  | x :: l, i, hs, j + 1, o, h => by
    have := RelStepsL.at_ hs.2 j o (by simpa using h)
    rwa [show i + 1 + j = i + (j + 1) by omega] at this
theorem stay_nil {W W' : World} : Stay [] W W' := fun _ h => by cases h
theorem stay_cons {p : Value → World → Prop} {Rs : List (Value → World → Prop)} {W W' : World} (h : ∀ v, p v W → p v W') (hl : Stay Rs W W') : Stay (p :: Rs) W W' := fun q hq v hv => by
  rcases List.mem_cons.1 hq with rfl | hq
  · exact h v hv
  · exact hl q hq v hv
theorem wp_region_relL {P : Program} {l : List Oper} {Q : Exit → Act → World → Prop} {id N : Nat} {T0 : Array Value} {w : World} {F : List (Nat × Value)} (hF : Fr N ⟨T0, []⟩ F) (hm : P.follows .mixedOrders = true) (hp : relOps N l = true)
    (Rs : List (Value → World → Prop)) (J : (Nat → Bool) → World → Prop) (h0 : J (fun _ => false) w.drew) (step : RelStepsL P l T0 Rs J Q 0 l)
    (ds : List Tmp) (hds : l.filterMap (·.dst) = ds)
    (fin : ∀ (T : Array Value) (L : Nat → Bool) W, (∀ i, i < l.length → L i = true) → J L W → T.size = N → (∀ (i : Nat) (o : Oper) (d : Tmp), l[i]? = some o → o.dst = some d → (Rs.getD i (fun _ _ => True)) (slot T d) W) → (∀ s, s ∉ ds → slot T s = slot T0 s) → Q .normal ⟨T, []⟩ W) : (Code.region id l.toArray true).wp P Q ⟨T0, []⟩ w := by
  have hsz : T0.size = N := hF.size
  have look : ∀ (i : Nat) (o : Oper), l[i]? = some o → (∀ e ∈ o.after, Region.binds .any e = true → e.on < i) ∧ (∀ d, o.dst = some d → d < T0.size ∧ ∀ j o', j < i → l[j]? = some o' → o'.dst ≠ some d) := by
    intro i o ho
    have hi : i < l.length := (List.getElem?_eq_some_iff.1 ho).1
    have h1 := List.all_eq_true.1 hp i (List.mem_range.2 hi)
    rw [ho, Bool.and_eq_true] at h1
    refine ⟨fun e he hbd => ?_, fun d hd => ?_⟩
    · have h2 := Array.all_eq_true_iff_forall_mem.1 h1.1 e he
      rw [hbd] at h2
      simpa using h2
    · have h2 := h1.2
      rw [hd] at h2
      simp only [Bool.and_eq_true, decide_eq_true_eq] at h2
      refine ⟨by rw [hsz]; exact h2.1, fun j o' hj ho' => ?_⟩
      have h3 := List.all_eq_true.1 h2.2 j (List.mem_range.2 hj)
      rw [ho'] at h3
      simpa using h3
  have one : ∀ (i j : Nat) (o o' : Oper) (d : Tmp), l[i]? = some o → l[j]? = some o' → o.dst = some d → o'.dst = some d → i = j := by
    intro i j o o' d h1 h2 h3 h4
    rcases Nat.lt_trichotomy i j with h | h | h
    · exact absurd h3 ((look j o' h2).2 d h4 |>.2 i o h h1)
    · exact h
    · exact absurd h4 ((look i o h1).2 d h3 |>.2 j o' h h2)
  refine wp_region_inv l.length (by simp) hm (fun i o ho => (look i o (by simpa using ho)).1) (RelInvL l T0 Rs J) ?_ ?_ ?_
  · exact ⟨rfl, rfl, h0, fun i o d _ h => by simp at h, fun s _ => rfl, fun i o _ h => by simp at h⟩
  · intro i o ho L a W hI hf hd
    have ho' : l[i]? = some o := by simpa using ho
    obtain ⟨T, ds⟩ := a
    obtain rfl : ds = [] := hI.defers
    have hs : T.size = T0.size := hI.size
    have hstep := step.at_ i o ho'
    rw [Nat.zero_add] at hstep
    have next : ∀ v W', (Rs.getD i (fun _ _ => True)) v W' → J (also L i) W' → Stay Rs W W' → RelInvL l T0 Rs J (also L i) ((⟨T, []⟩ : Act).put o.dst v) W' := by
      intro v W' hv hJ hb
      refine ⟨put_defers _ _ _, by rw [put_size]; exact hs, hJ, fun k ok d hk hL hdk => ?_, fun s hno => ?_, fun k ok hk hL e he hbd => ?_⟩
      · by_cases hki : k = i
        · subst hki
          have : ok = o := by rw [ho'] at hk; exact (Option.some.inj hk).symm
          subst this
          rw [hdk, slot_put_same T d v (by rw [hs]; exact ((look k ok ho').2 d hdk).1)]
          exact hv
        · have hL' : L k = true := by simpa [also, hki] using hL
          rw [slot_put_other _ _ _ _ (fun e => hki (one k i ok o d hk ho' hdk e))]
          have hdone := hI.done k ok d hk hL' hdk
          rw [List.getD_eq_getElem?_getD] at hdone ⊢
          cases hr : Rs[k]? with
          | none => simp
          | some p => rw [hr] at hdone; exact hb p (List.mem_of_getElem? hr) _ hdone
      · rw [slot_put_other _ _ _ _ (fun e => by have := hno i o ho' e; simp [also] at this)]
        exact hI.rest s (fun k ok hk hdk => by have := hno k ok hk hdk; simp [also] at this; exact this.2)
      · by_cases hki : k = i
        · subst hki
          have : ok = o := by rw [ho'] at hk; exact (Option.some.inj hk).symm
          subst this
          have := hd e he hbd
          simp [also, this]
        · have hL' : L k = true := by simpa [also, hki] using hL
          have := hI.shut k ok hk hL' e he hbd
          simp [also, this]
    exact hstep L T W hs hI.st hf (fun j hj => by obtain ⟨e, he, hbd, rfl⟩ := hj; exact hd e he hbd) (fun j d hj hdj => by
      obtain ⟨e, he, hbd, rfl⟩ := hj
      cases ho2 : l[e.on]? with
      | none => rw [ho2] at hdj; simp at hdj
      | some oj =>
        rw [ho2] at hdj
        exact hI.done _ oj d ho2 (hd e he hbd) hdj) (fun s hno => hI.rest s (fun j o' hj hdj => by
      rcases hno j o' hj hdj with rfl | ⟨e, he, hbd, hon⟩
      · exact hf
      · cases hL : L j with
        | false => rfl
        | true =>
          have := hI.shut j o' hj hL e he hbd
          rw [hon, hf] at this; cases this)) (RelInvL l T0 Rs J (also L i)) next
  · intro L a W hall hI
    obtain ⟨T, ds'⟩ := a
    obtain rfl : ds' = [] := hI.defers
    refine fin T L W hall hI.st (hI.size.trans hsz) (fun i o d ho hd => hI.done i o d ho (hall i (List.getElem?_eq_some_iff.1 ho).1) hd) (fun s hs => hI.rest s (fun i o ho hd => absurd (by rw [← hds]; exact List.mem_filterMap.2 ⟨o, List.mem_of_getElem? ho, hd⟩) hs))
section ints
variable {P : Program} {o : Oper} {a : Act} {W : World} {K : Act → World → Prop} {Q : Exit → Act → World → Prop} {t ty : TypeId} {x y : Operand} {k k' : IntKind} {m n : Int}
theorem wp_eql (ho : o.op = .binOp .eql t x y ty) (hx : a.eval x = .int k m) (hy : a.eval y = .int k n) (b : Bool) (h : (m = n) ↔ b = true) (hk : Hid (K (a.put o.dst (.bool b)) W)) : o.wp P a W K Q := by
  obtain rfl : b = (decide (m = n)) := by rw [Bool.eq_iff_iff, ← h]; simp
  unfold Oper.wp execOp
  simp [ho, hx, hy, eqGuard, binOp, Op.intCmp]
  exact hk.out
theorem wp_eql_t (ho : o.op = .binOp .eql t x y ty) (hx : a.eval x = .int k m) (hy : a.eval y = .int k n) (h : m = n) (hk : Hid (K (a.put o.dst (.bool true)) W)) : o.wp P a W K Q := wp_eql ho hx hy true ⟨fun _ => rfl, fun _ => h⟩ hk
theorem wp_eql_f (ho : o.op = .binOp .eql t x y ty) (hx : a.eval x = .int k m) (hy : a.eval y = .int k n) (h : ¬ (m = n)) (hk : Hid (K (a.put o.dst (.bool false)) W)) : o.wp P a W K Q := wp_eql ho hx hy false ⟨fun h' => absurd h' h, fun h' => by cases h'⟩ hk
theorem wp_neq (ho : o.op = .binOp .neq t x y ty) (hx : a.eval x = .int k m) (hy : a.eval y = .int k n) (b : Bool) (h : (m ≠ n) ↔ b = true) (hk : Hid (K (a.put o.dst (.bool b)) W)) : o.wp P a W K Q := by
  obtain rfl : b = (!decide (m = n)) := by rw [Bool.eq_iff_iff, ← h]; simp
  unfold Oper.wp execOp
  simp [ho, hx, hy, eqGuard, binOp, Op.intCmp]
  exact hk.out
theorem wp_neq_t (ho : o.op = .binOp .neq t x y ty) (hx : a.eval x = .int k m) (hy : a.eval y = .int k n) (h : m ≠ n) (hk : Hid (K (a.put o.dst (.bool true)) W)) : o.wp P a W K Q := wp_neq ho hx hy true ⟨fun _ => rfl, fun _ => h⟩ hk
theorem wp_neq_f (ho : o.op = .binOp .neq t x y ty) (hx : a.eval x = .int k m) (hy : a.eval y = .int k n) (h : ¬ (m ≠ n)) (hk : Hid (K (a.put o.dst (.bool false)) W)) : o.wp P a W K Q := wp_neq ho hx hy false ⟨fun h' => absurd h' h, fun h' => by cases h'⟩ hk
theorem wp_lss (ho : o.op = .binOp .lss t x y ty) (hx : a.eval x = .int k m) (hy : a.eval y = .int k n) (b : Bool) (h : (m < n) ↔ b = true) (hk : Hid (K (a.put o.dst (.bool b)) W)) : o.wp P a W K Q := by
  obtain rfl : b = (decide (m < n)) := by rw [Bool.eq_iff_iff, ← h]; simp
  unfold Oper.wp execOp
  simp [ho, hx, hy, eqGuard, binOp, Op.intCmp]
  exact hk.out
theorem wp_lss_t (ho : o.op = .binOp .lss t x y ty) (hx : a.eval x = .int k m) (hy : a.eval y = .int k n) (h : m < n) (hk : Hid (K (a.put o.dst (.bool true)) W)) : o.wp P a W K Q := wp_lss ho hx hy true ⟨fun _ => rfl, fun _ => h⟩ hk
theorem wp_lss_f (ho : o.op = .binOp .lss t x y ty) (hx : a.eval x = .int k m) (hy : a.eval y = .int k n) (h : ¬ (m < n)) (hk : Hid (K (a.put o.dst (.bool false)) W)) : o.wp P a W K Q := wp_lss ho hx hy false ⟨fun h' => absurd h' h, fun h' => by cases h'⟩ hk
theorem wp_leq (ho : o.op = .binOp .leq t x y ty) (hx : a.eval x = .int k m) (hy : a.eval y = .int k n) (b : Bool) (h : (m ≤ n) ↔ b = true) (hk : Hid (K (a.put o.dst (.bool b)) W)) : o.wp P a W K Q := by
  obtain rfl : b = (decide (m ≤ n)) := by rw [Bool.eq_iff_iff, ← h]; simp
  unfold Oper.wp execOp
  simp [ho, hx, hy, eqGuard, binOp, Op.intCmp]
  exact hk.out
theorem wp_leq_t (ho : o.op = .binOp .leq t x y ty) (hx : a.eval x = .int k m) (hy : a.eval y = .int k n) (h : m ≤ n) (hk : Hid (K (a.put o.dst (.bool true)) W)) : o.wp P a W K Q := wp_leq ho hx hy true ⟨fun _ => rfl, fun _ => h⟩ hk
theorem wp_leq_f (ho : o.op = .binOp .leq t x y ty) (hx : a.eval x = .int k m) (hy : a.eval y = .int k n) (h : ¬ (m ≤ n)) (hk : Hid (K (a.put o.dst (.bool false)) W)) : o.wp P a W K Q := wp_leq ho hx hy false ⟨fun h' => absurd h' h, fun h' => by cases h'⟩ hk
theorem wp_gtr (ho : o.op = .binOp .gtr t x y ty) (hx : a.eval x = .int k m) (hy : a.eval y = .int k n) (b : Bool) (h : (m > n) ↔ b = true) (hk : Hid (K (a.put o.dst (.bool b)) W)) : o.wp P a W K Q := by
  obtain rfl : b = (decide (m > n)) := by rw [Bool.eq_iff_iff, ← h]; simp
  unfold Oper.wp execOp
  simp [ho, hx, hy, eqGuard, binOp, Op.intCmp]
  exact hk.out
theorem wp_gtr_t (ho : o.op = .binOp .gtr t x y ty) (hx : a.eval x = .int k m) (hy : a.eval y = .int k n) (h : m > n) (hk : Hid (K (a.put o.dst (.bool true)) W)) : o.wp P a W K Q := wp_gtr ho hx hy true ⟨fun _ => rfl, fun _ => h⟩ hk
theorem wp_gtr_f (ho : o.op = .binOp .gtr t x y ty) (hx : a.eval x = .int k m) (hy : a.eval y = .int k n) (h : ¬ (m > n)) (hk : Hid (K (a.put o.dst (.bool false)) W)) : o.wp P a W K Q := wp_gtr ho hx hy false ⟨fun h' => absurd h' h, fun h' => by cases h'⟩ hk
theorem wp_geq (ho : o.op = .binOp .geq t x y ty) (hx : a.eval x = .int k m) (hy : a.eval y = .int k n) (b : Bool) (h : (m ≥ n) ↔ b = true) (hk : Hid (K (a.put o.dst (.bool b)) W)) : o.wp P a W K Q := by
  obtain rfl : b = (decide (m ≥ n)) := by rw [Bool.eq_iff_iff, ← h]; simp
  unfold Oper.wp execOp
  simp [ho, hx, hy, eqGuard, binOp, Op.intCmp]
  exact hk.out
theorem wp_geq_t (ho : o.op = .binOp .geq t x y ty) (hx : a.eval x = .int k m) (hy : a.eval y = .int k n) (h : m ≥ n) (hk : Hid (K (a.put o.dst (.bool true)) W)) : o.wp P a W K Q := wp_geq ho hx hy true ⟨fun _ => rfl, fun _ => h⟩ hk
theorem wp_geq_f (ho : o.op = .binOp .geq t x y ty) (hx : a.eval x = .int k m) (hy : a.eval y = .int k n) (h : ¬ (m ≥ n)) (hk : Hid (K (a.put o.dst (.bool false)) W)) : o.wp P a W K Q := wp_geq ho hx hy false ⟨fun h' => absurd h' h, fun h' => by cases h'⟩ hk
theorem wp_add (ho : o.op = .binOp .add t x y ty) (hx : a.eval x = .int k m) (hy : a.eval y = .int k n) (r : Int) (h : k.wrap (m + n) = r) (hk : Hid (K (a.put o.dst (.int k r)) W)) : o.wp P a W K Q := by
  unfold Oper.wp execOp
  simp [ho, hx, hy, eqGuard, binOp, Op.intArith, h]
  exact hk.out
theorem wp_sub (ho : o.op = .binOp .sub t x y ty) (hx : a.eval x = .int k m) (hy : a.eval y = .int k n) (r : Int) (h : k.wrap (m - n) = r) (hk : Hid (K (a.put o.dst (.int k r)) W)) : o.wp P a W K Q := by
  unfold Oper.wp execOp
  simp [ho, hx, hy, eqGuard, binOp, Op.intArith, h]
  exact hk.out
theorem wp_quo (ho : o.op = .binOp .quo t x y ty) (hx : a.eval x = .int k m) (hy : a.eval y = .int k n) (h0 : n ≠ 0) (r : Int) (h : k.wrap (m.tdiv n) = r) (hk : Hid (K (a.put o.dst (.int k r)) W)) : o.wp P a W K Q := by
  unfold Oper.wp execOp
  simp [ho, hx, hy, eqGuard, binOp, Op.intDiv, h0, h]
  exact hk.out
theorem wp_rem (ho : o.op = .binOp .rem t x y ty) (hx : a.eval x = .int k m) (hy : a.eval y = .int k n) (h0 : n ≠ 0) (r : Int) (h : m.tmod n = r) (hk : Hid (K (a.put o.dst (.int k r)) W)) : o.wp P a W K Q := by
  unfold Oper.wp execOp
  simp [ho, hx, hy, eqGuard, binOp, Op.intDiv, h0, h]
  exact hk.out
theorem wp_shl (ho : o.op = .binOp .shl t x y ty) (hx : a.eval x = .int k m) (hy : a.eval y = .int k' n) (h0 : 0 ≤ n) (r : Int) (h : k.wrap (m * 2 ^ min n.toNat k.bits) = r) (hk : Hid (K (a.put o.dst (.int k r)) W)) : o.wp P a W K Q := by
  unfold Oper.wp execOp
  simp [ho, hx, hy, eqGuard, binOp, Op.shift, show ¬ n < 0 by omega, h]
  exact hk.out
theorem wp_shr (ho : o.op = .binOp .shr t x y ty) (hx : a.eval x = .int k m) (hy : a.eval y = .int k' n) (h0 : 0 ≤ n) (r : Int) (h : m.fdiv (2 ^ min n.toNat k.bits) = r) (hk : Hid (K (a.put o.dst (.int k r)) W)) : o.wp P a W K Q := by
  unfold Oper.wp execOp
  simp [ho, hx, hy, eqGuard, binOp, Op.shift, show ¬ n < 0 by omega, h]
  exact hk.out
theorem wp_int (ho : o.op = .convert t ty x) (hx : a.eval x = .int k n) {d : TypeDesc} (hs : P.underlying t = some d) (hd : P.underlying ty = some (.int k')) (r : Int) (h : k'.wrap n = r) (hk : Hid (K (a.put o.dst (.int k' r)) W)) : o.wp P a W K Q := by
  unfold Oper.wp execOp
  simp [ho, hx, convert, run_underlying hs, run_underlying hd, Conv.intToInt, h]
  exact hk.out
theorem wp_move {v : Value} (ho : o.op = .move x) (hx : a.eval x = v) (hk : Hid (K (a.put o.dst v) W)) : o.wp P a W K Q := by
  unfold Oper.wp execOp
  simp only [ho, hx]
  exact hk.out
theorem wp_assign {v : Value} (ho : o.op = .assign x) (hx : a.eval x = v) (hk : Hid (K (a.put o.dst v) W)) : o.wp P a W K Q := by
  unfold Oper.wp execOp
  simp only [ho, hx]
  exact hk.out
theorem wp_pick {c : Operand} {b : Bool} {v : Value} (ho : o.op = .pick c x y) (hc : a.eval c = .bool b) (hv : a.eval (if b then x else y) = v) (hk : Hid (K (a.put o.dst v) W)) : o.wp P a W K Q := by
  unfold Oper.wp execOp
  cases b <;> simp only [Bool.false_eq_true, if_true, if_false] at hv <;> simp [ho, hc, hv, asBool] <;> exact hk.out
theorem wp_extract {i : Nat} {vs : Array Value} {v : Value} (ho : o.op = .extract x i) (hx : a.eval x = .tuple vs) (hi : vs[i]? = some v) (hk : Hid (K (a.put o.dst v) W)) : o.wp P a W K Q := by
  unfold Oper.wp execOp
  simp [ho, hx, Instr.extract, hi]
  exact hk.out
theorem wp_len {A : Option Addr} {l c : Nat} {e : TypeId} {tt : TypeId} (ho : o.op = .call { callee := .builtin .len, args := #[x], argTypes := #[tt] }) (hx : a.eval x = .slice A l c) (hu : P.underlying tt = some (.slice e)) (hk : Hid (K (a.put o.dst (.int .i64 (l : Int))) W)) : o.wp P a W K Q := by
  unfold Oper.wp execOp
  simp [ho, hx, resolve, invoke, builtin, Builtin.len_, run_underlying hu, goInt]
  exact hk.out
theorem wp_lens {s : ByteArray} {tt : TypeId} (ho : o.op = .call { callee := .builtin .len, args := #[x], argTypes := #[tt] }) (hx : a.eval x = .string s) (hu : P.underlying tt = some .string) (hk : Hid (K (a.put o.dst (.int .i64 (s.size : Int))) W)) : o.wp P a W K Q := by
  unfold Oper.wp execOp
  simp [ho, hx, resolve, invoke, builtin, Builtin.len_, run_underlying hu, goInt]
  exact hk.out
theorem wp_ixs {b off l c s : Nat} {e : TypeId} (ho : o.op = .indexAddr t x y) (hx : a.eval x = .slice (some ⟨b, off, none⟩) l c) (hy : a.eval y = .int k m) (hu : P.underlying t = some (.slice e)) (hs : ∀ w, (Go.sizeOf e).run P w = .ok s w) (h0 : 0 ≤ m) (h1 : m < l) (of : Nat) (hof : of = off + m.toNat * s)
    (hk : Hid (K (a.put o.dst (.pointer (some ⟨b, of, none⟩))) W)) : o.wp P a W K Q := by
  have hadd : (⟨b, off, none⟩ : Addr).add (m.toNat * s) = ⟨b, of, none⟩ := by unfold Addr.add; split <;> simp_all
  unfold Oper.wp execOp
  simp [ho, hx, hy, Instr.indexAt, asIntOf, run_underlying hu, hs, h0, h1, hadd]
  exact hk.out
theorem wp_ld {g of : Nat} {d : TypeDesc} {v : Value} (ho : o.op = .load t x) (hx : a.eval x = .pointer (some ⟨g, of, none⟩)) (hu : P.underlying t = some d) (hd : (match d with | .struct _ | .array _ _ => false | _ => true) = true) (hc : W.cell? ⟨g, of, none⟩ = some v) (hk : Hid (K (a.put o.dst v) W)) : o.wp P a W K Q := by
  have e : (loadVar t ⟨g, of, none⟩).run P W = .ok v W := by
    unfold loadVar isAgg
    cases d <;> simp [run_underlying hu, hc] at hd ⊢
  unfold Oper.wp execOp
  simp [ho, hx, Instr.loadAt, Instr.sureAddr, e]
  exact hk.out
theorem bytes_eq (s u : ByteArray) : (s.toList == u.toList) = decide (s = u) := by
  rw [Bool.eq_iff_iff]; simp [ByteArray.toList_eq]
  exact ⟨fun h => ByteArray.ext h, fun h => by rw [h]⟩
theorem wp_eqs {s u : ByteArray} (ho : o.op = .binOp .eql t x y ty) (hx : a.eval x = .string s) (hy : a.eval y = .string u) (b : Bool) (h : s = u ↔ b = true) (hk : Hid (K (a.put o.dst (.bool b)) W)) : o.wp P a W K Q := by
  obtain rfl : b = decide (s = u) := by rw [Bool.eq_iff_iff, ← h]; simp
  unfold Oper.wp execOp
  simp [ho, hx, hy, eqGuard, binOp, Op.stringOp, bytes_eq]
  exact hk.out
theorem wp_nes {s u : ByteArray} (ho : o.op = .binOp .neq t x y ty) (hx : a.eval x = .string s) (hy : a.eval y = .string u) (b : Bool) (h : s ≠ u ↔ b = true) (hk : Hid (K (a.put o.dst (.bool b)) W)) : o.wp P a W K Q := by
  obtain rfl : b = !decide (s = u) := by rw [Bool.eq_iff_iff, ← h]; simp
  unfold Oper.wp execOp
  simp [ho, hx, hy, eqGuard, binOp, Op.stringOp, bytes_eq]
  exact hk.out
theorem wp_adds {s u : ByteArray} (ho : o.op = .binOp .add t x y ty) (hx : a.eval x = .string s) (hy : a.eval y = .string u) (hn : s.size + u.size ≤ 9223372036854775807) (hk : Hid (K (a.put o.dst (.string (s ++ u))) W)) : o.wp P a W K Q := by
  unfold Oper.wp execOp
  have h1 : ¬ (((s.size + u.size : Nat) : Int) > IntKind.i64.max) := by simp [IntKind.max, IntKind.bits, IntKind.signed]; omega
  simp only [ho, hx, hy, eqGuard, binOp, Op.stringOp, h1, if_false, Sem.run_bind, Sem.run_pure, Result.andThen_ok]
  exact hk.out
theorem wp_eqa {xs ys : Array Value} (ho : o.op = .binOp .eql t x y ty) (hx : a.eval x = .agg xs) (hy : a.eval y = .agg ys) (hgd : P.eqGuardType P.depth t = false) (r : Bool) (hr : (Op.equalIn 10000 t (.agg xs) (.agg ys)).run P W = .ok r W) (hk : Hid (K (a.put o.dst (.bool r)) W)) : o.wp P a W K Q := by
  unfold Oper.wp execOp
  have e : (Op.equal t (.agg xs) (.agg ys)).run P W = .ok r W := hr
  simp [ho, hx, hy, eqGuard, binOp, hgd, e]
  exact hk.out
theorem wp_nea {xs ys : Array Value} (ho : o.op = .binOp .neq t x y ty) (hx : a.eval x = .agg xs) (hy : a.eval y = .agg ys) (hgd : P.eqGuardType P.depth t = false) (r : Bool) (hr : (Op.equalIn 10000 t (.agg xs) (.agg ys)).run P W = .ok r W) (hk : Hid (K (a.put o.dst (.bool (!r))) W)) : o.wp P a W K Q := by
  unfold Oper.wp execOp
  have e : (Op.equal t (.agg xs) (.agg ys)).run P W = .ok r W := hr
  simp [ho, hx, hy, eqGuard, binOp, hgd, e]
  exact hk.out
theorem wp_not {b : Bool} {u : TypeId} (ho : o.op = .unOp .not u x) (hx : a.eval x = .bool b) (hk : Hid (K (a.put o.dst (.bool (!b))) W)) : o.wp P a W K Q := by
  unfold Oper.wp execOp
  simp [ho, hx, Op.unary]
  exact hk.out
/-- May a call go into it? -/
def callable (fn : Func) : Bool := !(fn.name == "runtime.NumGoroutine") && fn.body.isSome
theorem wp_call {f : FuncId} {fn : Func} {xs : Array Operand} {tys : Array TypeId} {vs : Array Value} (ho : o.op = .call { callee := .value (.func f), args := xs, argTypes := tys }) (hf : P.funcs[f]? = some fn) (hc : callable fn = true) (hv : xs.map a.eval = vs)
    (h : Calls P f vs W (fun e w' => ∃ v, e = .returned v ∧ K (a.put o.dst v) w')) : o.wp P a W K Q := by
  simp only [callable, Bool.and_eq_true, Bool.not_eq_true', Option.isSome_iff_exists] at hc
  obtain ⟨h1, c, h2⟩ := hc
  unfold Oper.wp execOp
  have e : (do let d ← resolve a.eval { callee := .value (.func f), args := xs, argTypes := tys } o.type; invoke d.target d.args : Sem Next).run P W = .ok (.enter f vs) W := by
    have h1' : ¬ fn.name = "runtime.NumGoroutine" := by simpa using h1
    simp [resolve, Act.eval, Deferred.ofValue, invoke, callFunc, hf, h1', h2, hv]
  simp only [ho]
  rw [e]
  exact h.mono (fun e w' ⟨v, he, hk⟩ => by subst he; exact hk)
theorem ev0 : (#[] : Array Operand).map a.eval = #[] := by simp
theorem ev1 {x1 : Operand} {v1 : Value} (h1 : a.eval x1 = v1) : #[x1].map a.eval = #[v1] := by simp [h1]
theorem ev2 {x1 x2 : Operand} {v1 v2 : Value} (h1 : a.eval x1 = v1) (h2 : a.eval x2 = v2) : #[x1, x2].map a.eval = #[v1, v2] := by simp [h1, h2]
theorem ev3 {x1 x2 x3 : Operand} {v1 v2 v3 : Value} (h1 : a.eval x1 = v1) (h2 : a.eval x2 = v2) (h3 : a.eval x3 = v3) : #[x1, x2, x3].map a.eval = #[v1, v2, v3] := by simp [h1, h2, h3]
end ints
section ways
variable {P : Program} {Q : Exit → Act → World → Prop} {a : Act} {w : World} {K : Act → World → Prop} {id : Nat}
theorem then_normal (h : K a w) : Exit.then K Q .normal a w := h
theorem then_ret (h : Q .ret a w) : Exit.then K Q .ret a w := h
theorem then_exit (h : Q (.exit id) a w) : Exit.then K Q (.exit id) a w := h
theorem block_normal (h : Q .normal a w) : Exit.inBlock id Q .normal a w := h
theorem block_ret (h : Q .ret a w) : Exit.inBlock id Q .ret a w := h
theorem block_exit (h : Q .normal a w) : Exit.inBlock id Q (.exit id) a w := by simp only [Exit.inBlock, if_true]; exact h
theorem enter {f : FuncId} {fn : Func} {c : Code} {args : Array Value} {R : Ending → World → Prop} (N : Nat) (l : List (Nat × Value)) (hf : P.funcs[f]? = some fn) (hb : fn.body = some c)
    (hN : args.size + (fn.ntmps - args.size) = N) (hl : (l.map fun p => args[p.1]?) = l.map fun p => some p.2)
    {L : List (Nat × Obj)} {X : List Xt} (hS : Sx w L X w) (h : ∀ T W, Fr N ⟨T, []⟩ l → Sx w L X W → c.wp P (bodyPost P fn R) ⟨T, []⟩ W) : Calls P f args w R :=
  calls_of_wp hf hb (h _ w ⟨by simpa using hN, rfl, fun p hp => by
    have h1 := List.map_inj_left.1 hl p hp
    have hlt : p.1 < args.size := (Array.getElem?_eq_some_iff.1 h1).1
    simp only [slot, Array.getD_eq_getD_getElem?]
    rw [Array.getElem?_append_left hlt, h1]; rfl⟩ hS)
theorem results_c1 {fn : Func} {T : Array Value} {p g : Nat} {ty : TypeId} {v : Value} (h : fn.results = #[.cell p ty]) (hp : T[p]?.getD undef = .pointer (some ⟨g, 0, none⟩)) (hc : (loadVar ty ⟨g, 0, none⟩).run P w = .ok v w) : (results fn T).run P w = .ok v w := by
  simp [results, h, hp, asAddr, hc]
theorem results_c3 {fn : Func} {T : Array Value} {p g q r : Nat} {ty : TypeId} {v u x : Value} (h : fn.results = #[.cell p ty, .tmp q, .tmp r]) (hp : T[p]?.getD undef = .pointer (some ⟨g, 0, none⟩)) (hc : (loadVar ty ⟨g, 0, none⟩).run P w = .ok v w) (hq : T[q]?.getD undef = u) (hr : T[r]?.getD undef = x) : (results fn T).run P w = .ok (.tuple #[v, u, x]) w := by
  simp [results, h, hp, asAddr, hc, hq, hr]
theorem results_t1 {fn : Func} {T : Array Value} {p : Nat} {v : Value} (h : fn.results = #[.tmp p]) (hp : T[p]?.getD undef = v) : (results fn T).run P w = .ok v w := by
  simp [results, h, hp]
theorem results_t2 {fn : Func} {T : Array Value} {p q : Nat} {v u : Value} (h : fn.results = #[.tmp p, .tmp q]) (hp : T[p]?.getD undef = v) (hq : T[q]?.getD undef = u) : (results fn T).run P w = .ok (.tuple #[v, u]) w := by
  simp [results, h, hp, hq]
theorem results_t3 {fn : Func} {T : Array Value} {p q r : Nat} {v u x : Value} (h : fn.results = #[.tmp p, .tmp q, .tmp r]) (hp : T[p]?.getD undef = v) (hq : T[q]?.getD undef = u) (hr : T[r]?.getD undef = x) : (results fn T).run P w = .ok (.tuple #[v, u, x]) w := by
  simp [results, h, hp, hq, hr]
theorem results_t4 {fn : Func} {T : Array Value} {p q r s : Nat} {v u x y : Value} (h : fn.results = #[.tmp p, .tmp q, .tmp r, .tmp s]) (hp : T[p]?.getD undef = v) (hq : T[q]?.getD undef = u) (hr : T[r]?.getD undef = x) (hs : T[s]?.getD undef = y) : (results fn T).run P w = .ok (.tuple #[v, u, x, y]) w := by
  simp [results, h, hp, hq, hr, hs]
end ways
section short
variable {P : Program} {ops : Array Oper} {rest : List Oper} {Q : Exit → Act → World → Prop} {o : Oper} {N : Nat} {T : Array Value} {W : World} {l : List (Nat × Value)}
/-- so_pure in short. -/
theorem so_p (hF : Fr N ⟨T, []⟩ l) {d : Nat} (v : Value) (hop : ∀ K : Act → World → Prop, Hid (K ((⟨T, []⟩ : Act).put o.dst v) W) → o.wp P ⟨T, []⟩ W K Q)
    (k : ∀ T', Fr N ⟨T', []⟩ ((d, v) :: l) → wpList P ops Q rest ⟨T', []⟩ W) (hw : Region.wanted o (yielded ops T) = true := by exact wanted_none rfl _)
    (hd : o.dst = some d := by rfl) (hdN : d < N := by decide) (hl : (l.all fun p => p.1 != d) = true := by rfl) : wpList P ops Q (o :: rest) ⟨T, []⟩ W := so_pure hF hd hw hdN hl v hop k
/-- A move of the frame's i-th value. -/
theorem so_mv (hF : Fr N ⟨T, []⟩ l) (i : Nat) {s d : Nat} {v : Value} (k : ∀ T', Fr N ⟨T', []⟩ ((d, v) :: l) → wpList P ops Q rest ⟨T', []⟩ W) (hw : Region.wanted o (yielded ops T) = true := by exact wanted_none rfl _)
    (ho : o.op = .move (.tmp s) := by rfl) (hi : l[i]? = some (s, v) := by rfl) (hd : o.dst = some d := by rfl) (hdN : d < N := by decide) (hl : (l.all fun p => p.1 != d) = true := by rfl) : wpList P ops Q (o :: rest) ⟨T, []⟩ W :=
  so_pure hF hd hw hdN hl v (fun _ hK => wp_move ho (hF.op i hi) hK) k
theorem so_as (hF : Fr N ⟨T, []⟩ l) (i : Nat) {s d : Nat} {v : Value} (k : ∀ T', Fr N ⟨T', []⟩ ((d, v) :: l) → wpList P ops Q rest ⟨T', []⟩ W) (hw : Region.wanted o (yielded ops T) = true := by exact wanted_none rfl _)
    (ho : o.op = .assign (.tmp s) := by rfl) (hi : l[i]? = some (s, v) := by rfl) (hd : o.dst = some d := by rfl) (hdN : d < N := by decide) (hl : (l.all fun p => p.1 != d) = true := by rfl) : wpList P ops Q (o :: rest) ⟨T, []⟩ W :=
  so_pure hF hd hw hdN hl v (fun _ hK => wp_assign ho (hF.op i hi) hK) k
theorem so_ex (hF : Fr N ⟨T, []⟩ l) (i : Nat) {s d j : Nat} {vs : Array Value} {v : Value} (k : ∀ T', Fr N ⟨T', []⟩ ((d, v) :: l) → wpList P ops Q rest ⟨T', []⟩ W) (hw : Region.wanted o (yielded ops T) = true := by exact wanted_none rfl _)
    (ho : o.op = .extract (.tmp s) j := by rfl) (hi : l[i]? = some (s, .tuple vs) := by rfl) (hv : vs[j]? = some v := by rfl) (hd : o.dst = some d := by rfl) (hdN : d < N := by decide) (hl : (l.all fun p => p.1 != d) = true := by rfl) : wpList P ops Q (o :: rest) ⟨T, []⟩ W :=
  so_pure hF hd hw hdN hl v (fun _ hK => wp_extract ho (hF.op i hi) hv hK) k
theorem dE {k : Nat} {v : Value} (h : slot T k = v) : (⟨T, []⟩ : Act).eval (.tmp k) = v := h
theorem dS {ops : List Oper} {i : Nat} {T0 : Array Value} (hs : ∀ s, (∀ (j : Nat) (o' : Oper), ops[j]? = some o' → o'.dst = some s → i = j ∨ ∃ e ∈ o'.after, Region.binds .any e = true ∧ e.on = i) → slot T s = slot T0 s)
    (hF : Fr N ⟨T0, []⟩ l) (q : Nat) {k : Nat} {v : Value} (hi : l[q]? = some (k, v) := by rfl) (hl : lateB ops i k = true := by rfl) : (⟨T, []⟩ : Act).eval (.tmp k) = v :=
  (hs k (late hl)).trans (hF.known _ (List.mem_of_getElem? hi))
variable {lo : List Oper} {T0 : Array Value} {Rs : List (Value → World → Prop)} {J : (Nat → Bool) → World → Prop} {i : Nat}
/-- An operation of a drawn region that no guard holds. -/
theorem dr_un (hst : ∀ p, p ∈ Rs → Stable p) (h : ∀ (T : Array Value) (W : World) (L : Nat → Bool), T.size = T0.size → J L W →
    (∀ j d, (∃ e ∈ o.after, Region.binds .any e = true ∧ e.on = j) → (lo[j]?.bind (·.dst)) = some d → (Rs.getD j (fun _ _ => True)) (slot T d) W) →
    (∀ s, (∀ (j : Nat) (o' : Oper), lo[j]? = some o' → o'.dst = some s → i = j ∨ ∃ e ∈ o'.after, Region.binds .any e = true ∧ e.on = i) → slot T s = slot T0 s) →
    ∀ K : Act → World → Prop, (∀ v W', (Rs.getD i (fun _ _ => True)) v W' → J (also L i) W' → Below W.heap.size W W' → K ((⟨T, []⟩ : Act).put o.dst v) W') → Oper.wp P o ⟨T, []⟩ W K Q)
    (hg : o.guard = none := by rfl) : RelStepL P lo T0 Rs J Q i o := by
  intro L T W hT hJ hL0 hLd hd hs K hK
  rw [if_pos (wanted_none hg _)]
  exact h T W L hT hJ hd hs K (fun v W' h1 h2 h3 => hK v W' h1 h2 (stayB hst h3))
/-- .. whose guard holds. -/
theorem dr_on (hst : ∀ p, p ∈ Rs → Stable p) {F : List (Nat × Value)} (hF : Fr N ⟨T0, []⟩ F) (j : Nat) {d : Nat} {oj : Oper} {b : Bool} (he : ∃ e ∈ o.after, Region.binds .any e = true ∧ e.on = j) (h : ∀ (T : Array Value) (W : World) (L : Nat → Bool), T.size = T0.size → J L W →
    (∀ j d, (∃ e ∈ o.after, Region.binds .any e = true ∧ e.on = j) → (lo[j]?.bind (·.dst)) = some d → (Rs.getD j (fun _ _ => True)) (slot T d) W) →
    (∀ s, (∀ (j : Nat) (o' : Oper), lo[j]? = some o' → o'.dst = some s → i = j ∨ ∃ e ∈ o'.after, Region.binds .any e = true ∧ e.on = i) → slot T s = slot T0 s) →
    ∀ K : Act → World → Prop, (∀ v W', (Rs.getD i (fun _ _ => True)) v W' → J (also L i) W' → Below W.heap.size W W' → K ((⟨T, []⟩ : Act).put o.dst v) W') → Oper.wp P o ⟨T, []⟩ W K Q)
    (hg : o.guard = some (j, b) := by rfl) (ho : lo[j]? = some oj := by rfl) (hdj : oj.dst = some d := by rfl) (hR : Rs.getD j (fun _ _ => True) = (fun v _ => v = .bool b) := by rfl) (hdN : d < N := by decide) : RelStepL P lo T0 Rs J Q i o := by
  intro L T W hT hJ hL0 hLd hd hs K hK
  have fg : slot T d = .bool b := by
    have h1 := hd j d he (by rw [ho]; exact hdj)
    rw [hR] at h1; exact h1
  rw [wanted_by (j := j) (d := d) hg ho hdj (Nat.lt_of_lt_of_eq hdN (hT.trans hF.size).symm) fg, if_pos (by simp)]
  exact h T W L hT hJ hd hs K (fun v W' h1 h2 h3 => hK v W' h1 h2 (stayB hst h3))
/-- .. whose guard doesn't hold. -/
theorem dr_off {F : List (Nat × Value)} (hF : Fr N ⟨T0, []⟩ F) (j : Nat) {d : Nat} {oj : Oper} {b c : Bool} (he : ∃ e ∈ o.after, Region.binds .any e = true ∧ e.on = j) (hR : Rs.getD j (fun _ _ => True) = (fun v _ => v = .bool c))
    (hg : o.guard = some (j, b) := by rfl) (hcb : (c == b) = false := by rfl) (ho : lo[j]? = some oj := by rfl) (hdj : oj.dst = some d := by rfl) (hdN : d < N := by decide)
    (hRi : Rs.getD i (fun _ _ => True) = (fun _ _ => True) := by rfl) (hJJ : ∀ L W, J L W → J (also L i) W := by exact fun _ _ h => h) : RelStepL P lo T0 Rs J Q i o := by
  intro L T W hT hJ hL0 hLd hd hs K hK
  have fg : slot T d = .bool c := by
    have h1 := hd j d he (by rw [ho]; exact hdj)
    rw [hR] at h1; exact h1
  rw [wanted_by (j := j) (d := d) hg ho hdj (Nat.lt_of_lt_of_eq hdN (hT.trans hF.size).symm) fg, if_neg (by rw [hcb]; decide)]
  refine hK undef W ?_ (hJJ _ _ hJ) (fun _ _ _ h => h)
  rw [hRi]; exact trivial
end short
end Go.Proofs.Ytbjcigokimieoaa
namespace Go.Proofs.Ytbjcigokimieoaa
open Go.RowKit
/-- Entry i of a list; 0 behind the last one. (Closed to simp.) -/
def nth (l : List Nat) (i : Nat) : Nat := l.getD i 0
theorem nth_end (l : List Nat) (i : Nat) (h : l.length ≤ i) : nth l i = 0 := by
  unfold nth; rw [List.getD_eq_getElem?_getD, List.getElem?_eq_none h]; rfl
theorem nth_get (l : List Nat) (i : Nat) (h : i < l.length) : l[i]? = some (nth l i) := by
  unfold nth; rw [List.getD_eq_getElem?_getD, List.getElem?_eq_getElem h]; rfl
theorem nth_set (l : List Nat) (i j x : Nat) (h : i < l.length) : nth (l.set i x) j = if i = j then x else nth l j := by
  unfold nth
  rw [List.getD_eq_getElem?_getD, List.getD_eq_getElem?_getD, List.getElem?_set]
  split
  · next e => subst e; first | rfl | (rw [if_pos h]; rfl)
  · rfl
theorem nth_append_left (a b : List Nat) (i : Nat) (h : i < a.length) : nth (a ++ b) i = nth a i := by
  unfold nth; rw [List.getD_eq_getElem?_getD, List.getD_eq_getElem?_getD, List.getElem?_append_left h]
theorem nth_append_right (a b : List Nat) (i : Nat) (h : a.length ≤ i) : nth (a ++ b) i = nth b (i - a.length) := by
  unfold nth; rw [List.getD_eq_getElem?_getD, List.getD_eq_getElem?_getD, List.getElem?_append_right h]
theorem nth_ext (a b : List Nat) (h : a.length = b.length) (he : ∀ i, i < a.length → nth a i = nth b i) : a = b := by
  apply List.ext_getElem? 
  intro i
  by_cases hi : i < a.length
  · rw [nth_get a i hi, nth_get b i (by omega), he i hi]
  · rw [List.getElem?_eq_none (by omega), List.getElem?_eq_none (by omega)]
theorem nth_range (f : Nat → Nat) (n i : Nat) (h : i < n) : nth ((List.range n).map f) i = f i := by
  unfold nth; rw [List.getD_eq_getElem?_getD, List.getElem?_map, List.getElem?_range h]; rfl
theorem nth_drop (l : List Nat) (k i : Nat) : nth (l.drop k) i = nth l (k + i) := by
  unfold nth; rw [List.getD_eq_getElem?_getD, List.getD_eq_getElem?_getD, List.getElem?_drop]
theorem nth_mem (l : List Nat) (i : Nat) (h : i < l.length) : nth l i ∈ l := List.mem_of_getElem? (nth_get l i h)
/-- A number of 32 bits turned right. -/
def rotr (x n : Nat) : Nat := (x / 2 ^ n ||| x * 2 ^ (32 - n)) % 4294967296
def sg0 (x : Nat) : Nat := (rotr x 7 ^^^ rotr x 18) ^^^ x / 8
def sg1 (x : Nat) : Nat := (rotr x 17 ^^^ rotr x 19) ^^^ x / 1024
def bg1 (x : Nat) : Nat := (rotr x 6 ^^^ rotr x 11) ^^^ rotr x 25
def bg0 (x : Nat) : Nat := (rotr x 2 ^^^ rotr x 13) ^^^ rotr x 22
def chs (e f g : Nat) : Nat := (e &&& f) ^^^ ((4294967295 - e) &&& g)
def maj (a b c : Nat) : Nat := ((a &&& b) ^^^ (a &&& c)) ^^^ (b &&& c)
/-- One of each round. -/
def KL : List Nat := [1116352408, 1899447441, 3049323471, 3921009573, 961987163, 1508970993, 2453635748, 2870763221, 3624381080, 310598401, 607225278, 1426881987, 1925078388, 2162078206, 2614888103, 3248222580, 3835390401, 4022224774, 264347078, 604807628, 770255983, 1249150122, 1555081692, 1996064986, 2554220882, 2821834349, 2952996808, 3210313671, 3336571891, 3584528711, 113926993, 338241895, 666307205, 773529912, 1294757372, 1396182291, 1695183700, 1986661051, 2177026350, 2456956037, 2730485921, 2820302411, 3259730800, 3345764771, 3516065817, 3600352804, 4094571909, 275423344, 430227734, 506948616, 659060556, 883997877, 958139571, 1322822218, 1537002063, 1747873779, 1955562222, 2024104815, 2227730452, 2361852424, 2428436474, 2756734187, 3204031479, 3329325298]
/-- The numbers as they begin. -/
def HL : List Nat := [1779033703, 3144134277, 1013904242, 2773480762, 1359893119, 2600822924, 528734635, 1541459225]
/-- The word of four bytes. -/
def word (f : Nat → Nat) (i : Nat) : Nat := ((f (4 * i) * 256 + f (4 * i + 1)) * 256 + f (4 * i + 2)) * 256 + f (4 * i + 3)
/-- The word that comes of those before it. -/
def nextw (l : List Nat) (n : Nat) : Nat := (((nth l n + nth l (n + 9)) % 4294967296 + sg0 (nth l (n + 1))) % 4294967296 + sg1 (nth l (n + 14))) % 4294967296
def sch (f : Nat → Nat) : Nat → List Nat
  | 0 => (List.range 16).map (word f)
  | n + 1 => sch f n ++ [nextw (sch f n) n]
/-- One round. -/
def tt1 (k w : Nat) (x : List Nat) : Nat := ((((nth x 7 + bg1 (nth x 4)) % 4294967296 + chs (nth x 4) (nth x 5) (nth x 6)) % 4294967296 + k) % 4294967296 + w) % 4294967296
def tt2 (x : List Nat) : Nat := (bg0 (nth x 0) + maj (nth x 0) (nth x 1) (nth x 2)) % 4294967296
def rnd (k w : Nat) (x : List Nat) : List Nat := [(tt1 k w x + tt2 x) % 4294967296, nth x 0, nth x 1, nth x 2, (nth x 3 + tt1 k w x) % 4294967296, nth x 4, nth x 5, nth x 6]
def rnds (ws x : List Nat) : Nat → List Nat
  | 0 => x
  | n + 1 => rnd (nth KL n) (nth ws n) (rnds ws x n)
def addL (x y : List Nat) : List Nat := (List.range 8).map fun i => (nth x i + nth y i) % 4294967296
/-- The eight numbers behind a piece. -/
def mixS (x : List Nat) (f : Nat → Nat) : List Nat := addL x (rnds (sch f 48) x 64)
/-- Behind n pieces. -/
def runB (x bs : List Nat) : Nat → List Nat
  | 0 => x
  | n + 1 => mixS (runB x bs n) fun i => nth bs (64 * n + i)
/-- The noughts that are wanted. -/
def pads (n : Nat) : Nat := (119 - n % 64) % 64
def be8 (n : Nat) : List Nat := (List.range 8).map fun i => n / 2 ^ (56 - 8 * i) % 256
def padded (bs : List Nat) : List Nat := bs ++ [128] ++ List.replicate (pads bs.length) 0 ++ be8 (8 * bs.length % 18446744073709551616)
def outB (x : List Nat) : List Nat := (List.range 32).map fun j => nth x (j / 4) / 2 ^ (24 - 8 * (j % 4)) % 256
/-- The digest of bytes. -/
def sha (bs : List Nat) : List Nat := outB (runB HL (padded bs) ((padded bs).length / 64))
theorem rotr_lt (x n : Nat) : rotr x n < 4294967296 := Nat.mod_lt _ (by decide)
theorem xor_lt {a b : Nat} (ha : a < 4294967296) (hb : b < 4294967296) : a ^^^ b < 4294967296 := Nat.xor_lt_two_pow (n := 32) ha hb
theorem and_lt {a : Nat} (b : Nat) (ha : a < 4294967296) : a &&& b < 4294967296 := Nat.lt_of_le_of_lt Nat.and_le_left ha
theorem KL_lt (i : Nat) : nth KL i < 4294967296 := by
  by_cases h : i < 64
  · have : ∀ j : Fin 64, nth KL j.val < 4294967296 := by decide +kernel
    exact this ⟨i, h⟩
  · rw [nth_end KL i (by simp only [KL, List.length_cons, List.length_nil]; omega)]; decide
theorem KL_len : KL.length = 64 := rfl
theorem sch_len (f : Nat → Nat) : ∀ n, (sch f n).length = 16 + n
  | 0 => by simp [sch]
  | n + 1 => by rw [sch, List.length_append, sch_len f n]; rfl
theorem rnds_len (ws x : List Nat) (h : x.length = 8) : ∀ n, (rnds ws x n).length = 8
  | 0 => h
  | _ + 1 => rfl
theorem addL_len (x y : List Nat) : (addL x y).length = 8 := by simp [addL]
theorem mixS_len (x : List Nat) (f : Nat → Nat) : (mixS x f).length = 8 := addL_len _ _
theorem runB_len (x bs : List Nat) (h : x.length = 8) : ∀ n, (runB x bs n).length = 8
  | 0 => h
  | _ + 1 => mixS_len _ _
/-- Each one below 2^32. -/
def W32 (l : List Nat) : Prop := ∀ i, nth l i < 4294967296
theorem W32.nil : W32 [] := fun i => by rw [nth_end [] i (by simp)]; decide
theorem w32_of (l : List Nat) (h : ∀ x, x ∈ l → x < 4294967296) : W32 l := fun i => by
  by_cases hi : i < l.length
  · exact h _ (nth_mem l i hi)
  · rw [nth_end l i (by omega)]; decide
theorem word_lt (f : Nat → Nat) (i : Nat) (h : ∀ j, f j < 256) : word f i < 4294967296 := by
  have h0 := h (4 * i); have h1 := h (4 * i + 1); have h2 := h (4 * i + 2); have h3 := h (4 * i + 3)
  unfold word; omega
theorem sch_w (f : Nat → Nat) (h : ∀ j, f j < 256) : ∀ n, W32 (sch f n)
  | 0 => w32_of _ (by intro x hx; simp only [sch, List.mem_map] at hx; obtain ⟨i, -, rfl⟩ := hx; exact word_lt f i h)
  | n + 1 => fun i => by
    rw [sch]
    by_cases hi : i < (sch f n).length
    · rw [nth_append_left _ _ _ hi]; exact sch_w f h n i
    · rw [nth_append_right _ _ _ (by omega)]
      by_cases h0 : i - (sch f n).length = 0
      · rw [h0]; exact Nat.mod_lt _ (by decide)
      · rw [nth_end _ _ (by simp; omega)]; decide
theorem addL_w (x y : List Nat) : W32 (addL x y) := w32_of _ (by intro a ha; simp only [addL, List.mem_map] at ha; obtain ⟨i, -, rfl⟩ := ha; exact Nat.mod_lt _ (by decide))
theorem rnd_w (k w : Nat) (x : List Nat) (h : W32 x) : W32 (rnd k w x) := w32_of _ (by
  intro a ha
  simp only [rnd, List.mem_cons, List.not_mem_nil, or_false] at ha
  rcases ha with rfl | rfl | rfl | rfl | rfl | rfl | rfl | rfl <;> first | exact h _ | exact Nat.mod_lt _ (by decide))
theorem rnds_w (ws x : List Nat) (h : W32 x) : ∀ n, W32 (rnds ws x n)
  | 0 => h
  | n + 1 => rnd_w _ _ _ (rnds_w ws x h n)
theorem runB_w (x bs : List Nat) (h : W32 x) : ∀ n, W32 (runB x bs n)
  | 0 => h
  | _ + 1 => addL_w _ _
theorem HL_w : W32 HL := w32_of _ (by decide +kernel)
theorem outB_len (x : List Nat) : (outB x).length = 32 := by simp [outB]
theorem outB_lt (x : List Nat) : ∀ y, y ∈ outB x → y < 256 := by
  intro y hy; simp only [outB, List.mem_map] at hy; obtain ⟨i, -, rfl⟩ := hy; exact Nat.mod_lt _ (by decide)
theorem sha_len (bs : List Nat) : (sha bs).length = 32 := outB_len _
theorem sha_lt (bs : List Nat) : ∀ y, y ∈ sha bs → y < 256 := outB_lt _
theorem pads_56 (n : Nat) : (n + 1 + pads n) % 64 = 56 := by unfold pads; omega
theorem padded_len (bs : List Nat) : (padded bs).length = bs.length + 1 + pads bs.length + 8 := by simp [padded, be8]; omega
theorem padded_64 (bs : List Nat) : (padded bs).length % 64 = 0 := by rw [padded_len]; have := pads_56 bs.length; omega
/-- The pieces alone count. -/
theorem runB_congr (x a b : List Nat) : ∀ n, (∀ i, i < 64 * n → nth a i = nth b i) → runB x a n = runB x b n
  | 0, _ => rfl
  | n + 1, h => by
    rw [runB, runB, runB_congr x a b n (fun i hi => h i (by omega))]
    have key : ∀ f g : Nat → Nat, (∀ i, i < 64 → f i = g i) → ∀ m, sch f m = sch g m := by
      intro f g hfg m
      induction m with
      | zero =>
        apply List.map_congr_left
        intro i hi
        have := List.mem_range.1 hi
        unfold word
        rw [hfg _ (by omega), hfg _ (by omega), hfg _ (by omega), hfg _ (by omega)]
      | succ m ih => rw [sch, sch, ih]
    unfold mixS
    rw [key _ _ (fun i hi => h (64 * n + i) (by omega)) 48]
theorem runB_add (x bs : List Nat) (m : Nat) : ∀ n, runB x bs (m + n) = runB (runB x bs m) (bs.drop (64 * m)) n
  | 0 => rfl
  | n + 1 => by
    rw [← Nat.add_assoc, runB, runB, runB_add x bs m n]
    congr 1
    funext i
    rw [nth_drop]; congr 1; omega
end Go.Proofs.Ytbjcigokimieoaa
namespace Go.Proofs.Ytbjcigokimieoaa
open Go.RowKit
/-- Words as cells. -/
def wcells (K : IntKind) (l : List Nat) : Array Value := (l.map fun n => Value.int K ((n : Nat) : Int)).toArray
theorem wcells_get (K : IntKind) (l : List Nat) (i : Nat) (h : i < l.length) : (wcells K l)[i]? = some (.int K ((nth l i : Nat) : Int)) := by
  simp only [wcells, List.getElem?_toArray, List.getElem?_map, nth_get l i h, Option.map_some]
theorem wcells_size (K : IntKind) (l : List Nat) : (wcells K l).size = l.length := by simp [wcells]
theorem wcells_set (K : IntKind) (l : List Nat) (i x : Nat) : (wcells K l).setIfInBounds i (.int K ((x : Nat) : Int)) = wcells K (l.set i x) := by
  simp only [wcells, List.setIfInBounds_toArray, List.map_set]
theorem cell_w {K : IntKind} {W : World} {g : Nat} {t : TypeId} {l : List Nat} (h : W.heap[g]? = some (.cells (wcells K l) t (0, 0))) (i : Nat) (hi : i < l.length) : W.cell? ⟨g, i, none⟩ = some (.int K ((nth l i : Nat) : Int)) :=
  (cell_of_row _ _ _ _ _ _ h).trans (wcells_get K l i hi)
theorem set_w {K : IntKind} {W : World} {g : Nat} {t : TypeId} {l : List Nat} (h : W.heap[g]? = some (.cells (wcells K l) t (0, 0))) (i x : Nat) : (W.setCell ⟨g, i, none⟩ (.int K ((x : Nat) : Int))).heap[g]? = some (.cells (wcells K (l.set i x)) t (0, 0)) := by
  have h0 := heap_setCell_same W g i _ _ (.int K ((x : Nat) : Int)) h
  rw [h0, wcells_set]
theorem xor32 (a b : Nat) (ha : a < 4294967296) (hb : b < 4294967296) : bits .xor .u32 (a : Int) (b : Int) = ((a ^^^ b : Nat) : Int) := by
  have hx : a ^^^ b < 2 ^ 32 := Nat.xor_lt_two_pow (n := 32) (by omega) (by omega)
  have h1 : (BitVec.ofInt 32 (a : Int)).toNat = a := by
    rw [BitVec.ofInt_natCast, BitVec.toNat_ofNat]; exact Nat.mod_eq_of_lt (by omega)
  have h2 : (BitVec.ofInt 32 (b : Int)).toNat = b := by
    rw [BitVec.ofInt_natCast, BitVec.toNat_ofNat]; exact Nat.mod_eq_of_lt (by omega)
  show IntKind.u32.wrap ((BitVec.ofInt 32 (a : Int) ^^^ BitVec.ofInt 32 (b : Int)).toNat : Int) = _
  rw [BitVec.toNat_xor, h1, h2, IntKind.wrap_u32]
  omega
theorem and32 (a b : Nat) (ha : a < 4294967296) (hb : b < 4294967296) : bits .and .u32 (a : Int) (b : Int) = ((a &&& b : Nat) : Int) := by
  have hx : a &&& b < 2 ^ 32 := Nat.and_lt_two_pow (n := 32) _ (by omega)
  have h1 : (BitVec.ofInt 32 (a : Int)).toNat = a := by
    rw [BitVec.ofInt_natCast, BitVec.toNat_ofNat]; exact Nat.mod_eq_of_lt (by omega)
  have h2 : (BitVec.ofInt 32 (b : Int)).toNat = b := by
    rw [BitVec.ofInt_natCast, BitVec.toNat_ofNat]; exact Nat.mod_eq_of_lt (by omega)
  show IntKind.u32.wrap ((BitVec.ofInt 32 (a : Int) &&& BitVec.ofInt 32 (b : Int)).toNat : Int) = _
  rw [BitVec.toNat_and, h1, h2, IntKind.wrap_u32]
  omega
theorem or32 (a b : Nat) (ha : a < 4294967296) (hb : b < 4294967296) : bits .or .u32 (a : Int) (b : Int) = ((a ||| b : Nat) : Int) := by
  have hx : a ||| b < 2 ^ 32 := Nat.or_lt_two_pow (n := 32) (by omega) (by omega)
  have h1 : (BitVec.ofInt 32 (a : Int)).toNat = a := by
    rw [BitVec.ofInt_natCast, BitVec.toNat_ofNat]; exact Nat.mod_eq_of_lt (by omega)
  have h2 : (BitVec.ofInt 32 (b : Int)).toNat = b := by
    rw [BitVec.ofInt_natCast, BitVec.toNat_ofNat]; exact Nat.mod_eq_of_lt (by omega)
  show IntKind.u32.wrap ((BitVec.ofInt 32 (a : Int) ||| BitVec.ofInt 32 (b : Int)).toNat : Int) = _
  rw [BitVec.toNat_or, h1, h2, IntKind.wrap_u32]
  omega
theorem rot_left (x n : Nat) (hx : x < 4294967296) : bits .or .u32 (IntKind.u32.wrap ((x : Int) * 2 ^ (32 - n))) ((x : Int) / 2 ^ n) = ((rotr x n : Nat) : Int) := by
  have e1 : IntKind.u32.wrap ((x : Int) * 2 ^ (32 - n)) = ((x * 2 ^ (32 - n) % 4294967296 : Nat) : Int) := by
    rw [IntKind.wrap_u32]
    have : ((x : Int) * 2 ^ (32 - n)) = ((x * 2 ^ (32 - n) : Nat) : Int) := by simp
    rw [this]; omega
  have e2 : (x : Int) / 2 ^ n = ((x / 2 ^ n : Nat) : Int) := by
    have : ((2 : Int) ^ n) = ((2 ^ n : Nat) : Int) := by simp
    rw [this]; exact (Int.natCast_ediv x (2 ^ n)).symm
  have hd : x / 2 ^ n < 4294967296 := Nat.lt_of_le_of_lt (Nat.div_le_self _ _) hx
  rw [e1, e2, or32 _ _ (Nat.mod_lt _ (by decide)) hd]
  unfold rotr
  rw [show (4294967296 : Nat) = 2 ^ 32 from rfl, Nat.or_mod_two_pow, Nat.mod_eq_of_lt (a := x / 2 ^ n) hd, Nat.or_comm]
theorem rot_right (x n : Nat) (hx : x < 4294967296) (hn : 1 ≤ n ∧ n ≤ 31) : (bits .or .u64 ((x : Int) / 2 ^ n) (IntKind.u64.wrap ((x : Int) * 2 ^ (32 - n)))).tmod 4294967296 = ((rotr x n : Nat) : Int) := by
  have hp : 2 ^ (32 - n) ≤ 2 ^ 31 := Nat.pow_le_pow_right (by decide) (by omega)
  have hm : x * 2 ^ (32 - n) < 18446744073709551616 := by
    have := Nat.mul_lt_mul_of_lt_of_le hx hp (by decide)
    omega
  have e1 : IntKind.u64.wrap ((x : Int) * 2 ^ (32 - n)) = ((x * 2 ^ (32 - n) : Nat) : Int) := by
    rw [IntKind.wrap_u64]
    have : ((x : Int) * 2 ^ (32 - n)) = ((x * 2 ^ (32 - n) : Nat) : Int) := by simp
    rw [this]; omega
  have e2 : (x : Int) / 2 ^ n = ((x / 2 ^ n : Nat) : Int) := by
    have : ((2 : Int) ^ n) = ((2 ^ n : Nat) : Int) := by simp
    rw [this]; exact (Int.natCast_ediv x (2 ^ n)).symm
  have hd : x / 2 ^ n < 18446744073709551616 := Nat.lt_of_le_of_lt (Nat.div_le_self _ _) (by omega)
  rw [e1, e2, bits_or_u64_nat _ _ hd hm, Int.tmod_eq_emod_of_nonneg (by omega)]
  rfl
theorem back32 : ∀ n : Fin 32, 1 ≤ n.val → bits .and .u64 (IntKind.u64.wrap (-(n.val : Int))) 31 = ((32 - n.val : Nat) : Int) := by decide +kernel
set_option maxHeartbeats 1000000 in
theorem turn_c (x n : Nat) (hx : x < 4294967296) (hn : 1 ≤ n ∧ n ≤ 31) (w : World) : Calls Try.prog 46 #[.int .u32 (x : Int), .int .i64 (n : Int)] w fun e w' => e = .returned (.int .u32 ((rotr x n : Nat) : Int)) ∧ w = w' := by
  have hb := back32 ⟨n, by omega⟩ hn.1
  have hr := rot_left x n hx
  have e0 : (32 - (n : Int)) = ((32 - n : Nat) : Int) := by omega
  obtain ⟨m, hm⟩ : ∃ m, m = 32 - n := ⟨_, rfl⟩
  have hmn : 32 - m = n := by omega
  have hm2 : 1 ≤ m ∧ m ≤ 31 := by omega
  rw [← hm] at hb hr e0
  have e3 : (32 - (m : Int)) = ((n : Nat) : Int) := by omega
  have hn1 : IntKind.i64.wrap (-(n : Int)) = -(n : Int) := by rw [IntKind.wrap_i64]; omega
  have HR := Lib.hid hr
  clear hr hm
  go_enter Try.func46, Try.ntmps46
  go_wp2
  go_ret
  exact ⟨by rw [← HR.out]; rfl, rfl⟩
set_option maxHeartbeats 1000000 in
theorem rright_c (x n : Nat) (hx : x < 4294967296) (hn : 1 ≤ n ∧ n ≤ 31) (w : World) : Calls Try.prog 40 #[.int .u64 (x : Int), .int .u64 (n : Int)] w fun e w' => e = .returned (.int .u64 ((rotr x n : Nat) : Int)) ∧ w = w' := by
  have hr := Lib.hid (rot_right x n hx hn)
  go_enter Try.func40, Try.ntmps40
  go_wp2
  go_ret
  exact ⟨by rw [← hr.out]; rfl, rfl⟩
set_option maxHeartbeats 1000000 in
theorem down_c (x n : Nat) (_hn : 1 ≤ n ∧ n ≤ 31) (w : World) : Calls Try.prog 41 #[.int .u64 (x : Int), .int .u64 (n : Int)] w fun e w' => e = .returned (.int .u64 ((x / 2 ^ n : Nat) : Int)) ∧ w = w' := by
  have e2 : (x : Int) / 2 ^ n = ((x / 2 ^ n : Nat) : Int) := by
    have : ((2 : Int) ^ n) = ((2 ^ n : Nat) : Int) := by simp
    rw [this]; exact (Int.natCast_ediv x (2 ^ n)).symm
  have E := Lib.hid e2
  clear e2
  go_enter Try.func41, Try.ntmps41
  go_wp2
  go_ret
  exact ⟨by rw [← E.out]; rfl, rfl⟩
theorem first_row : (.agg #[.int .u32 1779033703, .int .u32 3144134277, .int .u32 1013904242, .int .u32 2773480762, .int .u32 1359893119, .int .u32 2600822924, .int .u32 528734635, .int .u32 1541459225] : Value) = .agg (wcells .u32 HL) := by kernel_rfl
end Go.Proofs.Ytbjcigokimieoaa
namespace Go.Proofs.Ytbjcigokimieoaa
open Go.RowKit
theorem wcells_one (K : IntKind) (l : List Nat) : (wcells K l).all (·.oneCell') = true := by simp [wcells, Value.oneCell']
set_option maxRecDepth 100000 in
set_option maxHeartbeats 4000000 in
theorem first_c (w : World) : Calls Try.prog 42 #[] w fun e w' => e = .returned (.agg (wcells .u32 HL)) ∧ Below w.heap.size w w' := by
  have S0 := (St.nil w).alloc (.cells (wcells .u32 (List.replicate 8 0)) 77) _ rfl
  go_enter Try.func42, Try.ntmps42
  go_wp2_with (first
    | (refine wpList_buildTo rfl 77 _ rfl (some 1) rfl (wcells .u32 HL) (by kernel_rfl) ?_)
    | (refine wpList_store_row rfl 77 (.tmp 0) (.tmp 1) rfl w.heap.size (wcells .u32 HL) rfl rfl 77 (wcells .u32 (List.replicate 8 0)) (S0.get (List.Mem.head _)) (by kernel_rfl) (by kernel_rfl) (wcells_one _ _) ?_))
  refine bodyPost_ret (results_cell_row rfl _ _ w.heap.size 77 (wcells .u32 HL) (0, 0) _ rfl (setRow_heap _ _ _ _ _ _ (S0.get (List.Mem.head _))) Try.underlying77 rfl (by kernel_rfl)) rfl ?_
  exact ⟨rfl, below_setRow S0.below (Nat.le_refl _) _⟩
set_option maxRecDepth 100000 in
set_option maxHeartbeats 4000000 in
theorem constants_c (w : World) : Calls Try.prog 45 #[] w fun e w' => e = .returned (.agg (wcells .u32 KL)) ∧ Below w.heap.size w w' := by
  have S0 := (St.nil w).alloc (.cells (wcells .u32 (List.replicate 64 0)) 82) _ rfl
  go_enter Try.func45, Try.ntmps45
  go_wp2_with (first
    | (refine wpList_buildTo rfl 82 _ rfl (some 1) rfl (wcells .u32 KL) (by kernel_rfl) ?_)
    | (refine wpList_store_row rfl 82 (.tmp 0) (.tmp 1) rfl w.heap.size (wcells .u32 KL) rfl rfl 82 (wcells .u32 (List.replicate 64 0)) (S0.get (List.Mem.head _)) (by kernel_rfl) (by kernel_rfl) (wcells_one _ _) ?_))
  refine bodyPost_ret (results_cell_row rfl _ _ w.heap.size 82 (wcells .u32 KL) (0, 0) _ rfl (setRow_heap _ _ _ _ _ _ (S0.get (List.Mem.head _))) Try.underlying82 rfl (by kernel_rfl)) rfl ?_
  exact ⟨rfl, below_setRow S0.below (Nat.le_refl _) _⟩
set_option maxRecDepth 100000 in
set_option maxHeartbeats 4000000 in
theorem keys_c (w : World) : Calls Try.prog 39 #[] w fun e w' => e = .returned (.agg (wcells .u64 KL)) ∧ Below w.heap.size w w' := by
  have S0 := (St.nil w).alloc (.cells (wcells .u64 (List.replicate 64 0)) 71) _ rfl
  go_enter Try.func39, Try.ntmps39
  go_wp2_with (first
    | (refine wpList_buildTo rfl 71 _ rfl (some 1) rfl (wcells .u64 KL) (by kernel_rfl) ?_)
    | (refine wpList_store_row rfl 71 (.tmp 0) (.tmp 1) rfl w.heap.size (wcells .u64 KL) rfl rfl 71 (wcells .u64 (List.replicate 64 0)) (S0.get (List.Mem.head _)) (by kernel_rfl) (by kernel_rfl) (wcells_one _ _) ?_))
  refine bodyPost_ret (results_cell_row rfl _ _ w.heap.size 71 (wcells .u64 KL) (0, 0) _ rfl (setRow_heap _ _ _ _ _ _ (S0.get (List.Mem.head _))) Try.underlying71 rfl (by kernel_rfl)) rfl ?_
  exact ⟨rfl, below_setRow S0.below (Nat.le_refl _) _⟩
end Go.Proofs.Ytbjcigokimieoaa
namespace Go.Proofs.Ytbjcigokimieoaa
open Go.RowKit
/-- n bytes lie in block b from o on: byte i is f i. -/
structure Bt (W : World) (b o n : Nat) (f : Nat → Nat) : Prop where
  lt : b < W.heap.size
  cell : ∀ i, i < n → W.cell? ⟨b, o + i, none⟩ = some (.int .u8 ((f i : Nat) : Int))
theorem Bt.keep {W W' : World} {b o n : Nat} {f : Nat → Nat} (h : Bt W b o n f) (hb : Below W.heap.size W W') : Bt W' b o n f :=
  ⟨Nat.lt_of_lt_of_le h.lt hb.size, fun i hi => (hb.cell (p := ⟨b, o + i, none⟩) h.lt).trans (h.cell i hi)⟩
/-- The value of a slice. -/
@[reducible] def bsv (b o n c : Nat) : Value := .slice (some ⟨b, o, none⟩) n c
theorem sch_prefix (f : Nat → Nat) (n : Nat) : ∀ m j, j < 16 + n → nth (sch f (n + m)) j = nth (sch f n) j
  | 0, _, _ => rfl
  | m + 1, j, h => by
    rw [← Nat.add_assoc, sch, nth_append_left _ _ _ (by rw [sch_len]; omega)]
    exact sch_prefix f n m j h
theorem sch_low (f : Nat → Nat) (j : Nat) (h : j < 16) : nth (sch f 48) j = word f j := by
  have := sch_prefix f 0 48 j (by omega)
  rw [Nat.zero_add] at this
  rw [this, sch, nth_range _ _ _ h]
theorem sch_high (f : Nat → Nat) (n : Nat) (h : n < 48) : nth (sch f 48) (n + 16) = (((nth (sch f 48) n + nth (sch f 48) (n + 9)) % 4294967296 + sg0 (nth (sch f 48) (n + 1))) % 4294967296 + sg1 (nth (sch f 48) (n + 14))) % 4294967296 := by
  have e : ∀ j, j < 16 + n → nth (sch f 48) j = nth (sch f n) j := fun j hj => by
    have := sch_prefix f n (48 - n) j hj
    rwa [show n + (48 - n) = 48 by omega] at this
  have e2 : nth (sch f 48) (n + 16) = nextw (sch f n) n := by
    have := sch_prefix f (n + 1) (48 - (n + 1)) (n + 16) (by omega)
    rw [show n + 1 + (48 - (n + 1)) = 48 by omega] at this
    rw [this, sch, nth_append_right _ _ _ (by rw [sch_len]; omega), sch_len, show n + 16 - (16 + n) = 0 by omega]
    rfl
  rw [e2, e n (by omega), e (n + 9) (by omega), e (n + 1) (by omega), e (n + 14) (by omega)]
  rfl
theorem or_join (a b j : Nat) (hb : b < 2 ^ j) (h : a * 2 ^ j + b < 4294967296) : bits .or .u32 ((a * 2 ^ j : Nat) : Int) (b : Int) = ((a * 2 ^ j + b : Nat) : Int) := by
  rw [or32 _ _ (by omega) (by omega), Nat.mul_comm a, Nat.two_pow_add_eq_or_of_lt hb]
theorem four_or (y0 y1 y2 y3 : Nat) (h0 : y0 < 256) (h1 : y1 < 256) (h2 : y2 < 256) (h3 : y3 < 256) :
    bits .or .u32 (bits .or .u32 (bits .or .u32 (IntKind.u32.wrap (IntKind.u32.wrap (y0 : Int) * 16777216)) (IntKind.u32.wrap (IntKind.u32.wrap (y1 : Int) * 65536))) (IntKind.u32.wrap (IntKind.u32.wrap (y2 : Int) * 256))) (IntKind.u32.wrap (y3 : Int)) = ((((y0 * 256 + y1) * 256 + y2) * 256 + y3 : Nat) : Int) := by
  have e0 : IntKind.u32.wrap (IntKind.u32.wrap (y0 : Int) * 16777216) = ((y0 * 2 ^ 24 : Nat) : Int) := by rw [IntKind.wrap_u32, IntKind.wrap_u32]; omega
  have e1 : IntKind.u32.wrap (IntKind.u32.wrap (y1 : Int) * 65536) = ((y1 * 65536 : Nat) : Int) := by rw [IntKind.wrap_u32, IntKind.wrap_u32]; omega
  have e2 : IntKind.u32.wrap (IntKind.u32.wrap (y2 : Int) * 256) = ((y2 * 256 : Nat) : Int) := by rw [IntKind.wrap_u32, IntKind.wrap_u32]; omega
  have e3 : IntKind.u32.wrap (y3 : Int) = (y3 : Int) := by rw [IntKind.wrap_u32]; omega
  rw [e0, e1, e2, e3, or_join y0 (y1 * 65536) 24 (by omega) (by omega)]
  rw [show y0 * 2 ^ 24 + y1 * 65536 = (y0 * 256 + y1) * 2 ^ 16 by omega, or_join (y0 * 256 + y1) (y2 * 256) 16 (by omega) (by omega)]
  rw [show (y0 * 256 + y1) * 2 ^ 16 + y2 * 256 = ((y0 * 256 + y1) * 256 + y2) * 2 ^ 8 by omega, or_join ((y0 * 256 + y1) * 256 + y2) y3 8 (by omega) (by omega)]
/-- What spread's loops hold: the first n words. -/
structure SpInv (w : World) (S : List Nat) (n : Nat) (wr : World) : Prop where
  below : Below w.heap.size w wr
  res : wr.heap[w.heap.size]? = some (.cells (wcells .u32 (List.replicate 64 0)) 82 (0, 0))
  row : ∃ l : List Nat, l.length = 64 ∧ (∀ j, j < n → nth l j = nth S j) ∧ wr.heap[w.heap.size + 1]? = some (.cells (wcells .u32 l) 82 (0, 0))
theorem SpInv.step {w wr : World} {S : List Nat} {n : Nat} (h : SpInv w S n wr) (hn : n < 64) : SpInv w S (n + 1) (wr.setCell ⟨w.heap.size + 1, n, none⟩ (.int .u32 ((nth S n : Nat) : Int))) := by
  obtain ⟨l, hl, hp, hr⟩ := h.row
  refine ⟨h.below.setCell (by show w.heap.size ≤ w.heap.size + 1; omega) _, ?_, l.set n (nth S n), by simpa using hl, fun j hj => ?_, set_w hr n _⟩
  · rw [heap_setCell_other _ _ _ _ (by show w.heap.size ≠ w.heap.size + 1; omega)]; exact h.res
  · rw [nth_set _ _ _ _ (by omega)]
    split
    · next e => rw [e]
    · exact hp j (by omega)
theorem below_drewQ {B : Nat} {a w : World} (h : Below B a w) (n : Nat) : Below B a (w.drewN n) := h.trans ⟨rfl, rfl, rfl, Nat.le_refl _, fun _ _ => rfl⟩
theorem SpInv.drewN {w wr : World} {S : List Nat} {n : Nat} (h : SpInv w S n wr) (q : Nat) : SpInv w S n (wr.drewN q) := ⟨below_drewQ h.below q, h.res, h.row⟩
theorem SpInv.drew {w wr : World} {S : List Nat} {n : Nat} (h : SpInv w S n wr) : SpInv w S n wr.drew := ⟨h.below.drew, h.res, h.row⟩
set_option maxRecDepth 100000 in
set_option maxHeartbeats 2000000 in
theorem spread_c (b o c : Nat) (f : Nat → Nat) (hf : ∀ i, f i < 256) (w : World) (h : Bt w b o 64 f) :
    Calls Try.prog 44 #[bsv b o 64 c] w fun e w' => e = .returned (.agg (wcells .u32 (sch f 48))) ∧ Below w.heap.size w w' := by
  have HB := Lib.hid h; have HF := Lib.hid hf
  have hlow := sch_low f; have hhigh := sch_high f; have hw32 := sch_w f hf 48; have hlen := sch_len f 48
  obtain ⟨S, hS⟩ : ∃ S, S = sch f 48 := ⟨_, rfl⟩
  rw [← hS] at hlow hhigh hw32 hlen ⊢
  have HLow := Lib.hid hlow; have HHigh := Lib.hid hhigh; have HW := Lib.hid hw32; have HLen := Lib.hid hlen
  clear hlow hhigh hw32 hlen hS
  have S0 := ((St.nil w).alloc (.cells (wcells .u32 (List.replicate 64 0)) 82) _ rfl).alloc (.cells (wcells .u32 (List.replicate 64 0)) 82) (w.heap.size + 1) (by simp)
  have I0 : Hid (SpInv w S 0 ((w.alloc (.cells (wcells .u32 (List.replicate 64 0)) 82)).alloc (.cells (wcells .u32 (List.replicate 64 0)) 82))) :=
    ⟨S0.below, S0.get (List.Mem.tail _ (List.Mem.head _)), _, List.length_replicate .., fun j hj => absurd hj (by omega), S0.get (List.Mem.head _)⟩
  clear h hf S0
  go_enter Try.func44, Try.ntmps44
  go_wp2
  go_loopw [8] (fun v wr => ∃ k : Nat, v = .int .i64 (k : Int) ∧ k ≤ 16 ∧ Hid (SpInv w S k wr)) (fun v _ => (16 - intOf v).toNat)
  case atStart => exact ⟨0, rfl, by omega, I0⟩
  case round =>
    obtain ⟨k, rfl, hk, HI⟩ := hrel
    by_cases h16 : k = 16
    · have hge : ¬ (k : Int) < 16 := by omega
      go_wp2
      go_loopw [5] (fun v wr => ∃ n i : Nat, v = .int .i64 (i : Int) ∧ n + 16 = i ∧ n ≤ 48 ∧ Hid (SpInv w S i wr)) (fun v _ => (64 - intOf v).toNat)
      case atStart => exact ⟨0, 16, rfl, rfl, by omega, by rw [← h16]; exact HI⟩
      case round =>
        obtain ⟨n, i, rfl, hni, hn, HJ⟩ := hrel
        by_cases h64 : n = 48
        · obtain rfl : i = 64 := by omega
          obtain ⟨l, hl, hp, hr⟩ := HJ.out.row
          obtain rfl : S = l := (nth_ext _ _ (by rw [hl, HLen.out]) (fun j hj => hp j (by omega))).symm
          have HR := Lib.hid hr
          clear hl hp hr hni hn h64
          go_wp2_with (first
            | (refine wpList_load_row rfl 82 (.tmp 3) rfl (w.heap.size + 1) rfl 82 (wcells .u32 S) (0, 0) _ HR.out Try.underlying82 rfl (by rw [wcells_size, HLen.out]; kernel_rfl) ?_)
            | (refine wpList_store_row rfl 82 (.tmp 2) (.tmp 88) rfl w.heap.size (wcells .u32 S) rfl rfl 82 (wcells .u32 (List.replicate 64 0)) HJ.out.res (by rw [wcells_size, HLen.out]; kernel_rfl) (by rw [wcells_size, wcells_size, HLen.out]; rfl) (wcells_one _ _) ?_))
          refine bodyPost_ret (results_cell_row rfl _ _ w.heap.size 82 (wcells .u32 S) (0, 0) _ rfl (setRow_heap _ _ _ _ _ _ HJ.out.res) Try.underlying82 rfl (by rw [wcells_size, HLen.out]; kernel_rfl)) rfl ?_
          exact ⟨rfl, below_setRow HJ.out.below (Nat.le_refl _) _⟩
        · have hlt : (i : Int) < 64 := by omega
          obtain ⟨l, hl, hp, hr⟩ := HJ.out.row
          have hrb := lt_of_block hr
          obtain ⟨i15, h15⟩ : ∃ j, n + 1 = j := ⟨_, rfl⟩
          obtain ⟨i2, h2⟩ : ∃ j, n + 14 = j := ⟨_, rfl⟩
          obtain ⟨i7, h7⟩ : ∃ j, n + 9 = j := ⟨_, rfl⟩
          have c15 := cell_w hr i15 (by omega); have c2 := cell_w hr i2 (by omega); have c16 := cell_w hr n (by omega); have c7 := cell_w hr i7 (by omega)
          have ci := cell_w hr i (by omega)
          have fz := frozen_of_row wr _ i _ _ hr
          have HS := HHigh.out n (by omega)
          rw [hp i15 (by omega)] at c15; rw [hp i2 (by omega)] at c2; rw [hp n (by omega)] at c16; rw [hp i7 (by omega)] at c7
          rw [h15, h2, h7, hni] at HS
          have SW := HW.out
          have b15 := SW i15; have b2 := SW i2; have b16 := SW n; have b7 := SW i7
          obtain ⟨x15, e15⟩ : ∃ x, nth S i15 = x := ⟨_, rfl⟩
          obtain ⟨x2, e2⟩ : ∃ x, nth S i2 = x := ⟨_, rfl⟩
          obtain ⟨x16, e16⟩ : ∃ x, nth S n = x := ⟨_, rfl⟩
          obtain ⟨x7, e7⟩ : ∃ x, nth S i7 = x := ⟨_, rfl⟩
          rw [e15, e2, e16, e7] at HS; rw [e15] at c15 b15; rw [e2] at c2 b2; rw [e16] at c16 b16; rw [e7] at c7 b7
          clear e15 e2 e16 e7 SW hp
          have T1 : Hid (∀ W, Calls Try.prog 46 #[.int .u32 (x15 : Int), .int .i64 7] W fun e w' => e = .returned (.int .u32 ((rotr x15 7 : Nat) : Int)) ∧ w' = W) := fun W => (turn_c x15 7 b15 (by decide) W).mono fun _ _ h => ⟨h.1, h.2.symm⟩
          have T2 : Hid (∀ W, Calls Try.prog 46 #[.int .u32 (x15 : Int), .int .i64 18] W fun e w' => e = .returned (.int .u32 ((rotr x15 18 : Nat) : Int)) ∧ w' = W) := fun W => (turn_c x15 18 b15 (by decide) W).mono fun _ _ h => ⟨h.1, h.2.symm⟩
          have T3 : Hid (∀ W, Calls Try.prog 46 #[.int .u32 (x2 : Int), .int .i64 17] W fun e w' => e = .returned (.int .u32 ((rotr x2 17 : Nat) : Int)) ∧ w' = W) := fun W => (turn_c x2 17 b2 (by decide) W).mono fun _ _ h => ⟨h.1, h.2.symm⟩
          have T4 : Hid (∀ W, Calls Try.prog 46 #[.int .u32 (x2 : Int), .int .i64 19] W fun e w' => e = .returned (.int .u32 ((rotr x2 19 : Nat) : Int)) ∧ w' = W) := fun W => (turn_c x2 19 b2 (by decide) W).mono fun _ _ h => ⟨h.1, h.2.symm⟩
          have j15 : IntKind.i64.wrap ((i : Int) - 15) = (i15 : Int) := by rw [IntKind.wrap_i64]; omega
          have j2 : IntKind.i64.wrap ((i : Int) - 2) = (i2 : Int) := by rw [IntKind.wrap_i64]; omega
          have j16 : IntKind.i64.wrap ((i : Int) - 16) = (n : Int) := by rw [IntKind.wrap_i64]; omega
          have j7 : IntKind.i64.wrap ((i : Int) - 7) = (i7 : Int) := by rw [IntKind.wrap_i64]; omega
          have u15 : (i15 : Int) < 64 := by omega
          have u2 : (i2 : Int) < 64 := by omega
          have u16 : (n : Int) < 64 := by omega
          have u7 : (i7 : Int) < 64 := by omega
          have v1 : IntKind.u32.wrap ((x16 : Int) + x7) = (((x16 + x7) % 4294967296 : Nat) : Int) := by rw [IntKind.wrap_u32]; omega
          have v2 : bits .xor .u32 ((rotr x15 7 : Nat) : Int) ((rotr x15 18 : Nat) : Int) = ((rotr x15 7 ^^^ rotr x15 18 : Nat) : Int) := xor32 _ _ (rotr_lt _ _) (rotr_lt _ _)
          have v3 : bits .xor .u32 ((rotr x15 7 ^^^ rotr x15 18 : Nat) : Int) ((x15 : Int) / 8) = ((sg0 x15 : Nat) : Int) := by
            rw [show (x15 : Int) / 8 = ((x15 / 8 : Nat) : Int) by omega]; exact xor32 _ _ (xor_lt (rotr_lt _ _) (rotr_lt _ _)) (by omega)
          have v4 : bits .xor .u32 ((rotr x2 17 : Nat) : Int) ((rotr x2 19 : Nat) : Int) = ((rotr x2 17 ^^^ rotr x2 19 : Nat) : Int) := xor32 _ _ (rotr_lt _ _) (rotr_lt _ _)
          have v5 : bits .xor .u32 ((rotr x2 17 ^^^ rotr x2 19 : Nat) : Int) ((x2 : Int) / 1024) = ((sg1 x2 : Nat) : Int) := by
            rw [show (x2 : Int) / 1024 = ((x2 / 1024 : Nat) : Int) by omega]; exact xor32 _ _ (xor_lt (rotr_lt _ _) (rotr_lt _ _)) (by omega)
          obtain ⟨r7, hr7⟩ : ∃ r, rotr x15 7 = r := ⟨_, rfl⟩
          obtain ⟨r18, hr18⟩ : ∃ r, rotr x15 18 = r := ⟨_, rfl⟩
          obtain ⟨r17, hr17⟩ : ∃ r, rotr x2 17 = r := ⟨_, rfl⟩
          obtain ⟨r19, hr19⟩ : ∃ r, rotr x2 19 = r := ⟨_, rfl⟩
          rw [hr7] at v2 v3 T1; rw [hr18] at v2 v3 T2; rw [hr17] at v4 v5 T3; rw [hr19] at v4 v5 T4
          obtain ⟨p1, hp1⟩ : ∃ r, r7 ^^^ r18 = r := ⟨_, rfl⟩
          obtain ⟨p2, hp2⟩ : ∃ r, r17 ^^^ r19 = r := ⟨_, rfl⟩
          rw [hp1] at v2 v3; rw [hp2] at v4 v5
          obtain ⟨s1, hs1⟩ : ∃ r, (x16 + x7) % 4294967296 = r := ⟨_, rfl⟩
          obtain ⟨q1, hq1⟩ : ∃ r, sg0 x15 = r := ⟨_, rfl⟩
          obtain ⟨q2, hq2⟩ : ∃ r, sg1 x2 = r := ⟨_, rfl⟩
          rw [hs1] at v1; rw [hq1] at v3; rw [hq2] at v5
          have v6 : IntKind.u32.wrap ((s1 : Int) + q1) = (((s1 + q1) % 4294967296 : Nat) : Int) := by rw [IntKind.wrap_u32]; omega
          obtain ⟨s2, hs2⟩ : ∃ r, (s1 + q1) % 4294967296 = r := ⟨_, rfl⟩
          rw [hs2] at v6
          have v7 : IntKind.u32.wrap ((s2 : Int) + q2) = (((s2 + q2) % 4294967296 : Nat) : Int) := by rw [IntKind.wrap_u32]; omega
          obtain ⟨x, hx⟩ : ∃ r, (s2 + q2) % 4294967296 = r := ⟨_, rfl⟩
          rw [hx] at v7
          have HX : Hid (nth S i = x) := by rw [HS, hs1, hq1, hs2, hq2, hx]; exact rfl
          clear HS hs1 hq1 hs2 hq2 hx hp1 hp2 hr7 hr18 hr17 hr19 b15 b2 b16 b7
          go_wp2
          go_quiet (fail)
          obtain ⟨wq, hwq⟩ : ∃ wq, wq = wr.drewN nq := ⟨_, rfl⟩
          have d16 : wq.cell? ⟨w.heap.size + 1, n, none⟩ = some (.int .u32 (x16 : Int)) := by rw [hwq]; exact c16
          have d7 : wq.cell? ⟨w.heap.size + 1, i7, none⟩ = some (.int .u32 (x7 : Int)) := by rw [hwq]; exact c7
          have di : wq.cell? ⟨w.heap.size + 1, i, none⟩ = some (.int .u32 ((nth l i : Nat) : Int)) := by rw [hwq]; exact ci
          have fq : wq.frozen? ⟨w.heap.size + 1, i, none⟩ = false := by rw [hwq]; exact fz
          have HQ : Hid (SpInv w S i wq) := by rw [hwq]; exact HJ.out.drewN nq
          rw [← hwq]
          clear hwq c16 c7 ci fz c15 c2 hr hrb HJ
          go_wp2
          go_still_tail 29, (by kernel_rfl)
          still_call (T1.out _)
          repeat still_step
          still_call (T2.out _)
          repeat still_step
          still_call (T3.out _)
          repeat still_step
          still_call (T4.out _)
          repeat still_step
          refine wpStill_nil ?_
          change wpList _ _ _ _ _ wq.drew
          go_wp2
          go_roundw
          case rel => exact ⟨n + 1, i + 1, by go_num, by omega, by omega, by have := (HQ.out.step (by omega)).drew; rw [HX.out] at this; exact this⟩
          case measure => simp [intOf]; omega
    · have hlt : (k : Int) < 16 := by omega
      have B1 := HB.out.keep HI.out.below
      have b0 := B1.cell (4 * k) (by omega); have b1 := B1.cell (4 * k + 1) (by omega); have b2 := B1.cell (4 * k + 2) (by omega); have b3 := B1.cell (4 * k + 3) (by omega)
      have f0 := HF.out (4 * k); have f1 := HF.out (4 * k + 1); have f2 := HF.out (4 * k + 2); have f3 := HF.out (4 * k + 3)
      obtain ⟨y0, hy0⟩ : ∃ y, f (4 * k) = y := ⟨_, rfl⟩
      obtain ⟨y1, hy1⟩ : ∃ y, f (4 * k + 1) = y := ⟨_, rfl⟩
      obtain ⟨y2, hy2⟩ : ∃ y, f (4 * k + 2) = y := ⟨_, rfl⟩
      obtain ⟨y3, hy3⟩ : ∃ y, f (4 * k + 3) = y := ⟨_, rfl⟩
      rw [hy0] at b0 f0; rw [hy1] at b1 f1; rw [hy2] at b2 f2; rw [hy3] at b3 f3
      obtain ⟨l, hl, hp, hr⟩ := HI.out.row
      have hrb := lt_of_block hr
      have hbb := B1.lt
      have c0 := cell_w hr k (by omega)
      have fz := frozen_of_row wr _ k _ _ hr
      have m0 : IntKind.i64.wrap (4 * (k : Int)) = ((4 * k : Nat) : Int) := by rw [IntKind.wrap_i64]; omega
      have m1 : IntKind.i64.wrap (((4 * k : Nat) : Int) + 1) = ((4 * k + 1 : Nat) : Int) := by rw [IntKind.wrap_i64]; omega
      have m2 : IntKind.i64.wrap (((4 * k : Nat) : Int) + 2) = ((4 * k + 2 : Nat) : Int) := by rw [IntKind.wrap_i64]; omega
      have m3 : IntKind.i64.wrap (((4 * k : Nat) : Int) + 3) = ((4 * k + 3 : Nat) : Int) := by rw [IntKind.wrap_i64]; omega
      obtain ⟨k0, hk0⟩ : ∃ j, 4 * k = j := ⟨_, rfl⟩
      rw [hk0] at m0 m1 m2 m3 b0 b1 b2 b3 hy0 hy1 hy2 hy3
      obtain ⟨k1, hk1⟩ : ∃ j, k0 + 1 = j := ⟨_, rfl⟩
      obtain ⟨k2, hk2⟩ : ∃ j, k0 + 2 = j := ⟨_, rfl⟩
      obtain ⟨k3, hk3⟩ : ∃ j, k0 + 3 = j := ⟨_, rfl⟩
      rw [hk1] at m1 b1 hy1; rw [hk2] at m2 b2 hy2; rw [hk3] at m3 b3 hy3
      have l0 : (k0 : Int) < 64 := by omega
      have l1 : (k1 : Int) < 64 := by omega
      have l2 : (k2 : Int) < 64 := by omega
      have l3 : (k3 : Int) < 64 := by omega
      have l4 : (k : Int) < 64 := by omega
      have hw := four_or y0 y1 y2 y3 f0 f1 f2 f3
      obtain ⟨x, hx⟩ : ∃ x, ((y0 * 256 + y1) * 256 + y2) * 256 + y3 = x := ⟨_, rfl⟩
      rw [hx] at hw
      have HX : Hid (nth S k = x) := by rw [HLow.out k (by omega), word, hk0, hk1, hk2, hk3, hy0, hy1, hy2, hy3]; exact hx
      clear B1 hp h16 hk0 hk1 hk2 hk3 hx hy0 hy1 hy2 hy3 f0 f1 f2 f3
      go_wp2
      go_still_tail 35, (by kernel_rfl)
      change wpList _ _ _ _ _ wr.drew
      go_wp2
      go_roundw
      case rel => exact ⟨k + 1, by go_num, by omega, by have := (HI.out.step (show k < 64 by omega)).drew; rw [HX.out] at this; exact this⟩
      case measure => simp [intOf]; omega
end Go.Proofs.Ytbjcigokimieoaa
namespace Go.Proofs.Ytbjcigokimieoaa
open Go.RowKit
theorem wp_put_madeG {o : Oper} {a : Act} {W : World} {K : Act → World → Prop} {Q : Exit → Act → World → Prop} (ty : TypeId) (x y : Operand) (ho : o.op = .store ty x y) (v : Value) (hx : a.eval x = v) (r : Array Value) (hy : a.eval y = .agg r)
    (T : TypeId) (n : Nat) (k : Bool) (z : Array Value) (hM : Made W T n v k z r) (hk : k = false) (hi : (Try.prog.info? ty).map (·.size) = some r.size) (hs : z.size = r.size) (h1 : r.all (·.oneCell') = true)
    (h : ∀ g, v = .pointer (some ⟨g, 0, none⟩) → n ≤ g → W.heap[g]? = some (.cells z T (0, 0)) → K (a.put o.dst undef) (W.setRow g r)) : o.wp Try.prog a W K Q := by
  obtain ⟨g, hv, h2, h3⟩ := hM
  subst hk
  exact wp_store_row ty x y ho g r (hx.trans hv) hy T z h3 hi hs h1 (h g hv h2 h3)
/-- What mix's first loop holds behind k rounds. -/
structure MixInv (w : World) (L : List (Nat × Obj)) (g7 : Nat) (S x : List Nat) (k : Nat) (wr : World) : Prop where
  st : St w L wr
  cur : wr.heap[g7]? = some (.cells (wcells .u32 (rnds S x k)) 77 (0, 0))
theorem not32 (e : Nat) (he : e < 4294967296) : bits .xor .u32 IntKind.u32.max (e : Int) = ((4294967295 - e : Nat) : Int) := by
  have hm : IntKind.u32.max = ((4294967295 : Nat) : Int) := by decide
  rw [hm, xor32 _ _ (by decide) he]
  congr 1
  apply Nat.eq_of_testBit_eq
  intro i
  have h1 : 4294967295 - e = 2 ^ 32 - (e + 1) := by omega
  have h2 : (4294967295 : Nat) = 2 ^ 32 - 1 := by decide
  rw [Nat.testBit_xor, h1, Nat.testBit_two_pow_sub_succ he, h2, Nat.testBit_two_pow_sub_one]
  by_cases hi : i < 32
  · simp [hi]
  · have : e.testBit i = false := Nat.testBit_lt_two_pow (Nat.lt_of_lt_of_le he (Nat.pow_le_pow_right Nat.two_pos (Nat.le_of_not_lt hi)))
    simp [hi, this]
theorem set_all8 (X : List Nat) (h : X.length = 8) (p0 p1 p2 p3 p4 p5 p6 p7 : Nat) : (((((((X.set 0 p0).set 1 p1).set 2 p2).set 3 p3).set 4 p4).set 5 p5).set 6 p6).set 7 p7 = [p0, p1, p2, p3, p4, p5, p6, p7] := by
  match X, h with
  | [_, _, _, _, _, _, _, _], _ => rfl
theorem MixInv.step {w wr : World} {L : List (Nat × Obj)} {g7 : Nat} {S x : List Nat} {k : Nat} (h : MixInv w L g7 S x k wr) (hL : ∀ q, q ∈ L → q.1 ≠ g7) (hg : w.heap.size ≤ g7) (hl : (rnds S x k).length = 8) {p0 p1 p2 p3 p4 p5 p6 p7 : Nat}
    (hs : rnds S x (k + 1) = [p0, p1, p2, p3, p4, p5, p6, p7]) : MixInv w L g7 S x (k + 1) ((((((((wr.setCell ⟨g7, 0, none⟩ (.int .u32 ((p0 : Nat) : Int))).setCell ⟨g7, 1, none⟩ (.int .u32 ((p1 : Nat) : Int))).setCell ⟨g7, 2, none⟩ (.int .u32 ((p2 : Nat) : Int))).setCell ⟨g7, 3, none⟩ (.int .u32 ((p3 : Nat) : Int))).setCell ⟨g7, 4, none⟩ (.int .u32 ((p4 : Nat) : Int))).setCell ⟨g7, 5, none⟩ (.int .u32 ((p5 : Nat) : Int))).setCell ⟨g7, 6, none⟩ (.int .u32 ((p6 : Nat) : Int))).setCell ⟨g7, 7, none⟩ (.int .u32 ((p7 : Nat) : Int))) := by
  have one : ∀ (W : World) (i : Nat) (v : Value), St w L W → St w L (W.setCell ⟨g7, i, none⟩ v) := fun W i v hS => ⟨hS.below.setCell hg _, fun p hp => (heap_setCell_other _ _ _ _ (hL p hp)).trans (hS.rows p hp)⟩
  refine ⟨one _ _ _ (one _ _ _ (one _ _ _ (one _ _ _ (one _ _ _ (one _ _ _ (one _ _ _ (one _ _ _ h.st))))))), ?_⟩
  rw [hs, ← set_all8 _ hl p0 p1 p2 p3 p4 p5 p6 p7]
  exact set_w (set_w (set_w (set_w (set_w (set_w (set_w (set_w h.cur 0 p0) 1 p1) 2 p2) 3 p3) 4 p4) 5 p5) 6 p6) 7 p7
/-- What its second holds. -/
structure SumInv (w : World) (L : List (Nat × Obj)) (x y : List Nat) (k : Nat) (wr : World) : Prop where
  st : St w L wr
  row : ∃ l : List Nat, l.length = 8 ∧ (∀ j, j < k → nth l j = (nth x j + nth y j) % 4294967296) ∧ (∀ j, k ≤ j → nth l j = nth x j) ∧ wr.heap[w.heap.size]? = some (.cells (wcells .u32 l) 77 (0, 0))
theorem SumInv.step {w wr : World} {L : List (Nat × Obj)} {x y : List Nat} {k : Nat} (h : SumInv w L x y k wr) (hL : ∀ q, q ∈ L → q.1 ≠ w.heap.size) (hk : k < 8) :
    SumInv w L x y (k + 1) (wr.setCell ⟨w.heap.size, k, none⟩ (.int .u32 (((nth x k + nth y k) % 4294967296 : Nat) : Int))).drew := by
  obtain ⟨l, hl, hp, hq, hr⟩ := h.row
  refine ⟨St.drew ⟨h.st.below.setCell (Nat.le_refl _) _, fun p hpm => ?_⟩, l.set k ((nth x k + nth y k) % 4294967296), by simpa using hl, fun j hj => ?_, fun j hj => ?_, set_w hr k _⟩
  · rw [heap_setCell_other _ _ _ _ (hL p hpm)]; exact h.st.rows p hpm
  · rw [nth_set _ _ _ _ (by omega)]
    split
    · next e => rw [e]
    · exact hp j (by omega)
  · rw [nth_set _ _ _ _ (by omega), if_neg (by omega)]; exact hq j (by omega)
set_option maxRecDepth 100000 in
set_option maxHeartbeats 4000000 in
theorem mix_c (b o c : Nat) (x : List Nat) (f : Nat → Nat) (hf : ∀ i, f i < 256) (hx8 : x.length = 8) (hxw : W32 x) (w : World) (h : Bt w b o 64 f) :
    Calls Try.prog 43 #[.agg (wcells .u32 x), bsv b o 64 c] w fun e w' => e = .returned (.agg (wcells .u32 (mixS x f))) ∧ Below w.heap.size w w' := by
  have CS : Hid (∀ W, Below w.heap.size w W → Calls Try.prog 44 #[bsv b o 64 c] W fun e w' => e = .returned (.agg (wcells .u32 (sch f 48))) ∧ Below W.heap.size W w') := fun W hb => spread_c b o c f hf W (h.keep hb)
  have HSL0 := sch_len f 48; have HSW0 := sch_w f hf 48
  have HM : Hid (mixS x f = addL x (rnds (sch f 48) x 64)) := rfl
  obtain ⟨S, hS⟩ : ∃ S, S = sch f 48 := ⟨_, rfl⟩
  rw [← hS] at CS HSL0 HSW0 HM
  have HX8 := Lib.hid hx8; have HXW := Lib.hid hxw; have HSL : Hid (S.length = 64) := HSL0; have HSW := Lib.hid HSW0
  rw [HM.out]
  have S0 := (((St.nil w).alloc (.cells (wcells .u32 x) 77) _ rfl).alloc (.cells (wcells .u32 (List.replicate 8 0)) 77) (w.heap.size + 1) (by simp))
  obtain ⟨L0, hL0⟩ : ∃ L, L = [(w.heap.size + 1, Obj.cells (wcells .u32 (List.replicate 8 0)) 77 (0, 0)), (w.heap.size, Obj.cells (wcells .u32 x) 77 (0, 0))] := ⟨_, rfl⟩
  rw [← hL0] at S0
  have m1 : (w.heap.size + 1, Obj.cells (wcells .u32 (List.replicate 8 0)) 77 (0, 0)) ∈ L0 := by rw [hL0]; exact List.Mem.head _
  have m0 : (w.heap.size, Obj.cells (wcells .u32 x) 77 (0, 0)) ∈ L0 := by rw [hL0]; exact List.Mem.tail _ (List.Mem.head _)
  have hlow : Hid (∀ q, q ∈ L0 → q.1 < w.heap.size + 2) := by
    rw [hL0]; intro q hq; simp at hq; rcases hq with rfl | rfl <;> simp
  have hbase : w.heap.size + 2 ≤ ((w.alloc (.cells (wcells .u32 x) 77)).alloc (.cells (wcells .u32 (List.replicate 8 0)) 77)).heap.size := by simp
  clear h hf hx8 hxw hS HSL0 HSW0 hL0 HM
  go_enter Try.func43, Try.ntmps43
  go_wp2_with fail
  obtain ⟨I, hI0⟩ : ∃ I : Array Value → (Nat → Bool) → Act → World → Prop, I = (fun T0 L act W => ∃ vq0 vq1 vq2 vq3 vq4 vq5 vq6, act = ⟨sets T0 [(14, vq0), (15, vq1), (16, vq2), (17, vq3), (5, vq4), (6, vq5), (7, vq6)], []⟩ ∧ St w L0 W ∧ w.heap.size + 2 ≤ W.heap.size ∧ (L 0 = true → vq0 = bsv b o 64 c) ∧ (L 1 = true → vq1 = .agg (wcells .u32 S)) ∧ (L 2 = true → vq2 = .agg (wcells .u32 KL)) ∧ (L 3 = true → vq3 = .agg (wcells .u32 x)) ∧ (L 4 = true → Made W 82 (w.heap.size + 2) vq4 (L 7) (wcells .u32 (List.replicate 64 0)) (wcells .u32 S)) ∧ (L 7 = true → L 4 = true) ∧ (L 5 = true → Made W 82 (w.heap.size + 2) vq5 (L 8) (wcells .u32 (List.replicate 64 0)) (wcells .u32 KL)) ∧ (L 8 = true → L 5 = true) ∧ (L 6 = true → Made W 77 (w.heap.size + 2) vq6 (L 9) (wcells .u32 (List.replicate 8 0)) (wcells .u32 x)) ∧ (L 9 = true → L 6 = true) ∧ (L 4 = true → L 5 = true → vq4 ≠ vq5) ∧ (L 4 = true → L 6 = true → vq4 ≠ vq6) ∧ (L 5 = true → L 6 = true → vq5 ≠ vq6)) := ⟨_, rfl⟩
  have HI := Lib.hid hI0; clear hI0
  refine wp_region_frame (by kernel_rfl) (by kernel_rfl) I (fun T0 hT0 => ⟨?start, ?step, ?fin⟩)
  case start =>
    rw [HI.out]
    exact ⟨T0.getD 14 undef, T0.getD 15 undef, T0.getD 16 undef, T0.getD 17 undef, T0.getD 5 undef, T0.getD 6 undef, T0.getD 7 undef, by (refine Eq.trans ?_ (congrArg (fun T => Act.mk T []) (sets_self [14, 15, 16, 17, 5, 6, 7] T0).symm)); rw [hT0], S0.drew, hbase, nofun, nofun, nofun, nofun, nofun, nofun, nofun, nofun, nofun, nofun, nofun, nofun, nofun⟩
  case step =>
    refine ⟨?_, ?_, ?_, ?_, ?_, ?_, ?_, ?_, ?_, ?_, trivial⟩
    · intro L act W hI hno hdep
      rw [HI.out] at hI
      obtain ⟨vq0, vq1, vq2, vq3, vq4, vq5, vq6, hact, hS, hsz, hq0, hq1, hq2, hq3, mq4, dq7_4, mq5, dq8_5, mq6, dq9_6, eq4_5, eq4_6, eq5_6⟩ := hI
      subst hact
      rw [hT0]; simp only [sets, List.setIfInBounds_toArray, List.set_cons_zero, List.set_cons_succ]
      go_simp
      rw [HI.out]
      exact ⟨bsv b o 64 c, vq1, vq2, vq3, vq4, vq5, vq6, by simp only [sets, List.setIfInBounds_toArray, List.set_cons_zero, List.set_cons_succ], hS, hsz, fun _ => rfl, keepI hq1 rfl, keepI hq2 rfl, keepI hq3 rfl, fun h => by rw [also_of (by decide)] at h ⊢; exact mq4 h, keepD dq7_4 rfl, fun h => by rw [also_of (by decide)] at h ⊢; exact mq5 h, keepD dq8_5 rfl, fun h => by rw [also_of (by decide)] at h ⊢; exact mq6 h, keepD dq9_6 rfl, fun h h' => eq4_5 (by rw [also_of (by decide)] at h; exact h) (by rw [also_of (by decide)] at h'; exact h'), fun h h' => eq4_6 (by rw [also_of (by decide)] at h; exact h) (by rw [also_of (by decide)] at h'; exact h'), fun h h' => eq5_6 (by rw [also_of (by decide)] at h; exact h) (by rw [also_of (by decide)] at h'; exact h')⟩
    · intro L act W hI hno hdep
      rw [HI.out] at hI
      obtain ⟨vq0, vq1, vq2, vq3, vq4, vq5, vq6, hact, hS, hsz, hq0, hq1, hq2, hq3, mq4, dq7_4, mq5, dq8_5, mq6, dq9_6, eq4_5, eq4_6, eq5_6⟩ := hI
      subst hact
      obtain rfl := hq0 (hdep ⟨0, .data⟩ (by simp) rfl)
      rw [hT0]; simp only [sets, List.setIfInBounds_toArray, List.set_cons_zero, List.set_cons_succ]
      go_simp
      refine (CS.out _ hS.below).mono ?_
      rintro e W2 ⟨rfl, hb⟩
      have hsz2 := Nat.le_trans hsz hb.size
      rw [HI.out]
      exact ⟨bsv b o 64 c, .agg (wcells .u32 S), vq2, vq3, vq4, vq5, vq6, by simp only [sets, List.setIfInBounds_toArray, List.set_cons_zero, List.set_cons_succ], (hS.keep hb), hsz2, fun _ => rfl, fun _ => rfl, keepI hq2 rfl, keepI hq3 rfl, fun h => by rw [also_of (by decide)] at h ⊢; exact (fun h => (mq4 h).keep hb) h, keepD dq7_4 rfl, fun h => by rw [also_of (by decide)] at h ⊢; exact (fun h => (mq5 h).keep hb) h, keepD dq8_5 rfl, fun h => by rw [also_of (by decide)] at h ⊢; exact (fun h => (mq6 h).keep hb) h, keepD dq9_6 rfl, fun h h' => eq4_5 (by rw [also_of (by decide)] at h; exact h) (by rw [also_of (by decide)] at h'; exact h'), fun h h' => eq4_6 (by rw [also_of (by decide)] at h; exact h) (by rw [also_of (by decide)] at h'; exact h'), fun h h' => eq5_6 (by rw [also_of (by decide)] at h; exact h) (by rw [also_of (by decide)] at h'; exact h')⟩
    · intro L act W hI hno hdep
      rw [HI.out] at hI
      obtain ⟨vq0, vq1, vq2, vq3, vq4, vq5, vq6, hact, hS, hsz, hq0, hq1, hq2, hq3, mq4, dq7_4, mq5, dq8_5, mq6, dq9_6, eq4_5, eq4_6, eq5_6⟩ := hI
      subst hact
      rw [hT0]; simp only [sets, List.setIfInBounds_toArray, List.set_cons_zero, List.set_cons_succ]
      go_simp
      refine (constants_c _).mono ?_
      rintro e W2 ⟨rfl, hb⟩
      have hsz2 := Nat.le_trans hsz hb.size
      rw [HI.out]
      exact ⟨vq0, vq1, .agg (wcells .u32 KL), vq3, vq4, vq5, vq6, by simp only [sets, List.setIfInBounds_toArray, List.set_cons_zero, List.set_cons_succ], (hS.keep hb), hsz2, keepI hq0 rfl, keepI hq1 rfl, fun _ => rfl, keepI hq3 rfl, fun h => by rw [also_of (by decide)] at h ⊢; exact (fun h => (mq4 h).keep hb) h, keepD dq7_4 rfl, fun h => by rw [also_of (by decide)] at h ⊢; exact (fun h => (mq5 h).keep hb) h, keepD dq8_5 rfl, fun h => by rw [also_of (by decide)] at h ⊢; exact (fun h => (mq6 h).keep hb) h, keepD dq9_6 rfl, fun h h' => eq4_5 (by rw [also_of (by decide)] at h; exact h) (by rw [also_of (by decide)] at h'; exact h'), fun h h' => eq4_6 (by rw [also_of (by decide)] at h; exact h) (by rw [also_of (by decide)] at h'; exact h'), fun h h' => eq5_6 (by rw [also_of (by decide)] at h; exact h) (by rw [also_of (by decide)] at h'; exact h')⟩
    · intro L act W hI hno hdep
      rw [HI.out] at hI
      obtain ⟨vq0, vq1, vq2, vq3, vq4, vq5, vq6, hact, hS, hsz, hq0, hq1, hq2, hq3, mq4, dq7_4, mq5, dq8_5, mq6, dq9_6, eq4_5, eq4_6, eq5_6⟩ := hI
      subst hact
      rw [hT0]; simp only [sets, List.setIfInBounds_toArray, List.set_cons_zero, List.set_cons_succ]
      with_reducible refine wp_load_row 77 (Operand.tmp 2) rfl w.heap.size ?_ 77 (wcells .u32 x) (0, 0) _ (hS.get m0) Try.underlying77 rfl (by rw [wcells_size, HX8.out]; kernel_rfl) ?_
      · rfl
      rw [HI.out]
      exact ⟨vq0, vq1, vq2, .agg (wcells .u32 x), vq4, vq5, vq6, by simp only [sets, Act.put, List.setIfInBounds_toArray, List.set_cons_zero, List.set_cons_succ], hS, hsz, keepI hq0 rfl, keepI hq1 rfl, keepI hq2 rfl, fun _ => rfl, fun h => by rw [also_of (by decide)] at h ⊢; exact mq4 h, keepD dq7_4 rfl, fun h => by rw [also_of (by decide)] at h ⊢; exact mq5 h, keepD dq8_5 rfl, fun h => by rw [also_of (by decide)] at h ⊢; exact mq6 h, keepD dq9_6 rfl, fun h h' => eq4_5 (by rw [also_of (by decide)] at h; exact h) (by rw [also_of (by decide)] at h'; exact h'), fun h h' => eq4_6 (by rw [also_of (by decide)] at h; exact h) (by rw [also_of (by decide)] at h'; exact h'), fun h h' => eq5_6 (by rw [also_of (by decide)] at h; exact h) (by rw [also_of (by decide)] at h'; exact h')⟩
    · intro L act W hI hno hdep
      rw [HI.out] at hI
      obtain ⟨vq0, vq1, vq2, vq3, vq4, vq5, vq6, hact, hS, hsz, hq0, hq1, hq2, hq3, mq4, dq7_4, mq5, dq8_5, mq6, dq9_6, eq4_5, eq4_6, eq5_6⟩ := hI
      subst hact
      have hsF := noF dq7_4 hno
      rw [hT0]; simp only [sets, List.setIfInBounds_toArray, List.set_cons_zero, List.set_cons_succ]
      go_simp
      rw [HI.out]
      exact ⟨vq0, vq1, vq2, vq3, (.pointer (some ⟨W.heap.size, 0, none⟩)), vq5, vq6, by simp only [sets, List.setIfInBounds_toArray, List.set_cons_zero, List.set_cons_succ], (hS.alloc0 _), (by simp at *; omega), keepI hq0 rfl, keepI hq1 rfl, keepI hq2 rfl, keepI hq3 rfl, fun _ => Made.new' W _ _ (by omega) _ _ (by simp [also, hsF]), keepD dq7_4 rfl, fun h => by rw [also_of (by decide)] at h ⊢; exact (fun h => (mq5 h).alloc _) h, keepD dq8_5 rfl, fun h => by rw [also_of (by decide)] at h ⊢; exact (fun h => (mq6 h).alloc _) h, keepD dq9_6 rfl, fun _ h e => (mq5 (by rw [also_of (by decide)] at h; exact h)).ne e.symm, fun _ h e => (mq6 (by rw [also_of (by decide)] at h; exact h)).ne e.symm, fun h h' => eq5_6 (by rw [also_of (by decide)] at h; exact h) (by rw [also_of (by decide)] at h'; exact h')⟩
    · intro L act W hI hno hdep
      rw [HI.out] at hI
      obtain ⟨vq0, vq1, vq2, vq3, vq4, vq5, vq6, hact, hS, hsz, hq0, hq1, hq2, hq3, mq4, dq7_4, mq5, dq8_5, mq6, dq9_6, eq4_5, eq4_6, eq5_6⟩ := hI
      subst hact
      have hsF := noF dq8_5 hno
      rw [hT0]; simp only [sets, List.setIfInBounds_toArray, List.set_cons_zero, List.set_cons_succ]
      go_simp
      rw [HI.out]
      exact ⟨vq0, vq1, vq2, vq3, vq4, (.pointer (some ⟨W.heap.size, 0, none⟩)), vq6, by simp only [sets, List.setIfInBounds_toArray, List.set_cons_zero, List.set_cons_succ], (hS.alloc0 _), (by simp at *; omega), keepI hq0 rfl, keepI hq1 rfl, keepI hq2 rfl, keepI hq3 rfl, fun h => by rw [also_of (by decide)] at h ⊢; exact (fun h => (mq4 h).alloc _) h, keepD dq7_4 rfl, fun _ => Made.new' W _ _ (by omega) _ _ (by simp [also, hsF]), keepD dq8_5 rfl, fun h => by rw [also_of (by decide)] at h ⊢; exact (fun h => (mq6 h).alloc _) h, keepD dq9_6 rfl, fun h _ e => (mq4 (by rw [also_of (by decide)] at h; exact h)).ne e, fun h h' => eq4_6 (by rw [also_of (by decide)] at h; exact h) (by rw [also_of (by decide)] at h'; exact h'), fun _ h e => (mq6 (by rw [also_of (by decide)] at h; exact h)).ne e.symm⟩
    · intro L act W hI hno hdep
      rw [HI.out] at hI
      obtain ⟨vq0, vq1, vq2, vq3, vq4, vq5, vq6, hact, hS, hsz, hq0, hq1, hq2, hq3, mq4, dq7_4, mq5, dq8_5, mq6, dq9_6, eq4_5, eq4_6, eq5_6⟩ := hI
      subst hact
      have hsF := noF dq9_6 hno
      rw [hT0]; simp only [sets, List.setIfInBounds_toArray, List.set_cons_zero, List.set_cons_succ]
      go_simp
      rw [HI.out]
      exact ⟨vq0, vq1, vq2, vq3, vq4, vq5, (.pointer (some ⟨W.heap.size, 0, none⟩)), by simp only [sets, List.setIfInBounds_toArray, List.set_cons_zero, List.set_cons_succ], (hS.alloc0 _), (by simp at *; omega), keepI hq0 rfl, keepI hq1 rfl, keepI hq2 rfl, keepI hq3 rfl, fun h => by rw [also_of (by decide)] at h ⊢; exact (fun h => (mq4 h).alloc _) h, keepD dq7_4 rfl, fun h => by rw [also_of (by decide)] at h ⊢; exact (fun h => (mq5 h).alloc _) h, keepD dq8_5 rfl, fun _ => Made.new' W _ _ (by omega) _ _ (by simp [also, hsF]), keepD dq9_6 rfl, fun h h' => eq4_5 (by rw [also_of (by decide)] at h; exact h) (by rw [also_of (by decide)] at h'; exact h'), fun h _ e => (mq4 (by rw [also_of (by decide)] at h; exact h)).ne e, fun h _ e => (mq5 (by rw [also_of (by decide)] at h; exact h)).ne e⟩
    · intro L act W hI hno hdep
      rw [HI.out] at hI
      obtain ⟨vq0, vq1, vq2, vq3, vq4, vq5, vq6, hact, hS, hsz, hq0, hq1, hq2, hq3, mq4, dq7_4, mq5, dq8_5, mq6, dq9_6, eq4_5, eq4_6, eq5_6⟩ := hI
      subst hact
      obtain rfl := hq1 (hdep ⟨1, .data⟩ (by simp) rfl)
      rw [hT0]; simp only [sets, List.setIfInBounds_toArray, List.set_cons_zero, List.set_cons_succ]
      with_reducible refine wp_put_madeG 82 (Operand.tmp 5) (Operand.tmp 15) rfl vq4 ?_ (wcells .u32 S) ?_ 82 _ _ _ (mq4 (hdep ⟨4, .data⟩ (by simp) rfl)) hno (by rw [wcells_size, HSL.out]; kernel_rfl) (by rw [wcells_size, wcells_size, HSL.out, List.length_replicate]) (wcells_one _ _) ?_
      · rfl
      · rfl
      intro gx hgx hgn hg
      subst hgx
      rw [HI.out]
      exact ⟨vq0, .agg (wcells .u32 S), vq2, vq3, (.pointer (some ⟨gx, 0, none⟩)), vq5, vq6, by simp only [sets, Act.put, List.setIfInBounds_toArray, List.set_cons_zero, List.set_cons_succ], (hS.setRow (by omega) (fun p hp => Nat.ne_of_lt (Nat.lt_of_lt_of_le (hlow.out p hp) hgn)) _), (by simpa [World.setRow] using hsz), keepI hq0 rfl, fun _ => rfl, keepI hq2 rfl, keepI hq3 rfl, fun _ => by rw [also_self]; exact Made.stored hg hgn _ _, fun _ => alsoD (hdep ⟨4, .data⟩ (by simp) rfl), fun h => by rw [also_of (by decide)] at h ⊢; exact (fun h => (mq5 h).other ((fun e => eq4_5 (hdep ⟨4, .phase⟩ (by simp) rfl) (hdep ⟨5, .phase⟩ (by simp) rfl) e.symm)) _) h, keepD dq8_5 rfl, fun h => by rw [also_of (by decide)] at h ⊢; exact (fun h => (mq6 h).other ((fun e => eq4_6 (hdep ⟨4, .phase⟩ (by simp) rfl) (hdep ⟨6, .phase⟩ (by simp) rfl) e.symm)) _) h, keepD dq9_6 rfl, fun h h' => eq4_5 (by rw [also_of (by decide)] at h; exact h) (by rw [also_of (by decide)] at h'; exact h'), fun h h' => eq4_6 (by rw [also_of (by decide)] at h; exact h) (by rw [also_of (by decide)] at h'; exact h'), fun h h' => eq5_6 (by rw [also_of (by decide)] at h; exact h) (by rw [also_of (by decide)] at h'; exact h')⟩
    · intro L act W hI hno hdep
      rw [HI.out] at hI
      obtain ⟨vq0, vq1, vq2, vq3, vq4, vq5, vq6, hact, hS, hsz, hq0, hq1, hq2, hq3, mq4, dq7_4, mq5, dq8_5, mq6, dq9_6, eq4_5, eq4_6, eq5_6⟩ := hI
      subst hact
      obtain rfl := hq2 (hdep ⟨2, .data⟩ (by simp) rfl)
      rw [hT0]; simp only [sets, List.setIfInBounds_toArray, List.set_cons_zero, List.set_cons_succ]
      with_reducible refine wp_put_madeG 82 (Operand.tmp 6) (Operand.tmp 16) rfl vq5 ?_ (wcells .u32 KL) ?_ 82 _ _ _ (mq5 (hdep ⟨5, .data⟩ (by simp) rfl)) hno (by rw [wcells_size, KL_len]; kernel_rfl) (by rw [wcells_size, wcells_size, KL_len, List.length_replicate]) (wcells_one _ _) ?_
      · rfl
      · rfl
      intro gx hgx hgn hg
      subst hgx
      rw [HI.out]
      exact ⟨vq0, vq1, .agg (wcells .u32 KL), vq3, vq4, (.pointer (some ⟨gx, 0, none⟩)), vq6, by simp only [sets, Act.put, List.setIfInBounds_toArray, List.set_cons_zero, List.set_cons_succ], (hS.setRow (by omega) (fun p hp => Nat.ne_of_lt (Nat.lt_of_lt_of_le (hlow.out p hp) hgn)) _), (by simpa [World.setRow] using hsz), keepI hq0 rfl, keepI hq1 rfl, fun _ => rfl, keepI hq3 rfl, fun h => by rw [also_of (by decide)] at h ⊢; exact (fun h => (mq4 h).other (eq4_5 (hdep ⟨4, .phase⟩ (by simp) rfl) (hdep ⟨5, .phase⟩ (by simp) rfl)) _) h, keepD dq7_4 rfl, fun _ => by rw [also_self]; exact Made.stored hg hgn _ _, fun _ => alsoD (hdep ⟨5, .data⟩ (by simp) rfl), fun h => by rw [also_of (by decide)] at h ⊢; exact (fun h => (mq6 h).other ((fun e => eq5_6 (hdep ⟨5, .phase⟩ (by simp) rfl) (hdep ⟨6, .phase⟩ (by simp) rfl) e.symm)) _) h, keepD dq9_6 rfl, fun h h' => eq4_5 (by rw [also_of (by decide)] at h; exact h) (by rw [also_of (by decide)] at h'; exact h'), fun h h' => eq4_6 (by rw [also_of (by decide)] at h; exact h) (by rw [also_of (by decide)] at h'; exact h'), fun h h' => eq5_6 (by rw [also_of (by decide)] at h; exact h) (by rw [also_of (by decide)] at h'; exact h')⟩
    · intro L act W hI hno hdep
      rw [HI.out] at hI
      obtain ⟨vq0, vq1, vq2, vq3, vq4, vq5, vq6, hact, hS, hsz, hq0, hq1, hq2, hq3, mq4, dq7_4, mq5, dq8_5, mq6, dq9_6, eq4_5, eq4_6, eq5_6⟩ := hI
      subst hact
      obtain rfl := hq3 (hdep ⟨3, .data⟩ (by simp) rfl)
      rw [hT0]; simp only [sets, List.setIfInBounds_toArray, List.set_cons_zero, List.set_cons_succ]
      with_reducible refine wp_put_madeG 77 (Operand.tmp 7) (Operand.tmp 17) rfl vq6 ?_ (wcells .u32 x) ?_ 77 _ _ _ (mq6 (hdep ⟨6, .data⟩ (by simp) rfl)) hno (by rw [wcells_size, HX8.out]; kernel_rfl) (by rw [wcells_size, wcells_size, HX8.out, List.length_replicate]) (wcells_one _ _) ?_
      · rfl
      · rfl
      intro gx hgx hgn hg
      subst hgx
      rw [HI.out]
      exact ⟨vq0, vq1, vq2, .agg (wcells .u32 x), vq4, vq5, (.pointer (some ⟨gx, 0, none⟩)), by simp only [sets, Act.put, List.setIfInBounds_toArray, List.set_cons_zero, List.set_cons_succ], (hS.setRow (by omega) (fun p hp => Nat.ne_of_lt (Nat.lt_of_lt_of_le (hlow.out p hp) hgn)) _), (by simpa [World.setRow] using hsz), keepI hq0 rfl, keepI hq1 rfl, keepI hq2 rfl, fun _ => rfl, fun h => by rw [also_of (by decide)] at h ⊢; exact (fun h => (mq4 h).other (eq4_6 (hdep ⟨4, .phase⟩ (by simp) rfl) (hdep ⟨6, .phase⟩ (by simp) rfl)) _) h, keepD dq7_4 rfl, fun h => by rw [also_of (by decide)] at h ⊢; exact (fun h => (mq5 h).other (eq5_6 (hdep ⟨5, .phase⟩ (by simp) rfl) (hdep ⟨6, .phase⟩ (by simp) rfl)) _) h, keepD dq8_5 rfl, fun _ => by rw [also_self]; exact Made.stored hg hgn _ _, fun _ => alsoD (hdep ⟨6, .data⟩ (by simp) rfl), fun h h' => eq4_5 (by rw [also_of (by decide)] at h; exact h) (by rw [also_of (by decide)] at h'; exact h'), fun h h' => eq4_6 (by rw [also_of (by decide)] at h; exact h) (by rw [also_of (by decide)] at h'; exact h'), fun h h' => eq5_6 (by rw [also_of (by decide)] at h; exact h) (by rw [also_of (by decide)] at h'; exact h')⟩
  case fin =>
    intro L act W hall hI
    rw [HI.out] at hI
    obtain ⟨vq0, vq1, vq2, vq3, vq4, vq5, vq6, hact, hS, hsz, hq0, hq1, hq2, hq3, mq4, dq7_4, mq5, dq8_5, mq6, dq9_6, eq4_5, eq4_6, eq5_6⟩ := hI
    subst hact
    obtain rfl := hq0 (hall 0 (by decide))
    obtain rfl := hq1 (hall 1 (by decide))
    obtain rfl := hq2 (hall 2 (by decide))
    obtain rfl := hq3 (hall 3 (by decide))
    obtain ⟨g5, rfl, g5n, g5r⟩ := mq4 (hall 4 (by decide))
    rw [hall 7 (by decide)] at g5r
    have g5h := Lib.hid (show W.heap[g5]? = some (.cells (wcells .u32 S) 82 (0, 0)) from g5r); clear g5r
    obtain ⟨g6, rfl, g6n, g6r⟩ := mq5 (hall 5 (by decide))
    rw [hall 8 (by decide)] at g6r
    have g6h := Lib.hid (show W.heap[g6]? = some (.cells (wcells .u32 KL) 82 (0, 0)) from g6r); clear g6r
    obtain ⟨g7, rfl, g7n, g7r⟩ := mq6 (hall 6 (by decide))
    rw [hall 9 (by decide)] at g7r
    have g7h := Lib.hid (show W.heap[g7]? = some (.cells (wcells .u32 x) 77 (0, 0)) from g7r); clear g7r
    clear hq0 hq1 hq2 hq3 mq4 dq7_4 mq5 dq8_5 mq6 dq9_6 eq4_5 eq4_6 eq5_6 hall
    rw [hT0]; simp only [sets, List.setIfInBounds_toArray, List.set_cons_zero, List.set_cons_succ]
    clear hT0 HI
    have hn57 : g5 ≠ g7 := by
      rintro rfl
      have := g5h.out.symm.trans g7h.out
      simp at this
    have hn67 : g6 ≠ g7 := by
      rintro rfl
      have := g6h.out.symm.trans g7h.out
      simp at this
    have h7lo : w.heap.size + 2 ≤ g7 := g7n
    obtain ⟨L1, hL1⟩ : ∃ L, L = (g5, Obj.cells (wcells .u32 S) 82 (0, 0)) :: (g6, Obj.cells (wcells .u32 KL) 82 (0, 0)) :: L0 := ⟨_, rfl⟩
    have S1 := (hS.cons g6h.out).cons g5h.out
    rw [← hL1] at S1
    have n5 : (g5, Obj.cells (wcells .u32 S) 82 (0, 0)) ∈ L1 := by rw [hL1]; exact List.Mem.head _
    have n6 : (g6, Obj.cells (wcells .u32 KL) 82 (0, 0)) ∈ L1 := by rw [hL1]; exact List.Mem.tail _ (List.Mem.head _)
    have n1 : (w.heap.size + 1, Obj.cells (wcells .u32 (List.replicate 8 0)) 77 (0, 0)) ∈ L1 := by rw [hL1]; exact List.Mem.tail _ (List.Mem.tail _ m1)
    have n0 : (w.heap.size, Obj.cells (wcells .u32 x) 77 (0, 0)) ∈ L1 := by rw [hL1]; exact List.Mem.tail _ (List.Mem.tail _ m0)
    have h01 : Hid (∀ q, q ∈ L0 → q ∈ L1) := by rw [hL1]; exact fun q hq => List.Mem.tail _ (List.Mem.tail _ hq)
    have hn7 : Hid (∀ q, q ∈ L1 → q.1 ≠ g7) := by
      rw [hL1]; intro q hq
      rcases List.mem_cons.1 hq with rfl | hq
      · exact hn57
      · rcases List.mem_cons.1 hq with rfl | hq
        · exact hn67
        · have := hlow.out q hq; omega
    clear hL1
    have I0 : Hid (MixInv w L1 g7 S x 0 W) := ⟨S1, g7h.out⟩
    go_wp2_with fail
    go_loopw [18] (fun v wr => ∃ k : Nat, v = .int .i64 (k : Int) ∧ k ≤ 64 ∧ Hid (MixInv w L1 g7 S x k wr)) (fun v _ => (64 - intOf v).toNat)
    case atStart => exact ⟨0, rfl, by omega, I0⟩
    case round =>
      obtain ⟨k, rfl, hk, HI⟩ := hrel
      by_cases h64 : k = 64
      · have hge : ¬ (k : Int) < 64 := by omega
        have hcur := HI.out.cur
        rw [h64] at hcur
        have hy8 := rnds_len S x HX8.out 64
        obtain ⟨y, hy⟩ : ∃ y, rnds S x 64 = y := ⟨_, rfl⟩
        rw [hy] at hcur hy8
        have HY := Lib.hid hy; have HY8 := Lib.hid hy8
        obtain ⟨L2, hL2⟩ : ∃ L, L = [(g7, Obj.cells (wcells .u32 y) 77 (0, 0)), (w.heap.size + 1, Obj.cells (wcells .u32 (List.replicate 8 0)) 77 (0, 0))] := ⟨_, rfl⟩
        have S2 : St w L2 wr := by
          rw [hL2]
          exact (HI.out.st.drop (L' := [(w.heap.size + 1, Obj.cells (wcells .u32 (List.replicate 8 0)) 77 (0, 0))]) (by intro q hq; rcases List.mem_cons.1 hq with rfl | hq; exact n1; cases hq)).cons hcur
        have p7 : (g7, Obj.cells (wcells .u32 y) 77 (0, 0)) ∈ L2 := by rw [hL2]; exact List.Mem.head _
        have p1 : (w.heap.size + 1, Obj.cells (wcells .u32 (List.replicate 8 0)) 77 (0, 0)) ∈ L2 := by rw [hL2]; exact List.Mem.tail _ (List.Mem.head _)
        have hn2 : Hid (∀ q, q ∈ L2 → q.1 ≠ w.heap.size) := by
          rw [hL2]; intro q hq
          rcases List.mem_cons.1 hq with rfl | hq
          · show g7 ≠ _; omega
          · rcases List.mem_cons.1 hq with rfl | hq
            · show w.heap.size + 1 ≠ _; omega
            · cases hq
        have J0 : Hid (SumInv w L2 x y 0 wr) := ⟨S2, x, HX8.out, fun j hj => absurd hj (by omega), fun _ _ => rfl, HI.out.st.get n0⟩
        clear hL2 hcur hy hy8 S2 h64
        go_wp2_with fail
        go_loopw [98] (fun v wr => ∃ j : Nat, v = .int .i64 (j : Int) ∧ j ≤ 8 ∧ Hid (SumInv w L2 x y j wr)) (fun v _ => (8 - intOf v).toNat)
        case atStart => exact ⟨0, rfl, by omega, J0⟩
        case round =>
          obtain ⟨j, rfl, hj, HJ⟩ := hrel
          by_cases h8 : j = 8
          · have hge8 : ¬ (j : Int) < 8 := by omega
            obtain ⟨l, hl, hp, hq, hr⟩ := HJ.out.row
            have hle : l = addL x y := nth_ext _ _ (by rw [hl, addL_len]) (fun i hi => by rw [hp i (by omega), addL, nth_range _ _ _ (by omega)])
            have HLE := Lib.hid hle
            have HL8 := Lib.hid hl
            have HR := Lib.hid hr
            have hz := HJ.out.st.get p1
            have HZ := Lib.hid hz
            clear hle hl hp hq hr h8 hz
            go_wp2_with (first
              | (refine wpList_load_row rfl 77 (.tmp 2) rfl w.heap.size rfl 77 (wcells .u32 l) (0, 0) _ HR.out Try.underlying77 rfl (by rw [wcells_size, HL8.out]; kernel_rfl) ?_)
              | (refine wpList_store_row rfl 77 (.tmp 4) (.tmp 110) rfl (w.heap.size + 1) (wcells .u32 l) rfl rfl 77 (wcells .u32 (List.replicate 8 0)) HZ.out (by rw [wcells_size, HL8.out]; kernel_rfl) (by rw [wcells_size, wcells_size, HL8.out]; rfl) (wcells_one _ _) ?_))
            refine bodyPost_ret (results_cell_row rfl _ _ (w.heap.size + 1) 77 (wcells .u32 l) (0, 0) _ rfl (setRow_heap _ _ _ _ _ _ HZ.out) Try.underlying77 rfl (by rw [wcells_size, HL8.out]; kernel_rfl)) rfl ?_
            exact ⟨by rw [HY.out, ← HLE.out], below_setRow HJ.out.st.below (by omega) _⟩
          · have hlt8 : (j : Int) < 8 := by omega
            obtain ⟨l, hl, hp, hq, hr⟩ := HJ.out.row
            have c1 := cell_w hr j (by omega)
            have c2 := cell_w (HJ.out.st.get p7) j (by rw [HY8.out]; omega)
            have fz := frozen_of_row wr _ j _ _ hr
            have hb1 := lt_of_block hr; have hb2 := lt_of_block (HJ.out.st.get p7)
            rw [hq j (Nat.le_refl _)] at c1
            have hstep := Lib.hid (HJ.out.step hn2.out (show j < 8 by omega))
            obtain ⟨xj, hxj⟩ : ∃ r, nth x j = r := ⟨_, rfl⟩
            obtain ⟨yj, hyj⟩ : ∃ r, nth y j = r := ⟨_, rfl⟩
            rw [hxj, hyj] at hstep; rw [hxj] at c1; rw [hyj] at c2
            have v1 : IntKind.u32.wrap ((xj : Int) + yj) = (((xj + yj) % 4294967296 : Nat) : Int) := by rw [IntKind.wrap_u32]; omega
            obtain ⟨s, hs⟩ : ∃ r, (xj + yj) % 4294967296 = r := ⟨_, rfl⟩
            rw [hs] at v1 hstep
            clear hl hp hq hr hxj hyj hs h8
            go_wp2
            go_still_tail 8, (by kernel_rfl)
            change wpList _ _ _ _ _ wr.drew
            go_wp2
            go_roundw
            case rel => exact ⟨j + 1, by go_num, by omega, hstep.out⟩
            case measure => simp [intOf]; omega
      · have hlt : (k : Int) < 64 := by omega
        have hXl := rnds_len S x HX8.out k; have hXw := rnds_w S x HXW.out k
        have hstep : rnds S x (k + 1) = rnd (nth KL k) (nth S k) (rnds S x k) := rfl
        have hcur := HI.out.cur
        obtain ⟨X, hX⟩ : ∃ X, rnds S x k = X := ⟨_, rfl⟩
        rw [hX] at hXl hXw hcur hstep
        have x0 := cell_w hcur 0 (by omega); have x1 := cell_w hcur 1 (by omega); have x2 := cell_w hcur 2 (by omega); have x3 := cell_w hcur 3 (by omega)
        have x4 := cell_w hcur 4 (by omega); have x5 := cell_w hcur 5 (by omega); have x6 := cell_w hcur 6 (by omega); have x7 := cell_w hcur 7 (by omega)
        have hk1 := cell_w (HI.out.st.get n6) k (by rw [KL_len]; omega)
        have hw1 := cell_w (HI.out.st.get n5) k (by rw [HSL.out]; omega)
        have bA := hXw 0; have bB := hXw 1; have bC := hXw 2; have bD := hXw 3; have bE := hXw 4; have bF := hXw 5; have bG := hXw 6; have bH := hXw 7
        have bk := KL_lt k; have bw := HSW.out k
        unfold rnd tt1 tt2 at hstep
        obtain ⟨a, ea⟩ : ∃ r, nth X 0 = r := ⟨_, rfl⟩; obtain ⟨b2, eb⟩ : ∃ r, nth X 1 = r := ⟨_, rfl⟩; obtain ⟨c2, ec⟩ : ∃ r, nth X 2 = r := ⟨_, rfl⟩; obtain ⟨d, ed⟩ : ∃ r, nth X 3 = r := ⟨_, rfl⟩
        obtain ⟨e, ee⟩ : ∃ r, nth X 4 = r := ⟨_, rfl⟩; obtain ⟨f2, ef⟩ : ∃ r, nth X 5 = r := ⟨_, rfl⟩; obtain ⟨g2, eg⟩ : ∃ r, nth X 6 = r := ⟨_, rfl⟩; obtain ⟨h2, eh⟩ : ∃ r, nth X 7 = r := ⟨_, rfl⟩
        obtain ⟨kk, ek⟩ : ∃ r, nth KL k = r := ⟨_, rfl⟩; obtain ⟨ww, ew⟩ : ∃ r, nth S k = r := ⟨_, rfl⟩
        rw [ea] at x0 bA hstep; rw [eb] at x1 bB hstep; rw [ec] at x2 bC hstep; rw [ed] at x3 bD hstep; rw [ee] at x4 bE hstep; rw [ef] at x5 bF hstep; rw [eg] at x6 bG hstep; rw [eh] at x7 bH hstep
        rw [ek] at hk1 bk hstep; rw [ew] at hw1 bw hstep
        clear ea eb ec ed ee ef eg eh ek ew hXw
        have Te6 : Hid (∀ W, Calls Try.prog 46 #[.int .u32 (e : Int), .int .i64 6] W fun e' w' => e' = .returned (.int .u32 ((rotr e 6 : Nat) : Int)) ∧ w' = W) := fun W => (turn_c e 6 bE (by decide) W).mono fun _ _ h => ⟨h.1, h.2.symm⟩
        have Te11 : Hid (∀ W, Calls Try.prog 46 #[.int .u32 (e : Int), .int .i64 11] W fun e' w' => e' = .returned (.int .u32 ((rotr e 11 : Nat) : Int)) ∧ w' = W) := fun W => (turn_c e 11 bE (by decide) W).mono fun _ _ h => ⟨h.1, h.2.symm⟩
        have Te25 : Hid (∀ W, Calls Try.prog 46 #[.int .u32 (e : Int), .int .i64 25] W fun e' w' => e' = .returned (.int .u32 ((rotr e 25 : Nat) : Int)) ∧ w' = W) := fun W => (turn_c e 25 bE (by decide) W).mono fun _ _ h => ⟨h.1, h.2.symm⟩
        have Ta2 : Hid (∀ W, Calls Try.prog 46 #[.int .u32 (a : Int), .int .i64 2] W fun e' w' => e' = .returned (.int .u32 ((rotr a 2 : Nat) : Int)) ∧ w' = W) := fun W => (turn_c a 2 bA (by decide) W).mono fun _ _ h => ⟨h.1, h.2.symm⟩
        have Ta13 : Hid (∀ W, Calls Try.prog 46 #[.int .u32 (a : Int), .int .i64 13] W fun e' w' => e' = .returned (.int .u32 ((rotr a 13 : Nat) : Int)) ∧ w' = W) := fun W => (turn_c a 13 bA (by decide) W).mono fun _ _ h => ⟨h.1, h.2.symm⟩
        have Ta22 : Hid (∀ W, Calls Try.prog 46 #[.int .u32 (a : Int), .int .i64 22] W fun e' w' => e' = .returned (.int .u32 ((rotr a 22 : Nat) : Int)) ∧ w' = W) := fun W => (turn_c a 22 bA (by decide) W).mono fun _ _ h => ⟨h.1, h.2.symm⟩
        have v1 : bits .xor .u32 ((rotr e 6 : Nat) : Int) ((rotr e 11 : Nat) : Int) = ((rotr e 6 ^^^ rotr e 11 : Nat) : Int) := xor32 _ _ (rotr_lt _ _) (rotr_lt _ _)
        have v2 : bits .xor .u32 ((rotr e 6 ^^^ rotr e 11 : Nat) : Int) ((rotr e 25 : Nat) : Int) = ((bg1 e : Nat) : Int) := xor32 _ _ (xor_lt (rotr_lt _ _) (rotr_lt _ _)) (rotr_lt _ _)
        have v3 : bits .and .u32 (e : Int) (f2 : Int) = ((e &&& f2 : Nat) : Int) := and32 _ _ bE bF
        have v4 : bits .and .u32 ((4294967295 - e : Nat) : Int) (g2 : Int) = (((4294967295 - e) &&& g2 : Nat) : Int) := and32 _ _ (by omega) bG
        have v5 : bits .xor .u32 ((e &&& f2 : Nat) : Int) (((4294967295 - e) &&& g2 : Nat) : Int) = ((chs e f2 g2 : Nat) : Int) := xor32 _ _ (and_lt _ bE) (and_lt _ (by omega))
        have v6 : bits .xor .u32 ((rotr a 2 : Nat) : Int) ((rotr a 13 : Nat) : Int) = ((rotr a 2 ^^^ rotr a 13 : Nat) : Int) := xor32 _ _ (rotr_lt _ _) (rotr_lt _ _)
        have v7 : bits .xor .u32 ((rotr a 2 ^^^ rotr a 13 : Nat) : Int) ((rotr a 22 : Nat) : Int) = ((bg0 a : Nat) : Int) := xor32 _ _ (xor_lt (rotr_lt _ _) (rotr_lt _ _)) (rotr_lt _ _)
        have v8 : bits .and .u32 (a : Int) (b2 : Int) = ((a &&& b2 : Nat) : Int) := and32 _ _ bA bB
        have v9 : bits .and .u32 (a : Int) (c2 : Int) = ((a &&& c2 : Nat) : Int) := and32 _ _ bA bC
        have v10 : bits .and .u32 (b2 : Int) (c2 : Int) = ((b2 &&& c2 : Nat) : Int) := and32 _ _ bB bC
        have v11 : bits .xor .u32 ((a &&& b2 : Nat) : Int) ((a &&& c2 : Nat) : Int) = (((a &&& b2) ^^^ (a &&& c2) : Nat) : Int) := xor32 _ _ (and_lt _ bA) (and_lt _ bA)
        have v12 : bits .xor .u32 (((a &&& b2) ^^^ (a &&& c2) : Nat) : Int) ((b2 &&& c2 : Nat) : Int) = ((maj a b2 c2 : Nat) : Int) := xor32 _ _ (xor_lt (and_lt _ bA) (and_lt _ bA)) (and_lt _ bB)
        have v13 : bits .xor .u32 IntKind.u32.max (e : Int) = ((4294967295 - e : Nat) : Int) := not32 e bE
        have v14 : bits .xor .u32 (if IntKind.u32.signed = true then -1 else IntKind.u32.max) (e : Int) = ((4294967295 - e : Nat) : Int) := not32 e bE
        obtain ⟨r6, hr6⟩ : ∃ r, rotr e 6 = r := ⟨_, rfl⟩; rw [hr6] at Te6 v1 v2
        obtain ⟨r11, hr11⟩ : ∃ r, rotr e 11 = r := ⟨_, rfl⟩; rw [hr11] at Te11 v1 v2
        obtain ⟨r25, hr25⟩ : ∃ r, rotr e 25 = r := ⟨_, rfl⟩; rw [hr25] at Te25 v2
        obtain ⟨r2, hr2⟩ : ∃ r, rotr a 2 = r := ⟨_, rfl⟩; rw [hr2] at Ta2 v6 v7
        obtain ⟨r13, hr13⟩ : ∃ r, rotr a 13 = r := ⟨_, rfl⟩; rw [hr13] at Ta13 v6 v7
        obtain ⟨r22, hr22⟩ : ∃ r, rotr a 22 = r := ⟨_, rfl⟩; rw [hr22] at Ta22 v7
        obtain ⟨p1, hp1⟩ : ∃ r, r6 ^^^ r11 = r := ⟨_, rfl⟩; rw [hp1] at v1 v2
        obtain ⟨B1, hB1⟩ : ∃ r, bg1 e = r := ⟨_, rfl⟩; rw [hB1] at v2 hstep
        obtain ⟨ne, hne⟩ : ∃ r, 4294967295 - e = r := ⟨_, rfl⟩; rw [hne] at v4 v5 v13 v14
        obtain ⟨ef, hef⟩ : ∃ r, e &&& f2 = r := ⟨_, rfl⟩; rw [hef] at v3 v5
        obtain ⟨ng, hng⟩ : ∃ r, ne &&& g2 = r := ⟨_, rfl⟩; rw [hng] at v4 v5
        obtain ⟨C1, hC1⟩ : ∃ r, chs e f2 g2 = r := ⟨_, rfl⟩; rw [hC1] at v5 hstep
        obtain ⟨p2, hp2⟩ : ∃ r, r2 ^^^ r13 = r := ⟨_, rfl⟩; rw [hp2] at v6 v7
        obtain ⟨A1, hA1⟩ : ∃ r, bg0 a = r := ⟨_, rfl⟩; rw [hA1] at v7 hstep
        obtain ⟨ab, hab⟩ : ∃ r, a &&& b2 = r := ⟨_, rfl⟩; rw [hab] at v8 v11 v12
        obtain ⟨ac, hac⟩ : ∃ r, a &&& c2 = r := ⟨_, rfl⟩; rw [hac] at v9 v11 v12
        obtain ⟨bc, hbc⟩ : ∃ r, b2 &&& c2 = r := ⟨_, rfl⟩; rw [hbc] at v10 v12
        obtain ⟨m1', hm1'⟩ : ∃ r, ab ^^^ ac = r := ⟨_, rfl⟩; rw [hm1'] at v11 v12
        obtain ⟨M1, hM1⟩ : ∃ r, maj a b2 c2 = r := ⟨_, rfl⟩; rw [hM1] at v12 hstep
        have ws1 : IntKind.u32.wrap ((h2 : Int) + B1) = (((h2 + B1) % 4294967296 : Nat) : Int) := by rw [IntKind.wrap_u32]; omega
        obtain ⟨s1, hs1⟩ : ∃ r, (h2 + B1) % 4294967296 = r := ⟨_, rfl⟩; rw [hs1] at ws1 hstep
        have ws2 : IntKind.u32.wrap ((s1 : Int) + C1) = (((s1 + C1) % 4294967296 : Nat) : Int) := by rw [IntKind.wrap_u32]; omega
        obtain ⟨s2, hs2⟩ : ∃ r, (s1 + C1) % 4294967296 = r := ⟨_, rfl⟩; rw [hs2] at ws2 hstep
        have ws3 : IntKind.u32.wrap ((s2 : Int) + kk) = (((s2 + kk) % 4294967296 : Nat) : Int) := by rw [IntKind.wrap_u32]; omega
        obtain ⟨s3, hs3⟩ : ∃ r, (s2 + kk) % 4294967296 = r := ⟨_, rfl⟩; rw [hs3] at ws3 hstep
        have wtt : IntKind.u32.wrap ((s3 : Int) + ww) = (((s3 + ww) % 4294967296 : Nat) : Int) := by rw [IntKind.wrap_u32]; omega
        obtain ⟨tt, htt⟩ : ∃ r, (s3 + ww) % 4294967296 = r := ⟨_, rfl⟩; rw [htt] at wtt hstep
        have wuu : IntKind.u32.wrap ((A1 : Int) + M1) = (((A1 + M1) % 4294967296 : Nat) : Int) := by rw [IntKind.wrap_u32]; omega
        obtain ⟨uu, huu⟩ : ∃ r, (A1 + M1) % 4294967296 = r := ⟨_, rfl⟩; rw [huu] at wuu hstep
        have wn0' : IntKind.u32.wrap ((tt : Int) + uu) = (((tt + uu) % 4294967296 : Nat) : Int) := by rw [IntKind.wrap_u32]; omega
        obtain ⟨n0', hn0'⟩ : ∃ r, (tt + uu) % 4294967296 = r := ⟨_, rfl⟩; rw [hn0'] at wn0' hstep
        have wn4' : IntKind.u32.wrap ((d : Int) + tt) = (((d + tt) % 4294967296 : Nat) : Int) := by rw [IntKind.wrap_u32]; omega
        obtain ⟨n4', hn4'⟩ : ∃ r, (d + tt) % 4294967296 = r := ⟨_, rfl⟩; rw [hn4'] at wn4' hstep
        have HST := Lib.hid hstep
        have HST0 : Hid (MixInv w L1 g7 S x k wr) := HI
        have h7b := lt_of_block hcur
        clear hstep hX hXl bA bB bC bD bE bF bG bH bk bw hr6 hr11 hr25 hr2 hr13 hr22 hp1 hB1 hne hef hng hC1 hp2 hA1 hab hac hbc hm1' hM1 hs1 hs2 hs3 htt huu hn0' hn4' hcur
        have g6b := lt_of_block (HI.out.st.get n6); have g5b := lt_of_block (HI.out.st.get n5)
        clear HST0
        go_wp2_with fail
        go_quiet (fail)
        obtain ⟨wa, hwa⟩ : ∃ v, v = wr.drewN nq := ⟨_, rfl⟩
        rw [← hwa]
        replace x0 : wa.cell? ⟨g7, 0, none⟩ = some (.int .u32 (a : Int)) := by rw [hwa]; exact x0
        replace x1 : wa.cell? ⟨g7, 1, none⟩ = some (.int .u32 (b2 : Int)) := by rw [hwa]; exact x1
        replace x2 : wa.cell? ⟨g7, 2, none⟩ = some (.int .u32 (c2 : Int)) := by rw [hwa]; exact x2
        replace x3 : wa.cell? ⟨g7, 3, none⟩ = some (.int .u32 (d : Int)) := by rw [hwa]; exact x3
        replace x4 : wa.cell? ⟨g7, 4, none⟩ = some (.int .u32 (e : Int)) := by rw [hwa]; exact x4
        replace x5 : wa.cell? ⟨g7, 5, none⟩ = some (.int .u32 (f2 : Int)) := by rw [hwa]; exact x5
        replace x6 : wa.cell? ⟨g7, 6, none⟩ = some (.int .u32 (g2 : Int)) := by rw [hwa]; exact x6
        replace x7 : wa.cell? ⟨g7, 7, none⟩ = some (.int .u32 (h2 : Int)) := by rw [hwa]; exact x7
        replace hk1 : wa.cell? ⟨g6, k, none⟩ = some (.int .u32 (kk : Int)) := by rw [hwa]; exact hk1
        replace hw1 : wa.cell? ⟨g5, k, none⟩ = some (.int .u32 (ww : Int)) := by rw [hwa]; exact hw1
        replace HI : Hid (MixInv w L1 g7 S x k wa) := by rw [hwa]; exact ⟨⟨below_drewQ HI.out.st.below nq, HI.out.st.rows⟩, HI.out.cur⟩
        clear hwa nq
        go_wp2_with fail
        go_quiet ((first | (go_at_call 46; exact Calls.quiet_of_same (Te6.out _)) | (go_at_call 46; exact Calls.quiet_of_same (Te11.out _)) | (go_at_call 46; exact Calls.quiet_of_same (Te25.out _))))
        obtain ⟨wb, hwb⟩ : ∃ v, v = wa.drewN nq := ⟨_, rfl⟩
        rw [← hwb]
        replace x0 : wb.cell? ⟨g7, 0, none⟩ = some (.int .u32 (a : Int)) := by rw [hwb]; exact x0
        replace x1 : wb.cell? ⟨g7, 1, none⟩ = some (.int .u32 (b2 : Int)) := by rw [hwb]; exact x1
        replace x2 : wb.cell? ⟨g7, 2, none⟩ = some (.int .u32 (c2 : Int)) := by rw [hwb]; exact x2
        replace x3 : wb.cell? ⟨g7, 3, none⟩ = some (.int .u32 (d : Int)) := by rw [hwb]; exact x3
        replace x4 : wb.cell? ⟨g7, 4, none⟩ = some (.int .u32 (e : Int)) := by rw [hwb]; exact x4
        replace x5 : wb.cell? ⟨g7, 5, none⟩ = some (.int .u32 (f2 : Int)) := by rw [hwb]; exact x5
        replace x6 : wb.cell? ⟨g7, 6, none⟩ = some (.int .u32 (g2 : Int)) := by rw [hwb]; exact x6
        replace x7 : wb.cell? ⟨g7, 7, none⟩ = some (.int .u32 (h2 : Int)) := by rw [hwb]; exact x7
        replace hk1 : wb.cell? ⟨g6, k, none⟩ = some (.int .u32 (kk : Int)) := by rw [hwb]; exact hk1
        replace hw1 : wb.cell? ⟨g5, k, none⟩ = some (.int .u32 (ww : Int)) := by rw [hwb]; exact hw1
        replace HI : Hid (MixInv w L1 g7 S x k wb) := by rw [hwb]; exact ⟨⟨below_drewQ HI.out.st.below nq, HI.out.st.rows⟩, HI.out.cur⟩
        clear hwb nq
        go_wp2_with fail
        go_quiet ((first | (go_at_call 46; exact Calls.quiet_of_same (Ta2.out _)) | (go_at_call 46; exact Calls.quiet_of_same (Ta13.out _)) | (go_at_call 46; exact Calls.quiet_of_same (Ta22.out _))))
        obtain ⟨wc, hwc⟩ : ∃ v, v = wb.drewN nq := ⟨_, rfl⟩
        rw [← hwc]
        replace x0 : wc.cell? ⟨g7, 0, none⟩ = some (.int .u32 (a : Int)) := by rw [hwc]; exact x0
        replace x1 : wc.cell? ⟨g7, 1, none⟩ = some (.int .u32 (b2 : Int)) := by rw [hwc]; exact x1
        replace x2 : wc.cell? ⟨g7, 2, none⟩ = some (.int .u32 (c2 : Int)) := by rw [hwc]; exact x2
        replace x3 : wc.cell? ⟨g7, 3, none⟩ = some (.int .u32 (d : Int)) := by rw [hwc]; exact x3
        replace x4 : wc.cell? ⟨g7, 4, none⟩ = some (.int .u32 (e : Int)) := by rw [hwc]; exact x4
        replace x5 : wc.cell? ⟨g7, 5, none⟩ = some (.int .u32 (f2 : Int)) := by rw [hwc]; exact x5
        replace x6 : wc.cell? ⟨g7, 6, none⟩ = some (.int .u32 (g2 : Int)) := by rw [hwc]; exact x6
        replace x7 : wc.cell? ⟨g7, 7, none⟩ = some (.int .u32 (h2 : Int)) := by rw [hwc]; exact x7
        replace hk1 : wc.cell? ⟨g6, k, none⟩ = some (.int .u32 (kk : Int)) := by rw [hwc]; exact hk1
        replace hw1 : wc.cell? ⟨g5, k, none⟩ = some (.int .u32 (ww : Int)) := by rw [hwc]; exact hw1
        replace HI : Hid (MixInv w L1 g7 S x k wc) := by rw [hwc]; exact ⟨⟨below_drewQ HI.out.st.below nq, HI.out.st.rows⟩, HI.out.cur⟩
        clear hwc nq
        have fz0 := frozen_of_row wc g7 0 _ _ HI.out.cur
        have fz1 := frozen_of_row wc g7 1 _ _ HI.out.cur
        have fz2 := frozen_of_row wc g7 2 _ _ HI.out.cur
        have fz3 := frozen_of_row wc g7 3 _ _ HI.out.cur
        have fz4 := frozen_of_row wc g7 4 _ _ HI.out.cur
        have fz5 := frozen_of_row wc g7 5 _ _ HI.out.cur
        have fz6 := frozen_of_row wc g7 6 _ _ HI.out.cur
        have fz7 := frozen_of_row wc g7 7 _ _ HI.out.cur
        go_wp2_with fail
        go_roundw
        case rel => exact ⟨k + 1, by go_num, by omega, HI.out.step hn7.out (by have := HI.out.st.below.size; omega) (rnds_len S x HX8.out k) HST.out⟩
        case measure => simp [intOf]; omega
end Go.Proofs.Ytbjcigokimieoaa
namespace Go.Proofs.Ytbjcigokimieoaa
open Go.RowKit
theorem u8_row : (Try.prog.info? 5).map (fun i => (i.zero, i.size, i.bytes)) = some (some (.int .u8 0), 1, 1) := by kernel_rfl
/-- Bytes as cells. -/
def bcells (l : List Nat) : List Value := l.map fun n => Value.int .u8 ((n : Nat) : Int)
theorem bcells_len (l : List Nat) : (bcells l).length = l.length := by simp [bcells]
theorem bcells_get (l : List Nat) (i : Nat) (h : i < l.length) : (bcells l)[i]? = some (.int .u8 ((nth l i : Nat) : Int)) := by
  simp only [bcells, List.getElem?_map, nth_get l i h, Option.map_some]
theorem bcells_one (l : List Nat) : ∀ u ∈ bcells l, u.oneCell' = true := by
  intro u hu; simp only [bcells, List.mem_map] at hu; obtain ⟨_, -, rfl⟩ := hu; rfl
/-- What a step leaves as it was: all old blocks but those of F. -/
structure Keeps (F : Nat → Prop) (W W' : World) : Prop where
  os : W'.os = W.os
  tape : W'.tape = W.tape
  output : W'.output = W.output
  size : W.heap.size ≤ W'.heap.size
  block : ∀ b, b < W.heap.size → ¬ F b → W'.heap[b]? = W.heap[b]?
theorem Keeps.refl (F : Nat → Prop) (W : World) : Keeps F W W := ⟨rfl, rfl, rfl, Nat.le_refl _, fun _ _ _ => rfl⟩
theorem Keeps.trans {F G : Nat → Prop} {A B C : World} (h : Keeps F A B) (k : Keeps G B C) (hG : ∀ b, G b → F b ∨ A.heap.size ≤ b) : Keeps F A C :=
  ⟨k.os.trans h.os, k.tape.trans h.tape, k.output.trans h.output, Nat.le_trans h.size k.size, fun b hb hf => (k.block b (Nat.lt_of_lt_of_le hb h.size) (fun hg => by rcases hG b hg with h1 | h1; exact hf h1; omega)).trans (h.block b hb hf)⟩
theorem Keeps.of_below {F : Nat → Prop} {W W' : World} (h : Below W.heap.size W W') : Keeps F W W' := ⟨h.os, h.tape, h.output, h.size, fun b hb _ => h.block b hb⟩
theorem Keeps.below {F : Nat → Prop} {W W' : World} (h : Keeps F W W') (hF : ∀ b, F b → W.heap.size ≤ b) : Below W.heap.size W W' := ⟨h.os, h.tape, h.output, h.size, fun b hb => h.block b hb (fun hf => by have := hF b hf; omega)⟩
theorem Keeps.drew {F : Nat → Prop} {W W' : World} (h : Keeps F W W') : Keeps F W W'.drew := ⟨h.os, h.tape, h.output, h.size, h.block⟩
theorem Keeps.setCell {F : Nat → Prop} {A W : World} (h : Keeps F A W) {g o : Nat} (v : Value) (hF : F g ∨ A.heap.size ≤ g) : Keeps F A (W.setCell ⟨g, o, none⟩ v) :=
  h.trans (G := fun b => b = g) (let k := Below.setCell (Below.refl 0 W) (p := ⟨g, o, none⟩) (Nat.zero_le _) v; ⟨k.os, k.tape, k.output, k.size, fun b _ hb => heap_setCell_other W _ _ _ hb⟩) (fun b hb => by subst hb; exact hF)
theorem Keeps.setRow {F : Nat → Prop} {A W : World} (h : Keeps F A W) {g : Nat} (c : Array Value) (hF : F g ∨ A.heap.size ≤ g) : Keeps F A (W.setRow g c) :=
  h.trans (G := fun b => b = g) ⟨rfl, rfl, rfl, by simp [World.setRow], fun b _ hb => setRow_other W g b c hb⟩ (fun b hb => by subst hb; exact hF)
theorem Keeps.alloc {F : Nat → Prop} {A W : World} (h : Keeps F A W) (o : Obj) : Keeps F A (W.alloc o) := h.trans (Keeps.of_below (F := F) ((Below.refl _ _).alloc (Nat.le_refl _) o)) (fun _ hb => Or.inl hb)
/-- A slice of bytes that may be appended to: where it lies. -/
def RestV (W : World) (v : Value) (bs : List Nat) : Prop :=
  (v = .slice none 0 0 ∧ bs = []) ∨ ∃ g off cap cur, v = .slice (some ⟨g, off, none⟩) bs.length cap ∧ W.heap[g]? = some (.cells cur 5 (0, 0)) ∧ bs.length ≤ cap ∧ off + cap ≤ cur.size ∧ (∀ i, i < bs.length → cur[off + i]? = some (.int .u8 ((nth bs i : Nat) : Int)))
theorem RestV.keep {W W' : World} {v : Value} {bs : List Nat} {F : Nat → Prop} (h : RestV W v bs) (k : Keeps F W W') (hF : ∀ g, v.ownBlock = some g → ¬ F g) : RestV W' v bs := by
  rcases h with h | ⟨g, off, cap, cur, rfl, hg, h1, h2, h3⟩
  · exact Or.inl h
  · exact Or.inr ⟨g, off, cap, cur, rfl, (k.block g (lt_of_block hg) (hF g rfl)).trans hg, h1, h2, h3⟩
theorem RestV.shape {W : World} {v : Value} {bs : List Nat} (h : RestV W v bs) : ∃ a c, v = .slice a bs.length c := by
  rcases h with ⟨rfl, rfl⟩ | ⟨g, off, cap, cur, rfl, -⟩
  · exact ⟨_, _, rfl⟩
  · exact ⟨_, _, rfl⟩
/-- A source of bytes. -/
abbrev SrcB (W : World) (x : Value) (ys : List Nat) : Prop := Src Try.prog 1 22 x ys.length (bcells ys) W
theorem srcB_slice (W : World) (b o c : Nat) (ys : List Nat) (h : ∀ i, i < ys.length → W.cell? ⟨b, o + i, none⟩ = some (.int .u8 ((nth ys i : Nat) : Int))) : SrcB W (.slice (some ⟨b, o, none⟩) ys.length c) ys :=
  Src.ofSlice (w := W) Try.underlying22 ⟨b, o, none⟩ _ c _ (by rw [bcells_len, Nat.mul_one]) (fun j u hj => by
    have hl : j < ys.length := by have := (List.getElem?_eq_some_iff.1 hj).1; rwa [bcells_len] at this
    rw [bcells_get ys j hl] at hj
    have hadd : (⟨b, o, none⟩ : Addr).add j = ⟨b, o + j, none⟩ := by unfold Addr.add; split <;> simp_all
    rw [hadd, h j hl]; exact hj) (bcells_one ys)
theorem srcB_nil (W : World) (c : Nat) : SrcB W (.slice none 0 c) [] := Src.ofNil W Try.underlying22 c
theorem RestV.src {W : World} {v : Value} {bs : List Nat} (h : RestV W v bs) : SrcB W v bs := by
  rcases h with ⟨rfl, rfl⟩ | ⟨g, off, cap, cur, rfl, hg, h1, h2, h3⟩
  · exact srcB_nil W 0
  · exact srcB_slice W g off cap bs (fun i hi => (cell_of_row _ _ _ _ _ _ hg).trans (h3 i hi))
theorem run_app_room (ty : TypeId) (i : TypeInfo) (hi : Try.prog.info? 5 = some i) (h1 : i.size = 1) (W : World) (g off n cap : Nat) (cur : Array Value) (hg : W.heap[g]? = some (.cells cur 5 (0, 0))) (x : Value) (m : Nat) (news : List Value) (hs : Src Try.prog 1 22 x m news W)
    (hroom : n + m ≤ cap) (hfit : off + cap ≤ cur.size) :
    (Builtin.append_ #[22, 22] ty #[.slice (some ⟨g, off, none⟩) n cap, x]).run Try.prog W = .ok (.slice (some ⟨g, off, none⟩) (n + m) cap) (W.setRow g (cur.toList.take (off + n) ++ news ++ cur.toList.drop (off + n + news.length)).toArray) := by
  have hl := hs.newsLen
  have hst := run_storeCells_at Try.prog g (off + n) 5 news 0 cur W hg (by omega) hs.one
  simp only [Nat.add_zero] at hst
  rcases hs.kind with ⟨e', hk⟩ | hk <;> simp [Builtin.append_, run_underlying Try.underlying22, sizeOf, typeInfo, hi, h1, hs.len, hroom, hs.cells, Addr.add_lit, hst]
theorem run_append_nothing' (ty : TypeId) (i : TypeInfo) (hi : Try.prog.info? 5 = some i) (h1 : i.size = 1) (W : World) (base : Option Addr) (n cap : Nat) (hle : n ≤ cap) (x : Value) (hs : Src Try.prog 1 22 x 0 [] W) :
    (Builtin.append_ #[22, 22] ty #[.slice base n cap, x]).run Try.prog W = .ok (.slice base n cap) W := by
  rcases hs.kind with ⟨e', hk⟩ | hk <;> cases base <;> simp [Builtin.append_, run_underlying Try.underlying22, sizeOf, typeInfo, hi, h1, hs.len, hle, hs.cells, storeCells]
/-- append(s, x...). -/
theorem run_app (ty : TypeId) (W : World) (v x : Value) (bs ys : List Nat) (hv : RestV W v bs) (hs : SrcB W x ys) (hn : bs.length + ys.length ≤ 70368744177664) :
    ∃ v' W', (Builtin.append_ #[22, 22] ty #[v, x]).run Try.prog W = .ok v' W' ∧ RestV W' v' (bs ++ ys) ∧ Keeps (fun b => v.ownBlock = some b) W W' ∧ (∀ b, v'.ownBlock = some b → v.ownBlock = some b ∨ b = W.heap.size) := by
  obtain ⟨i, hi, hz, h1, h2⟩ := info_parts u8_row
  have hsm : ∀ k, k = bs.length + ys.length → ((k : Nat) : Int) ≤ 9223372036854775807 := fun k hk => by omega
  -- a new row
  have grow : ∀ (base : Option Addr) (cap : Nat), v = .slice base bs.length cap → cap < bs.length + ys.length → (Builtin.firstCells i.size bs.length (.slice base bs.length cap)).run Try.prog W.drew = .ok (bcells bs).toArray W.drew →
      ∃ v' W', (Builtin.append_ #[22, 22] ty #[v, x]).run Try.prog W = .ok v' W' ∧ RestV W' v' (bs ++ ys) ∧ Keeps (fun b => v.ownBlock = some b) W W' ∧ (∀ b, v'.ownBlock = some b → v.ownBlock = some b ∨ b = W.heap.size) := by
    rintro base cap rfl hlt hold
    have hfit : Builtin.nextslicecap (bs.length + ys.length) cap * i.bytes ≤ 281474976710656 := growslice_fits (by omega) (by rw [h2]; omega)
    have hr := run_append_grow_src (P := Try.prog) (w := W) 22 22 ty 5 i (.int .u8 0) Try.underlying22 hi hz base bs.length cap (bcells bs) hold x ys.length (bcells ys) (by rw [h1]; exact hs) hlt (hsm _ rfl) hfit
    have hge := grownCap_ge W (bs.length + ys.length) cap 5
    generalize grownCap W (bs.length + ys.length) cap 5 = gc at hr hge
    refine ⟨_, _, hr, Or.inr ⟨W.heap.size, 0, gc, _, by rw [List.length_append], heap_alloc_new W.drew _, by rw [List.length_append]; exact hge, ?_, ?_⟩, ?_, ?_⟩
    · simp only [Array.size_append, List.size_toArray, List.length_append, bcells_len, size_zeroCells]
      simp [Value.cells]; omega
    · intro k hk
      rw [Nat.zero_add, Array.getElem?_append_left (by simpa [bcells_len] using hk), List.getElem?_toArray]
      rw [show bcells bs ++ bcells ys = bcells (bs ++ ys) by simp [bcells]]
      exact bcells_get _ k hk
    · exact Keeps.of_below ((Below.refl _ _).drew.alloc (Nat.le_refl _) _)
    · intro b hb; simp [Value.ownBlock] at hb; exact Or.inr hb.symm
  rcases hv with ⟨rfl, rfl⟩ | ⟨g, off, cap, cur, rfl, hg, hc1, hc2, hc3⟩
  · by_cases hm : ys.length = 0
    · obtain rfl : ys = [] := List.eq_nil_of_length_eq_zero hm
      have hr := run_append_nothing' ty i hi h1 W none 0 0 (Nat.le_refl _) x hs
      exact ⟨_, _, hr, Or.inl ⟨rfl, rfl⟩, Keeps.refl _ _, fun b hb => Or.inl hb⟩
    · exact grow none 0 rfl (by simp; omega) (run_firstCells_none (P := Try.prog) W.drew i.size 0 0 0)
  · by_cases hroom : bs.length + ys.length ≤ cap
    · have hr := run_app_room ty i hi h1 W g off bs.length cap cur hg x ys.length (bcells ys) hs hroom hc2
      refine ⟨_, _, hr, Or.inr ⟨g, off, cap, _, by rw [List.length_append], setRow_heap W g cur _ _ _ hg, by rw [List.length_append]; exact hroom, ?_, ?_⟩, ?_, ?_⟩
      · simp only [List.size_toArray, List.length_append, List.length_take, List.length_drop, Array.length_toList, bcells_len]; omega
      · intro k hk
        rw [List.getElem?_toArray]
        have htl : (List.take (off + bs.length) cur.toList).length = off + bs.length := by simp; omega
        by_cases hkb : k < bs.length
        · rw [List.append_assoc, List.getElem?_append_left (by rw [htl]; omega), List.getElem?_take, if_pos (by omega), nth_append_left _ _ _ hkb]
          have := hc3 k hkb
          simpa using this
        · rw [List.length_append] at hk
          rw [List.append_assoc, List.getElem?_append_right (by rw [htl]; omega), htl, List.getElem?_append_left (by rw [bcells_len]; omega), show off + k - (off + bs.length) = k - bs.length by omega, bcells_get ys _ (by omega), nth_append_right _ _ _ (by omega)]
      · exact (Keeps.refl _ W).setRow _ (Or.inl rfl)
      · intro b hb; exact Or.inl hb
    · refine grow (some ⟨g, off, none⟩) cap rfl (by omega) ?_
      rw [h1]
      exact run_firstCells_some (P := Try.prog) W.drew 1 bs.length ⟨g, off, none⟩ bs.length cap (bcells bs) (by rw [bcells_len, Nat.mul_one]) (fun j u hj => by
        have hl : j < bs.length := by have := (List.getElem?_eq_some_iff.1 hj).1; rwa [bcells_len] at this
        rw [bcells_get bs j hl] at hj
        have hadd : (⟨g, off, none⟩ : Addr).add j = ⟨g, off + j, none⟩ := by unfold Addr.add; split <;> simp_all
        rw [hadd, ← hj]
        exact (cell_of_row W g (off + j) cur _ _ hg).trans (hc3 j hl))
/-- The operation, where it stands in a list. -/
theorem wpList_app {ops : Array Oper} {rest : List Oper} {o : Oper} {a : Act} {Q : Exit → Act → World → Prop} {W : World} (hgd : o.guard = none) (s x : Operand)
    (ho : o.op = .call { callee := .builtin .append, args := #[s, x], argTypes := #[22, 22] }) (v xv : Value) (hsv : a.eval s = v) (hxv : a.eval x = xv) (bs ys : List Nat) (hv : RestV W v bs) (hs : SrcB W xv ys) (hn : bs.length + ys.length ≤ 70368744177664)
    (h : ∀ v' W', RestV W' v' (bs ++ ys) → Keeps (fun b => v.ownBlock = some b) W W' → (∀ b, v'.ownBlock = some b → v.ownBlock = some b ∨ b = W.heap.size) → wpList Try.prog ops Q rest (a.put o.dst v') W') : wpList Try.prog ops Q (o :: rest) a W := by
  refine wpList_plain hgd fun K hK => ?_
  obtain ⟨v', W', hr, h2, h3, h4⟩ := run_app o.type W v xv bs ys hv hs hn
  unfold Oper.wp execOp
  simp only [ho, resolve, invoke, builtin, Sem.run_bind, Sem.run_pure, Result.andThen_ok, List.map_toArray, List.map_cons, List.map_nil, hsv, hxv, hr]
  exact hK _ _ (h v' W' h2 h3 h4)
end Go.Proofs.Ytbjcigokimieoaa
namespace Go.Proofs.Ytbjcigokimieoaa
open Go.RowKit
theorem keeps_cell {F : Nat → Prop} {W W' : World} (k : Keeps F W W') {b o : Nat} (hb : b < W.heap.size) (hF : ¬ F b) : W'.cell? ⟨b, o, none⟩ = W.cell? ⟨b, o, none⟩ := World.cell?_of_block (a := ⟨b, o, none⟩) (k.block b hb hF)
theorem outB_at8 (fs : List Nat) (i j : Nat) (hi : i < 8) (hj : j < 4) : nth (outB fs) (4 * i + j) = nth fs i / 2 ^ (24 - 8 * j) % 256 := by
  unfold outB
  rw [nth_range _ _ _ (by omega), show (4 * i + j) / 4 = i by omega, show (4 * i + j) % 4 = j by omega]
theorem xor64 (a b : Nat) (ha : a < 4294967296) (hb : b < 4294967296) : bits .xor .u64 (a : Int) (b : Int) = ((a ^^^ b : Nat) : Int) := by
  have hx : a ^^^ b < 2 ^ 32 := Nat.xor_lt_two_pow (n := 32) (by omega) (by omega)
  have h1 : (BitVec.ofInt 64 (a : Int)).toNat = a := by
    rw [BitVec.ofInt_natCast, BitVec.toNat_ofNat]; exact Nat.mod_eq_of_lt (by omega)
  have h2 : (BitVec.ofInt 64 (b : Int)).toNat = b := by
    rw [BitVec.ofInt_natCast, BitVec.toNat_ofNat]; exact Nat.mod_eq_of_lt (by omega)
  show IntKind.u64.wrap ((BitVec.ofInt 64 (a : Int) ^^^ BitVec.ofInt 64 (b : Int)).toNat : Int) = _
  rw [BitVec.toNat_xor, h1, h2, IntKind.wrap_u64]
  omega
theorem and64 (a b : Nat) (ha : a < 4294967296) (hb : b < 4294967296) : bits .and .u64 (a : Int) (b : Int) = ((a &&& b : Nat) : Int) := by
  have hx : a &&& b < 2 ^ 32 := Nat.and_lt_two_pow (n := 32) _ (by omega)
  have h1 : (BitVec.ofInt 64 (a : Int)).toNat = a := by
    rw [BitVec.ofInt_natCast, BitVec.toNat_ofNat]; exact Nat.mod_eq_of_lt (by omega)
  have h2 : (BitVec.ofInt 64 (b : Int)).toNat = b := by
    rw [BitVec.ofInt_natCast, BitVec.toNat_ofNat]; exact Nat.mod_eq_of_lt (by omega)
  show IntKind.u64.wrap ((BitVec.ofInt 64 (a : Int) &&& BitVec.ofInt 64 (b : Int)).toNat : Int) = _
  rw [BitVec.toNat_and, h1, h2, IntKind.wrap_u64]
  omega
theorem u64_row1 : (Try.prog.info? 69).map (fun i => (i.zero, i.size, i.bytes)) = some (some (.int .u64 0), 1, 8) := by kernel_rfl
/-- A slice of words that the call owns, from block B on. -/
structure OwnW (W : World) (B g n c : Nat) (ws : List Nat) : Prop where
  own : W.ownsRow B 69 1 (bsv g 0 n c) n (ws.map fun d => Value.int .u64 ((d : Nat) : Int))
  len : ws.length = n
theorem OwnW.base {W : World} {B g n c : Nat} {ws : List Nat} (h : OwnW W B g n c ws) : B ≤ g ∧ g < W.heap.size := h.own.lt g rfl
theorem OwnW.cell {W : World} {B g n c : Nat} {ws : List Nat} (h : OwnW W B g n c ws) (i : Nat) (hi : i < n) : W.cell? ⟨g, i, none⟩ = some (.int .u64 ((nth ws i : Nat) : Int)) := by
  have hl := h.len
  have e := h.own.cells (g := g) rfl i (.int .u64 ((nth ws i : Nat) : Int)) (by
    rw [List.getElem?_map, nth_get ws i (by omega)]; rfl)
  have hadd : (⟨g, 0, none⟩ : Addr).add i = ⟨g, 0 + i, none⟩ := by unfold Addr.add; split <;> simp_all
  rw [hadd, Nat.zero_add] at e; exact e
theorem OwnW.keep {W W' : World} {B g n c : Nat} {ws : List Nat} (h : OwnW W B g n c ws) (hb : Below W.heap.size W W') : OwnW W' B g n c ws :=
  ⟨h.own.kept (row := none) ⟨hb.os, hb.tape, hb.output, hb.size, fun k hk _ => hb.block k hk⟩ (.inr (by simp [Value.ownBlock])), h.len⟩
theorem OwnW.start (W : World) (B : Nat) (hB : B ≤ W.heap.size) : OwnW (W.alloc (.cells #[] 69)) B W.heap.size 0 0 [] :=
  ⟨World.ownsRow_made W #[] 0 hB (by decide) rfl, rfl⟩
/-- append(s, d). -/
theorem wpList_pushw {ops : Array Oper} {rest : List Oper} {o : Oper} {a : Act} {Q : Exit → Act → World → Prop} {W : World} (hgd : o.guard = none) (s x : Operand)
    (ho : o.op = .call { callee := .builtin .append, args := #[s, x], argTypes := #[73, 73] })
    (B g n c d b : Nat) (ws : List Nat) (hs : a.eval s = bsv g 0 n c) (hx : a.eval x = .slice (some ⟨b, 0, none⟩) 1 1) (hown : OwnW W B g n c ws) (hn : n ≤ 1000000) (hb : W.cell? ⟨b, 0, none⟩ = some (.int .u64 ((d : Nat) : Int)))
    (h : ∀ g' c' W', OwnW W' B g' (n + 1) c' (ws ++ [d]) → Below B W W' → wpList Try.prog ops Q rest (a.put o.dst (bsv g' 0 (n + 1) c')) W') : wpList Try.prog ops Q (o :: rest) a W := by
  obtain ⟨i0, hi, hz0, hz1, hz2⟩ := info_parts u64_row1
  refine wpList_append_own W hgd s x 73 ho B 69 i0 (.int .u64 0) 1 8 Try.underlying73 hi hz0 hz1 hz2 rfl (by decide) (bsv g 0 n c) n _ hs hown.own ⟨b, 0, none⟩ 1 1 [.int .u64 ((d : Nat) : Int)] hx rfl ?_ ?_ ?_ ?_ ?_ ?_
  · intro j u hj
    cases j with
    | zero => simp at hj; subst hj; exact hb
    | succ j => simp at hj
  · simp [Value.oneCell']
  · simp only [maxLen]; omega
  · omega
  · have := hown.base; omega
  · intro v' W' ho' hg hnil
    rcases ho'.2 with ⟨rfl, h0⟩ | ⟨g', cap, cur, rfl, hr⟩
    · omega
    · refine h g' cap W' ⟨by rw [List.map_append]; exact ho', by simp [hown.len]⟩ ?_
      exact (Below.refl B W).grown hg (by have := hown.base; omega) (fun k hk => by simp [Value.ownBlock] at hk; have := hown.base; omega)
/-- The same in a region that draws its order. -/
theorem step_pushw {ops : Array Oper} {o : Oper} {a : Act} {W : World} {K : Act → World → Prop} {Q : Exit → Act → World → Prop} {E : Prop} (hgd : o.guard = none) (s x : Operand)
    (ho : o.op = .call { callee := .builtin .append, args := #[s, x], argTypes := #[73, 73] })
    (B g n c d b : Nat) (ws : List Nat) (hs : a.eval s = bsv g 0 n c) (hx : a.eval x = .slice (some ⟨b, 0, none⟩) 1 1) (hown : OwnW W B g n c ws) (hn : n ≤ 1000000) (hb : W.cell? ⟨b, 0, none⟩ = some (.int .u64 ((d : Nat) : Int)))
    (h : ∀ g' c' W', OwnW W' B g' (n + 1) c' (ws ++ [d]) → Below B W W' → K (a.put o.dst (bsv g' 0 (n + 1) c')) W') : if Region.wanted o (yielded ops a.tmps) = true then Oper.wp Try.prog o a W K Q else E := by
  obtain ⟨i0, hi, hz0, hz1, hz2⟩ := info_parts u64_row1
  refine step_append_lies W hgd s x 73 ho B 69 i0 (.int .u64 0) 1 8 Try.underlying73 hi hz0 hz1 hz2 rfl (by decide) (bsv g 0 n c) n _ hs hown.own ⟨b, 0, none⟩ 1 1 [.int .u64 ((d : Nat) : Int)] hx rfl ?_ ?_ (by decide) ?_ ?_ ?_ _ rfl ?_
  · intro j u hj
    cases j with
    | zero => simp at hj; subst hj; exact hb
    | succ j => simp at hj
  · intro u hu; simp at hu; subst hu; rfl
  · simp only [maxLen]; omega
  · omega
  · have := hown.base; omega
  · intro g' cap W' ho' hg _ _
    refine h g' cap W' ⟨by rw [List.map_append]; exact ho', by simp [hown.len]⟩ ?_
    exact (Below.refl B W).grown hg (by have := hown.base; omega) (fun k hk => by simp [Value.ownBlock] at hk; have := hown.base; omega)
set_option maxRecDepth 100000 in
set_option maxHeartbeats 4000000 in
/-- Loop 2: a piece's words. -/
theorem rsum_l2 (v2 v3 v5 : Value) (gp op np cp at' g0 c0 B : Nat) (pd : List Nat) (hpd : ∀ y, y ∈ pd → y < 256) (hat : at' + 64 ≤ np) (hnp : np ≤ 2000000000) (hBp : gp < B) (a : Act) (w : World) (hfr : Fr 254 a [(2, v2), (3, v3), (4, bsv gp op np cp), (5, v5), (6, (.int .i64 (at' : Int))), (7, bsv g0 0 0 c0), (8, .int .i64 0)])
    (hc : ∀ i, i < np → w.cell? ⟨gp, op + i, none⟩ = some (.int .u8 ((nth pd i : Nat) : Int))) (ho : OwnW w B g0 0 c0 []) :
    (piece Try.f34 2).wp Try.prog (fun e a' w' => e = .normal ∧ ∃ g c, Hid (Fr 254 a' [(2, v2), (3, v3), (4, bsv gp op np cp), (5, v5), (6, (.int .i64 (at' : Int))), (7, bsv g 0 64 c)]) ∧ Hid (OwnW w' B g 64 c (sch (fun i => nth pd (at' + i)) 48)) ∧ Hid (Below B w w')) a w := by
  have HC := Lib.hid hc
  have hf : ∀ i, nth pd (at' + i) < 256 := fun i => by
    by_cases hi : at' + i < pd.length
    · exact hpd _ (nth_mem pd _ hi)
    · rw [nth_end pd _ (by omega)]; decide
  have HF := Lib.hid hf
  have hlow := sch_low (fun i => nth pd (at' + i)); have hhigh := sch_high (fun i => nth pd (at' + i)); have hw32 := sch_w (fun i => nth pd (at' + i)) hf 48; have hlen := sch_len (fun i => nth pd (at' + i)) 48
  obtain ⟨S, hS⟩ : ∃ S, S = sch (fun i => nth pd (at' + i)) 48 := ⟨_, rfl⟩
  rw [← hS] at hlow hhigh hw32 hlen ⊢
  have HLow := Lib.hid hlow; have HHigh := Lib.hid hhigh; have HW := Lib.hid hw32; have HLen := Lib.hid hlen
  have I0 : Hid (OwnW w B g0 0 c0 (S.take 0) ∧ Below B w w) := ⟨by rw [List.take_zero]; exact ho, Below.refl _ _⟩
  obtain ⟨T, hT⟩ : ∃ T, T = a.tmps := ⟨_, rfl⟩
  have hk := hfr.known
  have hlit := hfr.act
  rw [← hT] at hk hlit
  have k2 : slot T 2 = v2 := hk (2, v2) (by simp)
  have k3 : slot T 3 = v3 := hk (3, v3) (by simp)
  have k4 : slot T 4 = bsv gp op np cp := hk (4, bsv gp op np cp) (by simp)
  have k5 : slot T 5 = v5 := hk (5, v5) (by simp)
  have k6 : slot T 6 = (.int .i64 (at' : Int)) := hk (6, (.int .i64 (at' : Int))) (by simp)
  have k7 : slot T 7 = bsv g0 0 0 c0 := hk (7, bsv g0 0 0 c0) (by simp)
  have k8 : slot T 8 = .int .i64 0 := hk (8, .int .i64 0) (by simp)
  have hlit2 : a = ⟨#[slot T 0, slot T 1, slot T 2, slot T 3, slot T 4, slot T 5, slot T 6, slot T 7, slot T 8, slot T 9, slot T 10, slot T 11, slot T 12, slot T 13, slot T 14, slot T 15, slot T 16, slot T 17, slot T 18, slot T 19, slot T 20, slot T 21, slot T 22, slot T 23, slot T 24, slot T 25, slot T 26, slot T 27, slot T 28, slot T 29, slot T 30, slot T 31, slot T 32, slot T 33, slot T 34, slot T 35, slot T 36, slot T 37, slot T 38, slot T 39, slot T 40, slot T 41, slot T 42, slot T 43, slot T 44, slot T 45, slot T 46, slot T 47, slot T 48, slot T 49, slot T 50, slot T 51, slot T 52, slot T 53, slot T 54, slot T 55, slot T 56, slot T 57, slot T 58, slot T 59, slot T 60, slot T 61, slot T 62, slot T 63, slot T 64, slot T 65, slot T 66, slot T 67, slot T 68, slot T 69, slot T 70, slot T 71, slot T 72, slot T 73, slot T 74, slot T 75, slot T 76, slot T 77, slot T 78, slot T 79, slot T 80, slot T 81, slot T 82, slot T 83, slot T 84, slot T 85, slot T 86, slot T 87, slot T 88, slot T 89, slot T 90, slot T 91, slot T 92, slot T 93, slot T 94, slot T 95, slot T 96, slot T 97, slot T 98, slot T 99, slot T 100, slot T 101, slot T 102, slot T 103, slot T 104, slot T 105, slot T 106, slot T 107, slot T 108, slot T 109, slot T 110, slot T 111, slot T 112, slot T 113, slot T 114, slot T 115, slot T 116, slot T 117, slot T 118, slot T 119, slot T 120, slot T 121, slot T 122, slot T 123, slot T 124, slot T 125, slot T 126, slot T 127, slot T 128, slot T 129, slot T 130, slot T 131, slot T 132, slot T 133, slot T 134, slot T 135, slot T 136, slot T 137, slot T 138, slot T 139, slot T 140, slot T 141, slot T 142, slot T 143, slot T 144, slot T 145, slot T 146, slot T 147, slot T 148, slot T 149, slot T 150, slot T 151, slot T 152, slot T 153, slot T 154, slot T 155, slot T 156, slot T 157, slot T 158, slot T 159, slot T 160, slot T 161, slot T 162, slot T 163, slot T 164, slot T 165, slot T 166, slot T 167, slot T 168, slot T 169, slot T 170, slot T 171, slot T 172, slot T 173, slot T 174, slot T 175, slot T 176, slot T 177, slot T 178, slot T 179, slot T 180, slot T 181, slot T 182, slot T 183, slot T 184, slot T 185, slot T 186, slot T 187, slot T 188, slot T 189, slot T 190, slot T 191, slot T 192, slot T 193, slot T 194, slot T 195, slot T 196, slot T 197, slot T 198, slot T 199, slot T 200, slot T 201, slot T 202, slot T 203, slot T 204, slot T 205, slot T 206, slot T 207, slot T 208, slot T 209, slot T 210, slot T 211, slot T 212, slot T 213, slot T 214, slot T 215, slot T 216, slot T 217, slot T 218, slot T 219, slot T 220, slot T 221, slot T 222, slot T 223, slot T 224, slot T 225, slot T 226, slot T 227, slot T 228, slot T 229, slot T 230, slot T 231, slot T 232, slot T 233, slot T 234, slot T 235, slot T 236, slot T 237, slot T 238, slot T 239, slot T 240, slot T 241, slot T 242, slot T 243, slot T 244, slot T 245, slot T 246, slot T 247, slot T 248, slot T 249, slot T 250, slot T 251, slot T 252, slot T 253], []⟩ := hlit
  rw [k2, k3, k4, k5, k6, k7, k8] at hlit2
  subst hlit2
  clear hfr hk hlit hc hf hlow hhigh hw32 hlen hS ho hT hpd k2 k3 k4 k5 k6 k7 k8
  conv => arg 2; whnf
  go_wp2
  go_loopw [7, 8] (fun s7 s8 wr => ∃ i g c : Nat, s8 = .int .i64 (i : Int) ∧ i ≤ 64 ∧ s7 = bsv g 0 i c ∧ Hid (OwnW wr B g i c (S.take i) ∧ Below B w wr)) (fun _ s8 _ => (64 - intOf s8).toNat)
  case atStart => exact ⟨0, g0, c0, rfl, by omega, rfl, I0⟩
  case round =>
    obtain ⟨i, g, c, rfl, hi, rfl, HI⟩ := hrel
    by_cases h64 : i = 64
    · have hge : ¬ (i : Int) < 64 := by omega
      subst h64
      have HO : Hid (OwnW wr B g 64 c S) := by
        have := HI.out.1; rwa [List.take_of_length_le (by rw [HLen.out]; decide)] at this
      have HB : Hid (Below B w wr) := HI.out.2
      go_wp2_with fail
      exact ⟨g, c, fr_of rfl rfl, HO⟩
    · have hlt : (i : Int) < 64 := by omega
      by_cases h16 : i < 16
      · have hlt16 : (i : Int) < 16 := by omega
        have CW : Hid (∀ j, j < np → wr.cell? ⟨gp, op + j, none⟩ = some (.int .u8 ((nth pd j : Nat) : Int))) := fun j hj => (HI.out.2.cell (p := ⟨gp, op + j, none⟩) hBp).trans (HC.out j hj)
        have c0' := CW.out (at' + (4 * i)) (by omega); have c1' := CW.out (at' + (4 * i + 1)) (by omega); have c2' := CW.out (at' + (4 * i + 2)) (by omega); have c3' := CW.out (at' + (4 * i + 3)) (by omega)
        have f0 := HF.out (4 * i); have f1 := HF.out (4 * i + 1); have f2 := HF.out (4 * i + 2); have f3 := HF.out (4 * i + 3)
        have HX0 : nth S i = ((nth pd (at' + (4 * i)) * 256 + nth pd (at' + (4 * i + 1))) * 256 + nth pd (at' + (4 * i + 2))) * 256 + nth pd (at' + (4 * i + 3)) := HLow.out i h16
        obtain ⟨y0, e0⟩ : ∃ y, nth pd (at' + (4 * i)) = y := ⟨_, rfl⟩
        obtain ⟨y1, e1⟩ : ∃ y, nth pd (at' + (4 * i + 1)) = y := ⟨_, rfl⟩
        obtain ⟨y2, e2⟩ : ∃ y, nth pd (at' + (4 * i + 2)) = y := ⟨_, rfl⟩
        obtain ⟨y3, e3⟩ : ∃ y, nth pd (at' + (4 * i + 3)) = y := ⟨_, rfl⟩
        rw [e0, e1, e2, e3] at HX0
        rw [e0] at c0' f0; rw [e1] at c1' f1; rw [e2] at c2' f2; rw [e3] at c3' f3
        obtain ⟨k0, hk0⟩ : ∃ j, 4 * i = j := ⟨_, rfl⟩
        have m0 : IntKind.i64.wrap (4 * (i : Int)) = (k0 : Int) := by rw [IntKind.wrap_i64]; omega
        rw [hk0] at c0' c1' c2' c3'
        obtain ⟨p0, hp0⟩ : ∃ j, at' + k0 = j := ⟨_, rfl⟩
        obtain ⟨p1, hp1⟩ : ∃ j, at' + (k0 + 1) = j := ⟨_, rfl⟩
        obtain ⟨p2, hp2⟩ : ∃ j, at' + (k0 + 2) = j := ⟨_, rfl⟩
        obtain ⟨p3, hp3⟩ : ∃ j, at' + (k0 + 3) = j := ⟨_, rfl⟩
        rw [hp0] at c0'; rw [hp1] at c1'; rw [hp2] at c2'; rw [hp3] at c3'
        have m1 : IntKind.i64.wrap ((at' : Int) + k0) = (p0 : Int) := by rw [IntKind.wrap_i64]; omega
        have m2 : IntKind.i64.wrap ((p0 : Int) + 1) = (p1 : Int) := by rw [IntKind.wrap_i64]; omega
        have m3 : IntKind.i64.wrap ((p0 : Int) + 2) = (p2 : Int) := by rw [IntKind.wrap_i64]; omega
        have m4 : IntKind.i64.wrap ((p0 : Int) + 3) = (p3 : Int) := by rw [IntKind.wrap_i64]; omega
        have m5 : (p3 : Int) < np := by omega
        have m6 : (p0 : Int) < np := by omega
        have m7 : (p1 : Int) < np := by omega
        have m8 : (p2 : Int) < np := by omega
        obtain ⟨h1, eh1⟩ : ∃ j, 256 * y0 = j := ⟨_, rfl⟩
        obtain ⟨n2, en2⟩ : ∃ j, h1 + y1 = j := ⟨_, rfl⟩
        obtain ⟨h2, eh2⟩ : ∃ j, 256 * n2 = j := ⟨_, rfl⟩
        obtain ⟨n3, en3⟩ : ∃ j, h2 + y2 = j := ⟨_, rfl⟩
        obtain ⟨h3, eh3⟩ : ∃ j, 256 * n3 = j := ⟨_, rfl⟩
        obtain ⟨x, ex⟩ : ∃ j, h3 + y3 = j := ⟨_, rfl⟩
        have w1 : IntKind.u64.wrap (256 * (y0 : Int)) = (h1 : Int) := by rw [IntKind.wrap_u64]; omega
        have w2 : IntKind.u64.wrap ((h1 : Int) + y1) = (n2 : Int) := by rw [IntKind.wrap_u64]; omega
        have w3 : IntKind.u64.wrap (256 * (n2 : Int)) = (h2 : Int) := by rw [IntKind.wrap_u64]; omega
        have w4 : IntKind.u64.wrap ((h2 : Int) + y2) = (n3 : Int) := by rw [IntKind.wrap_u64]; omega
        have w5 : IntKind.u64.wrap (256 * (n3 : Int)) = (h3 : Int) := by rw [IntKind.wrap_u64]; omega
        have w6 : IntKind.u64.wrap ((h3 : Int) + y3) = (x : Int) := by rw [IntKind.wrap_u64]; omega
        have HX : Hid (S.take (i + 1) = S.take i ++ [x]) := by
          show _ = _
          rw [List.take_add_one, nth_get S i (by rw [HLen.out]; omega), HX0]
          congr 2; simp; omega
        have HO1 := Lib.hid (HI.out.1.keep ((Below.refl _ _).alloc (Nat.le_refl _) (.cells #[.int .u64 (x : Int)] 69)))
        have HO2 := Lib.hid (HI.out.2.alloc (Nat.le_trans HI.out.1.base.1 (Nat.le_of_lt HI.out.1.base.2)) (.cells #[.int .u64 (x : Int)] 69))
        have HXC : Hid ((wr.alloc (.cells #[.int .u64 (x : Int)] 69)).cell? ⟨wr.heap.size, 0, none⟩ = some (.int .u64 (x : Int))) := (cell_of_row _ _ _ _ _ _ (heap_alloc_last _ _)).trans rfl
        clear HX0 e0 e1 e2 e3 hk0 hp0 hp1 hp2 hp3 eh1 en2 eh2 en3 eh3 ex CW HI
        go_wp2_with fail
        refine wp_loop_rounds 5 ?_
        rw [rounds_succ]; go_wp2_with fail
        rw [rounds_succ]; go_wp2_with fail
        rw [rounds_succ]; go_wp2_with fail
        rw [rounds_succ]; go_wp2_with fail
        rw [rounds_succ]; go_wp2_with (at_builtin; go_loud (refine wpList_pushw (by rfl) (.tmp 60) (.tmp 62) (by rfl) B g i c x wr.heap.size (S.take i) (by rfl) (by rfl) HO1.out (by omega) HXC.out ?_; intro g' c' W' ho' hb'; have HN : Hid (OwnW W' B g' (i + 1) c' (S.take (i + 1)) ∧ Below B w W') := ⟨by rw [HX.out]; exact ho', HO2.out.trans hb'⟩; clear ho' hb'))
        go_roundw
        case rel => exact ⟨i + 1, g', c', by go_num, by omega, rfl, HN⟩
        case measure => simp [intOf]; omega
      · obtain ⟨n, hn⟩ : ∃ n, n + 16 = i := ⟨i - 16, by omega⟩
        have hge16 : ¬ (i : Int) < 16 := by omega
        have HO := Lib.hid HI.out.1
        have HB : Hid (Below B w wr) := HI.out.2
        obtain ⟨i15, h15⟩ : ∃ j, n + 1 = j := ⟨_, rfl⟩
        obtain ⟨i2, h2⟩ : ∃ j, n + 14 = j := ⟨_, rfl⟩
        obtain ⟨i7, h7⟩ : ∃ j, n + 9 = j := ⟨_, rfl⟩
        have tk : ∀ j, j < i → nth (S.take i) j = nth S j := fun j hj => by
          unfold nth; rw [List.getD_eq_getElem?_getD, List.getD_eq_getElem?_getD, List.getElem?_take, if_pos hj]
        have c15 := HO.out.cell i15 (by omega); have c2 := HO.out.cell i2 (by omega); have c16 := HO.out.cell n (by omega); have c7 := HO.out.cell i7 (by omega)
        rw [tk i15 (by omega)] at c15; rw [tk i2 (by omega)] at c2; rw [tk n (by omega)] at c16; rw [tk i7 (by omega)] at c7
        have HS := HHigh.out n (by omega)
        rw [h15, h2, h7, hn] at HS
        have SW := HW.out
        have b15 := SW i15; have b2 := SW i2; have b16 := SW n; have b7 := SW i7
        obtain ⟨x15, e15⟩ : ∃ x, nth S i15 = x := ⟨_, rfl⟩
        obtain ⟨x2, e2⟩ : ∃ x, nth S i2 = x := ⟨_, rfl⟩
        obtain ⟨x16, e16⟩ : ∃ x, nth S n = x := ⟨_, rfl⟩
        obtain ⟨x7, e7⟩ : ∃ x, nth S i7 = x := ⟨_, rfl⟩
        rw [e15, e2, e16, e7] at HS; rw [e15] at c15 b15; rw [e2] at c2 b2; rw [e16] at c16 b16; rw [e7] at c7 b7
        clear e15 e2 e16 e7 SW tk
        have T1 : Hid (∀ W, Calls Try.prog 40 #[.int .u64 (x15 : Int), .int .u64 7] W fun e w' => e = .returned (.int .u64 ((rotr x15 7 : Nat) : Int)) ∧ w' = W) := fun W => (rright_c x15 7 b15 (by decide) W).mono fun _ _ h => ⟨h.1, h.2.symm⟩
        have T2 : Hid (∀ W, Calls Try.prog 40 #[.int .u64 (x15 : Int), .int .u64 18] W fun e w' => e = .returned (.int .u64 ((rotr x15 18 : Nat) : Int)) ∧ w' = W) := fun W => (rright_c x15 18 b15 (by decide) W).mono fun _ _ h => ⟨h.1, h.2.symm⟩
        have T3 : Hid (∀ W, Calls Try.prog 41 #[.int .u64 (x15 : Int), .int .u64 3] W fun e w' => e = .returned (.int .u64 ((x15 / 8 : Nat) : Int)) ∧ w' = W) := fun W => (down_c x15 3 (by decide) W).mono fun _ _ h => ⟨h.1, h.2.symm⟩
        have T4 : Hid (∀ W, Calls Try.prog 40 #[.int .u64 (x2 : Int), .int .u64 17] W fun e w' => e = .returned (.int .u64 ((rotr x2 17 : Nat) : Int)) ∧ w' = W) := fun W => (rright_c x2 17 b2 (by decide) W).mono fun _ _ h => ⟨h.1, h.2.symm⟩
        have T5 : Hid (∀ W, Calls Try.prog 40 #[.int .u64 (x2 : Int), .int .u64 19] W fun e w' => e = .returned (.int .u64 ((rotr x2 19 : Nat) : Int)) ∧ w' = W) := fun W => (rright_c x2 19 b2 (by decide) W).mono fun _ _ h => ⟨h.1, h.2.symm⟩
        have T6 : Hid (∀ W, Calls Try.prog 41 #[.int .u64 (x2 : Int), .int .u64 10] W fun e w' => e = .returned (.int .u64 ((x2 / 1024 : Nat) : Int)) ∧ w' = W) := fun W => (down_c x2 10 (by decide) W).mono fun _ _ h => ⟨h.1, h.2.symm⟩
        have j15 : IntKind.i64.wrap ((i : Int) - 15) = (i15 : Int) := by rw [IntKind.wrap_i64]; omega
        have j2 : IntKind.i64.wrap ((i : Int) - 2) = (i2 : Int) := by rw [IntKind.wrap_i64]; omega
        have j16 : IntKind.i64.wrap ((i : Int) - 16) = (n : Int) := by rw [IntKind.wrap_i64]; omega
        have j7 : IntKind.i64.wrap ((i : Int) - 7) = (i7 : Int) := by rw [IntKind.wrap_i64]; omega
        have u15 : (i15 : Int) < i := by omega
        have u2 : (i2 : Int) < i := by omega
        have u16 : (n : Int) < i := by omega
        have u7 : (i7 : Int) < i := by omega
        have d15 : x15 / 8 < 4294967296 := by omega
        have d2 : x2 / 1024 < 4294967296 := by omega
        have v2 := xor64 (rotr x15 7) (rotr x15 18) (rotr_lt _ _) (rotr_lt _ _)
        have v3 : bits .xor .u64 ((rotr x15 7 ^^^ rotr x15 18 : Nat) : Int) ((x15 / 8 : Nat) : Int) = ((sg0 x15 : Nat) : Int) := xor64 _ _ (xor_lt (rotr_lt _ _) (rotr_lt _ _)) d15
        have v4 := xor64 (rotr x2 17) (rotr x2 19) (rotr_lt _ _) (rotr_lt _ _)
        have v5 : bits .xor .u64 ((rotr x2 17 ^^^ rotr x2 19 : Nat) : Int) ((x2 / 1024 : Nat) : Int) = ((sg1 x2 : Nat) : Int) := xor64 _ _ (xor_lt (rotr_lt _ _) (rotr_lt _ _)) d2
        have q1b : sg0 x15 < 4294967296 := xor_lt (xor_lt (rotr_lt _ _) (rotr_lt _ _)) d15
        have q2b : sg1 x2 < 4294967296 := xor_lt (xor_lt (rotr_lt _ _) (rotr_lt _ _)) d2
        obtain ⟨r7, hr7⟩ : ∃ r, rotr x15 7 = r := ⟨_, rfl⟩
        obtain ⟨r18, hr18⟩ : ∃ r, rotr x15 18 = r := ⟨_, rfl⟩
        obtain ⟨r17, hr17⟩ : ∃ r, rotr x2 17 = r := ⟨_, rfl⟩
        obtain ⟨r19, hr19⟩ : ∃ r, rotr x2 19 = r := ⟨_, rfl⟩
        obtain ⟨r3, hr3⟩ : ∃ r, x15 / 8 = r := ⟨_, rfl⟩
        obtain ⟨r10, hr10⟩ : ∃ r, x2 / 1024 = r := ⟨_, rfl⟩
        rw [hr7] at v2 v3 T1; rw [hr18] at v2 v3 T2; rw [hr17] at v4 v5 T4; rw [hr19] at v4 v5 T5; rw [hr3] at v3 T3; rw [hr10] at v5 T6
        obtain ⟨p1, hp1⟩ : ∃ r, r7 ^^^ r18 = r := ⟨_, rfl⟩
        obtain ⟨p2, hp2⟩ : ∃ r, r17 ^^^ r19 = r := ⟨_, rfl⟩
        rw [hp1] at v2 v3; rw [hp2] at v4 v5
        obtain ⟨q1, hq1⟩ : ∃ r, sg0 x15 = r := ⟨_, rfl⟩
        obtain ⟨q2, hq2⟩ : ∃ r, sg1 x2 = r := ⟨_, rfl⟩
        rw [hq1] at v3 q1b HS; rw [hq2] at v5 q2b HS
        obtain ⟨s1, hs1⟩ : ∃ r, x16 + q1 = r := ⟨_, rfl⟩
        obtain ⟨s2, hs2⟩ : ∃ r, s1 + x7 = r := ⟨_, rfl⟩
        obtain ⟨s3, hs3⟩ : ∃ r, s2 + q2 = r := ⟨_, rfl⟩
        have w1 : IntKind.u64.wrap ((x16 : Int) + q1) = (s1 : Int) := by rw [IntKind.wrap_u64]; omega
        have w2 : IntKind.u64.wrap ((s1 : Int) + x7) = (s2 : Int) := by rw [IntKind.wrap_u64]; omega
        have w3 : IntKind.u64.wrap ((s2 : Int) + q2) = (s3 : Int) := by rw [IntKind.wrap_u64]; omega
        obtain ⟨x, ex⟩ : ∃ x, s3 % 4294967296 = x := ⟨_, rfl⟩
        have w4 : (s3 : Int).tmod 4294967296 = (x : Int) := by rw [Int.tmod_eq_emod_of_nonneg (Int.natCast_nonneg _)]; omega
        have w5 : (s3 : Int) % 4294967296 = (x : Int) := by omega
        have HX : Hid (S.take (i + 1) = S.take i ++ [x]) := by
          show _ = _
          rw [List.take_add_one, nth_get S i (by rw [HLen.out]; omega), HS]
          congr 2; simp; omega
        clear HS hq1 hq2 hs1 hs2 hs3 ex hp1 hp2 hr7 hr18 hr17 hr19 hr3 hr10 b15 b2 b16 b7 d15 d2 HI h15 h2 h7 hn
        go_wp2_with fail
        go_quiet ((first | (go_at_call 40; with_reducible exact Calls.quiet_of_same (T1.out _)) | (go_at_call 40; with_reducible exact Calls.quiet_of_same (T2.out _)) | (go_at_call 41; with_reducible exact Calls.quiet_of_same (T3.out _))))
        obtain ⟨wa, hwa⟩ : ∃ v, v = wr.drewN nq := ⟨_, rfl⟩
        rw [← hwa]
        replace c2 : wa.cell? ⟨g, i2, none⟩ = some (.int .u64 (x2 : Int)) := by rw [hwa]; exact c2
        replace c7 : wa.cell? ⟨g, i7, none⟩ = some (.int .u64 (x7 : Int)) := by rw [hwa]; exact c7
        replace c16 : wa.cell? ⟨g, n, none⟩ = some (.int .u64 (x16 : Int)) := by rw [hwa]; exact c16
        replace HO : Hid (OwnW wa B g i c (S.take i)) := by rw [hwa]; exact HO.out.keep (below_drewQ (Below.refl _ _) nq)
        replace HB : Hid (Below B w wa) := by rw [hwa]; exact below_drewQ HB.out nq
        clear hwa c15 nq
        go_wp2_with fail
        go_quiet ((first | (go_at_call 40; with_reducible exact Calls.quiet_of_same (T4.out _)) | (go_at_call 40; with_reducible exact Calls.quiet_of_same (T5.out _)) | (go_at_call 41; with_reducible exact Calls.quiet_of_same (T6.out _))))
        obtain ⟨wb, hwb⟩ : ∃ v, v = wa.drewN nq := ⟨_, rfl⟩
        rw [← hwb]
        replace c7 : wb.cell? ⟨g, i7, none⟩ = some (.int .u64 (x7 : Int)) := by rw [hwb]; exact c7
        replace c16 : wb.cell? ⟨g, n, none⟩ = some (.int .u64 (x16 : Int)) := by rw [hwb]; exact c16
        replace HO : Hid (OwnW wb B g i c (S.take i)) := by rw [hwb]; exact HO.out.keep (below_drewQ (Below.refl _ _) nq)
        replace HB : Hid (Below B w wb) := by rw [hwb]; exact below_drewQ HB.out nq
        clear hwb c2 nq
        have HO1 := Lib.hid (HO.out.keep ((Below.drew (Below.refl _ _)).alloc (Nat.le_refl _) (.cells #[.int .u64 (x : Int)] 69)))
        have HO2 := Lib.hid (HB.out.drew.alloc (Nat.le_trans HO.out.base.1 (Nat.le_of_lt HO.out.base.2)) (.cells #[.int .u64 (x : Int)] 69))
        have HXC : Hid ((wb.drew.alloc (.cells #[.int .u64 (x : Int)] 69)).cell? ⟨wb.heap.size, 0, none⟩ = some (.int .u64 (x : Int))) := (cell_of_row _ _ _ _ _ _ (heap_alloc_last _ _)).trans rfl
        go_wp2_with fail
        refine wp_region_noPanic ?_
        go_region_law (go_loud (refine step_pushw (by rfl) (.tmp 104) (.tmp 121) (by rfl) B g i c x wb.heap.size (S.take i) (by rfl) (by rfl) HO1.out (by omega) HXC.out ?_; intro g' c' W' ho' hb'; have HN : Hid (OwnW W' B g' (i + 1) c' (S.take (i + 1)) ∧ Below B w W') := ⟨by rw [HX.out]; exact ho', HO2.out.trans hb'⟩; clear ho' hb'))
        all_goals (refine NoPanic.normal ?_)
        all_goals go_wp2_with fail
        all_goals (
          go_roundw
          case rel => exact ⟨i + 1, g', c', by go_num, by omega, rfl, HN⟩
          case measure => simp [intOf]; omega)
end Go.Proofs.Ytbjcigokimieoaa
namespace Go.Proofs.Ytbjcigokimieoaa
open Go.RowKit
/-- What loop 4 holds behind k rounds. -/
structure RndInv (w : World) (gx : Nat) (S x : List Nat) (k : Nat) (wr : World) : Prop where
  keeps : Keeps (fun b => b = gx) w wr
  cur : wr.heap[gx]? = some (.cells (wcells .u64 (rnds S x k)) 70 (0, 0))
theorem RndInv.drewN {w wr : World} {gx : Nat} {S x : List Nat} {k : Nat} (h : RndInv w gx S x k wr) (q : Nat) : RndInv w gx S x k (wr.drewN q) :=
  ⟨h.keeps.trans (Keeps.of_below (F := fun _ => False) (below_drewQ (Below.refl _ _) q)) (fun _ hb => hb.elim), h.cur⟩
theorem set_rnd (X : List Nat) (h : X.length = 8) (p1 p2 p3 p4 p5 p6 p7 n4 n0 : Nat) : ((((((((X.set 7 p7).set 6 p6).set 5 p5).set 4 p4).set 3 p3).set 2 p2).set 1 p1).set 4 n4).set 0 n0 = [n0, p1, p2, p3, n4, p5, p6, p7] := by
  match X, h with
  | [_, _, _, _, _, _, _, _], _ => rfl
theorem RndInv.step {w wr : World} {gx : Nat} {S x : List Nat} {k : Nat} (h : RndInv w gx S x k wr) (hl : (rnds S x k).length = 8) {p1 p2 p3 p4 p5 p6 p7 n4 n0 : Nat} (hs : rnds S x (k + 1) = [n0, p1, p2, p3, n4, p5, p6, p7]) :
    RndInv w gx S x (k + 1) (((((((((wr.setCell ⟨gx, 7, none⟩ (.int .u64 (p7 : Int))).setCell ⟨gx, 6, none⟩ (.int .u64 (p6 : Int))).setCell ⟨gx, 5, none⟩ (.int .u64 (p5 : Int))).setCell ⟨gx, 4, none⟩ (.int .u64 (p4 : Int))).setCell ⟨gx, 3, none⟩ (.int .u64 (p3 : Int))).setCell ⟨gx, 2, none⟩ (.int .u64 (p2 : Int))).setCell ⟨gx, 1, none⟩ (.int .u64 (p1 : Int))).setCell ⟨gx, 4, none⟩ (.int .u64 (n4 : Int))).setCell ⟨gx, 0, none⟩ (.int .u64 (n0 : Int))) := by
  refine ⟨((((((((h.keeps.setCell _ (Or.inl rfl)).setCell _ (Or.inl rfl)).setCell _ (Or.inl rfl)).setCell _ (Or.inl rfl)).setCell _ (Or.inl rfl)).setCell _ (Or.inl rfl)).setCell _ (Or.inl rfl)).setCell _ (Or.inl rfl)).setCell _ (Or.inl rfl), ?_⟩
  rw [hs, ← set_rnd _ hl p1 p2 p3 p4 p5 p6 p7 n4 n0]
  exact set_w (set_w (set_w (set_w (set_w (set_w (set_w (set_w (set_w h.cur 7 p7) 6 p6) 5 p5) 4 p4) 3 p3) 2 p2) 1 p1) 4 n4) 0 n0
set_option maxRecDepth 100000 in
set_option maxHeartbeats 4000000 in
/-- Loop 4: the rounds. -/
theorem rsum_l4 (v2 v3 v4 v6 : Value) (gk gx g c B : Nat) (S x : List Nat) (hS : S.length = 64) (hSW : W32 S) (hx8 : x.length = 8) (hxw : W32 x) (hgk : gk ≠ gx) (hgg : g ≠ gx) (a : Act) (w : World) (hfr : Fr 254 a [(2, v2), (3, v3), (4, v4), (5, .pointer (some ⟨gk, 0, none⟩)), (6, v6), (7, bsv g 0 64 c), (13, .pointer (some ⟨gx, 0, none⟩)), (14, .int .i64 0)])
    (hkr : w.heap[gk]? = some (.cells (wcells .u64 KL) 71 (0, 0))) (ho : OwnW w B g 64 c S) (hxr : w.heap[gx]? = some (.cells (wcells .u64 x) 70 (0, 0))) :
    (piece Try.f34 6).wp Try.prog (fun e a' w' => e = .normal ∧ Hid (Fr 254 a' [(2, v2), (3, v3), (4, v4), (5, .pointer (some ⟨gk, 0, none⟩)), (6, v6), (13, .pointer (some ⟨gx, 0, none⟩))]) ∧ Hid (RndInv w gx S x 64 w')) a w := by
  have HSL := Lib.hid hS; have HSW := Lib.hid hSW; have HX8 := Lib.hid hx8; have HXW := Lib.hid hxw; have HKR := Lib.hid hkr; have HO := Lib.hid ho; have HGK := Lib.hid hgk; have HGG := Lib.hid hgg
  have I0 : Hid (RndInv w gx S x 0 w) := ⟨Keeps.refl _ _, hxr⟩
  obtain ⟨T, hT⟩ : ∃ T, T = a.tmps := ⟨_, rfl⟩
  have hk := hfr.known
  have hlit := hfr.act
  rw [← hT] at hk hlit
  have k2 : slot T 2 = v2 := hk (2, v2) (by simp)
  have k3 : slot T 3 = v3 := hk (3, v3) (by simp)
  have k4 : slot T 4 = v4 := hk (4, v4) (by simp)
  have k5 : slot T 5 = .pointer (some ⟨gk, 0, none⟩) := hk (5, .pointer (some ⟨gk, 0, none⟩)) (by simp)
  have k6 : slot T 6 = v6 := hk (6, v6) (by simp)
  have k7 : slot T 7 = bsv g 0 64 c := hk (7, bsv g 0 64 c) (by simp)
  have k13 : slot T 13 = .pointer (some ⟨gx, 0, none⟩) := hk (13, .pointer (some ⟨gx, 0, none⟩)) (by simp)
  have k14 : slot T 14 = .int .i64 0 := hk (14, .int .i64 0) (by simp)
  have hlit2 : a = ⟨#[slot T 0, slot T 1, slot T 2, slot T 3, slot T 4, slot T 5, slot T 6, slot T 7, slot T 8, slot T 9, slot T 10, slot T 11, slot T 12, slot T 13, slot T 14, slot T 15, slot T 16, slot T 17, slot T 18, slot T 19, slot T 20, slot T 21, slot T 22, slot T 23, slot T 24, slot T 25, slot T 26, slot T 27, slot T 28, slot T 29, slot T 30, slot T 31, slot T 32, slot T 33, slot T 34, slot T 35, slot T 36, slot T 37, slot T 38, slot T 39, slot T 40, slot T 41, slot T 42, slot T 43, slot T 44, slot T 45, slot T 46, slot T 47, slot T 48, slot T 49, slot T 50, slot T 51, slot T 52, slot T 53, slot T 54, slot T 55, slot T 56, slot T 57, slot T 58, slot T 59, slot T 60, slot T 61, slot T 62, slot T 63, slot T 64, slot T 65, slot T 66, slot T 67, slot T 68, slot T 69, slot T 70, slot T 71, slot T 72, slot T 73, slot T 74, slot T 75, slot T 76, slot T 77, slot T 78, slot T 79, slot T 80, slot T 81, slot T 82, slot T 83, slot T 84, slot T 85, slot T 86, slot T 87, slot T 88, slot T 89, slot T 90, slot T 91, slot T 92, slot T 93, slot T 94, slot T 95, slot T 96, slot T 97, slot T 98, slot T 99, slot T 100, slot T 101, slot T 102, slot T 103, slot T 104, slot T 105, slot T 106, slot T 107, slot T 108, slot T 109, slot T 110, slot T 111, slot T 112, slot T 113, slot T 114, slot T 115, slot T 116, slot T 117, slot T 118, slot T 119, slot T 120, slot T 121, slot T 122, slot T 123, slot T 124, slot T 125, slot T 126, slot T 127, slot T 128, slot T 129, slot T 130, slot T 131, slot T 132, slot T 133, slot T 134, slot T 135, slot T 136, slot T 137, slot T 138, slot T 139, slot T 140, slot T 141, slot T 142, slot T 143, slot T 144, slot T 145, slot T 146, slot T 147, slot T 148, slot T 149, slot T 150, slot T 151, slot T 152, slot T 153, slot T 154, slot T 155, slot T 156, slot T 157, slot T 158, slot T 159, slot T 160, slot T 161, slot T 162, slot T 163, slot T 164, slot T 165, slot T 166, slot T 167, slot T 168, slot T 169, slot T 170, slot T 171, slot T 172, slot T 173, slot T 174, slot T 175, slot T 176, slot T 177, slot T 178, slot T 179, slot T 180, slot T 181, slot T 182, slot T 183, slot T 184, slot T 185, slot T 186, slot T 187, slot T 188, slot T 189, slot T 190, slot T 191, slot T 192, slot T 193, slot T 194, slot T 195, slot T 196, slot T 197, slot T 198, slot T 199, slot T 200, slot T 201, slot T 202, slot T 203, slot T 204, slot T 205, slot T 206, slot T 207, slot T 208, slot T 209, slot T 210, slot T 211, slot T 212, slot T 213, slot T 214, slot T 215, slot T 216, slot T 217, slot T 218, slot T 219, slot T 220, slot T 221, slot T 222, slot T 223, slot T 224, slot T 225, slot T 226, slot T 227, slot T 228, slot T 229, slot T 230, slot T 231, slot T 232, slot T 233, slot T 234, slot T 235, slot T 236, slot T 237, slot T 238, slot T 239, slot T 240, slot T 241, slot T 242, slot T 243, slot T 244, slot T 245, slot T 246, slot T 247, slot T 248, slot T 249, slot T 250, slot T 251, slot T 252, slot T 253], []⟩ := hlit
  rw [k2, k3, k4, k5, k6, k7, k13, k14] at hlit2
  subst hlit2
  clear hfr hk hlit hT k2 k3 k4 k5 k6 k7 k13 k14
  clear hS hSW hx8 hxw hkr ho hxr hgk hgg
  conv => arg 2; whnf
  go_wp2
  go_loopw [14] (fun s wr => ∃ k : Nat, s = .int .i64 (k : Int) ∧ k ≤ 64 ∧ Hid (RndInv w gx S x k wr)) (fun s _ => (64 - intOf s).toNat)
  case atStart => exact ⟨0, rfl, by omega, I0⟩
  case round =>
    obtain ⟨k, rfl, hk, HI⟩ := hrel
    by_cases h64 : k = 64
    · have hge : ¬ (k : Int) < 64 := by omega
      subst h64
      go_wp2_with fail
      exact fr_of rfl rfl
    · have hlt : (k : Int) < 64 := by omega
      have hXl := rnds_len S x HX8.out k; have hXw := rnds_w S x HXW.out k
      have hstep : rnds S x (k + 1) = rnd (nth KL k) (nth S k) (rnds S x k) := rfl
      have hcur := HI.out.cur
      obtain ⟨X, hX⟩ : ∃ X, rnds S x k = X := ⟨_, rfl⟩
      rw [hX] at hXl hXw hcur hstep
      have x0 := cell_w hcur 0 (by omega); have x1 := cell_w hcur 1 (by omega); have x2 := cell_w hcur 2 (by omega); have x3 := cell_w hcur 3 (by omega); have x4 := cell_w hcur 4 (by omega); have x5 := cell_w hcur 5 (by omega); have x6 := cell_w hcur 6 (by omega); have x7 := cell_w hcur 7 (by omega)
      have hk1 := cell_w ((HI.out.keeps.block gk (lt_of_block HKR.out) HGK.out).trans HKR.out) k (by rw [KL_len]; omega)
      have hw1 := ((keeps_cell HI.out.keeps (o := k) HO.out.base.2 HGG.out).trans (HO.out.cell k (by omega)))
      have bb0 := hXw 0; have bb1 := hXw 1; have bb2 := hXw 2; have bb3 := hXw 3; have bb4 := hXw 4; have bb5 := hXw 5; have bb6 := hXw 6; have bb7 := hXw 7
      have bk := KL_lt k; have bw := HSW.out k
      unfold rnd tt1 tt2 at hstep
      obtain ⟨a, e0⟩ : ∃ r, nth X 0 = r := ⟨_, rfl⟩; rw [e0] at x0 bb0 hstep
      obtain ⟨b2, e1⟩ : ∃ r, nth X 1 = r := ⟨_, rfl⟩; rw [e1] at x1 bb1 hstep
      obtain ⟨c2, e2⟩ : ∃ r, nth X 2 = r := ⟨_, rfl⟩; rw [e2] at x2 bb2 hstep
      obtain ⟨d, e3⟩ : ∃ r, nth X 3 = r := ⟨_, rfl⟩; rw [e3] at x3 bb3 hstep
      obtain ⟨e, e4⟩ : ∃ r, nth X 4 = r := ⟨_, rfl⟩; rw [e4] at x4 bb4 hstep
      obtain ⟨f2, e5⟩ : ∃ r, nth X 5 = r := ⟨_, rfl⟩; rw [e5] at x5 bb5 hstep
      obtain ⟨g2, e6⟩ : ∃ r, nth X 6 = r := ⟨_, rfl⟩; rw [e6] at x6 bb6 hstep
      obtain ⟨h2, e7⟩ : ∃ r, nth X 7 = r := ⟨_, rfl⟩; rw [e7] at x7 bb7 hstep
      obtain ⟨kk, ek⟩ : ∃ r, nth KL k = r := ⟨_, rfl⟩; obtain ⟨ww, ew⟩ : ∃ r, nth S k = r := ⟨_, rfl⟩
      rw [ek] at hk1 bk hstep; rw [ew] at hw1 bw hstep
      clear e0 e1 e2 e3 e4 e5 e6 e7 ek ew hXw
      have Te6 : Hid (∀ W, Calls Try.prog 40 #[.int .u64 (e : Int), .int .u64 6] W fun e' w' => e' = .returned (.int .u64 ((rotr e 6 : Nat) : Int)) ∧ w' = W) := fun W => (rright_c e 6 bb4 (by decide) W).mono fun _ _ h => ⟨h.1, h.2.symm⟩
      have Te11 : Hid (∀ W, Calls Try.prog 40 #[.int .u64 (e : Int), .int .u64 11] W fun e' w' => e' = .returned (.int .u64 ((rotr e 11 : Nat) : Int)) ∧ w' = W) := fun W => (rright_c e 11 bb4 (by decide) W).mono fun _ _ h => ⟨h.1, h.2.symm⟩
      have Te25 : Hid (∀ W, Calls Try.prog 40 #[.int .u64 (e : Int), .int .u64 25] W fun e' w' => e' = .returned (.int .u64 ((rotr e 25 : Nat) : Int)) ∧ w' = W) := fun W => (rright_c e 25 bb4 (by decide) W).mono fun _ _ h => ⟨h.1, h.2.symm⟩
      have Ta2 : Hid (∀ W, Calls Try.prog 40 #[.int .u64 (a : Int), .int .u64 2] W fun e' w' => e' = .returned (.int .u64 ((rotr a 2 : Nat) : Int)) ∧ w' = W) := fun W => (rright_c a 2 bb0 (by decide) W).mono fun _ _ h => ⟨h.1, h.2.symm⟩
      have Ta13 : Hid (∀ W, Calls Try.prog 40 #[.int .u64 (a : Int), .int .u64 13] W fun e' w' => e' = .returned (.int .u64 ((rotr a 13 : Nat) : Int)) ∧ w' = W) := fun W => (rright_c a 13 bb0 (by decide) W).mono fun _ _ h => ⟨h.1, h.2.symm⟩
      have Ta22 : Hid (∀ W, Calls Try.prog 40 #[.int .u64 (a : Int), .int .u64 22] W fun e' w' => e' = .returned (.int .u64 ((rotr a 22 : Nat) : Int)) ∧ w' = W) := fun W => (rright_c a 22 bb0 (by decide) W).mono fun _ _ h => ⟨h.1, h.2.symm⟩
      have v1 := xor64 (rotr e 6) (rotr e 11) (rotr_lt _ _) (rotr_lt _ _)
      have v2' : bits .xor .u64 ((rotr e 6 ^^^ rotr e 11 : Nat) : Int) ((rotr e 25 : Nat) : Int) = ((bg1 e : Nat) : Int) := xor64 _ _ (xor_lt (rotr_lt _ _) (rotr_lt _ _)) (rotr_lt _ _)
      have v3' : bits .and .u64 (e : Int) (f2 : Int) = ((e &&& f2 : Nat) : Int) := and64 _ _ bb4 bb5
      have v4' : bits .and .u64 ((4294967295 - e : Nat) : Int) (g2 : Int) = (((4294967295 - e) &&& g2 : Nat) : Int) := and64 _ _ (by omega) bb6
      have v5 : bits .xor .u64 ((e &&& f2 : Nat) : Int) (((4294967295 - e) &&& g2 : Nat) : Int) = ((chs e f2 g2 : Nat) : Int) := xor64 _ _ (and_lt _ bb4) (and_lt _ (by omega))
      have v6' := xor64 (rotr a 2) (rotr a 13) (rotr_lt _ _) (rotr_lt _ _)
      have v7 : bits .xor .u64 ((rotr a 2 ^^^ rotr a 13 : Nat) : Int) ((rotr a 22 : Nat) : Int) = ((bg0 a : Nat) : Int) := xor64 _ _ (xor_lt (rotr_lt _ _) (rotr_lt _ _)) (rotr_lt _ _)
      have v8 : bits .and .u64 (a : Int) (b2 : Int) = ((a &&& b2 : Nat) : Int) := and64 _ _ bb0 bb1
      have v9 : bits .and .u64 (a : Int) (c2 : Int) = ((a &&& c2 : Nat) : Int) := and64 _ _ bb0 bb2
      have v10 : bits .and .u64 (b2 : Int) (c2 : Int) = ((b2 &&& c2 : Nat) : Int) := and64 _ _ bb1 bb2
      have v11 : bits .xor .u64 ((a &&& b2 : Nat) : Int) ((a &&& c2 : Nat) : Int) = (((a &&& b2) ^^^ (a &&& c2) : Nat) : Int) := xor64 _ _ (and_lt _ bb0) (and_lt _ bb0)
      have v12 : bits .xor .u64 (((a &&& b2) ^^^ (a &&& c2) : Nat) : Int) ((b2 &&& c2 : Nat) : Int) = ((maj a b2 c2 : Nat) : Int) := xor64 _ _ (xor_lt (and_lt _ bb0) (and_lt _ bb0)) (and_lt _ bb1)
      have v13 : IntKind.u64.wrap (4294967295 - (e : Int)) = ((4294967295 - e : Nat) : Int) := by rw [IntKind.wrap_u64]; omega
      have cB1 : bg1 e < 4294967296 := xor_lt (xor_lt (rotr_lt _ _) (rotr_lt _ _)) (rotr_lt _ _)
      have cC1 : chs e f2 g2 < 4294967296 := xor_lt (and_lt _ bb4) (and_lt _ (by omega))
      have cA1 : bg0 a < 4294967296 := xor_lt (xor_lt (rotr_lt _ _) (rotr_lt _ _)) (rotr_lt _ _)
      have cM1 : maj a b2 c2 < 4294967296 := xor_lt (xor_lt (and_lt _ bb0) (and_lt _ bb0)) (and_lt _ bb1)
      obtain ⟨r6, hr6⟩ : ∃ r, rotr e 6 = r := ⟨_, rfl⟩; rw [hr6] at Te6 v1 v2'
      obtain ⟨r11, hr11⟩ : ∃ r, rotr e 11 = r := ⟨_, rfl⟩; rw [hr11] at Te11 v1 v2'
      obtain ⟨r25, hr25⟩ : ∃ r, rotr e 25 = r := ⟨_, rfl⟩; rw [hr25] at Te25 v2'
      obtain ⟨r2, hr2⟩ : ∃ r, rotr a 2 = r := ⟨_, rfl⟩; rw [hr2] at Ta2 v6' v7
      obtain ⟨r13, hr13⟩ : ∃ r, rotr a 13 = r := ⟨_, rfl⟩; rw [hr13] at Ta13 v6' v7
      obtain ⟨r22, hr22⟩ : ∃ r, rotr a 22 = r := ⟨_, rfl⟩; rw [hr22] at Ta22 v7
      obtain ⟨p1, hp1⟩ : ∃ r, r6 ^^^ r11 = r := ⟨_, rfl⟩; rw [hp1] at v1 v2'
      obtain ⟨B1, hB1⟩ : ∃ r, bg1 e = r := ⟨_, rfl⟩; rw [hB1] at v2' hstep cB1
      obtain ⟨ne, hne⟩ : ∃ r, 4294967295 - e = r := ⟨_, rfl⟩; rw [hne] at v4' v5 v13
      obtain ⟨ef, hef⟩ : ∃ r, e &&& f2 = r := ⟨_, rfl⟩; rw [hef] at v3' v5
      obtain ⟨ng, hng⟩ : ∃ r, ne &&& g2 = r := ⟨_, rfl⟩; rw [hng] at v4' v5
      obtain ⟨C1, hC1⟩ : ∃ r, chs e f2 g2 = r := ⟨_, rfl⟩; rw [hC1] at v5 hstep cC1
      obtain ⟨p2, hp2⟩ : ∃ r, r2 ^^^ r13 = r := ⟨_, rfl⟩; rw [hp2] at v6' v7
      obtain ⟨A1, hA1⟩ : ∃ r, bg0 a = r := ⟨_, rfl⟩; rw [hA1] at v7 hstep cA1
      obtain ⟨ab, hab⟩ : ∃ r, a &&& b2 = r := ⟨_, rfl⟩; rw [hab] at v8 v11 v12
      obtain ⟨ac, hac⟩ : ∃ r, a &&& c2 = r := ⟨_, rfl⟩; rw [hac] at v9 v11 v12
      obtain ⟨bc, hbc⟩ : ∃ r, b2 &&& c2 = r := ⟨_, rfl⟩; rw [hbc] at v10 v12
      obtain ⟨m1', hm1'⟩ : ∃ r, ab ^^^ ac = r := ⟨_, rfl⟩; rw [hm1'] at v11 v12
      obtain ⟨M1, hM1⟩ : ∃ r, maj a b2 c2 = r := ⟨_, rfl⟩; rw [hM1] at v12 hstep cM1
      obtain ⟨s1, hs1⟩ : ∃ r, h2 + B1 = r := ⟨_, rfl⟩
      obtain ⟨s2, hs2⟩ : ∃ r, s1 + C1 = r := ⟨_, rfl⟩
      obtain ⟨s3, hs3⟩ : ∃ r, s2 + kk = r := ⟨_, rfl⟩
      obtain ⟨s4, hs4⟩ : ∃ r, s3 + ww = r := ⟨_, rfl⟩
      obtain ⟨tt, htt⟩ : ∃ r, s4 % 4294967296 = r := ⟨_, rfl⟩
      obtain ⟨s5, hs5⟩ : ∃ r, d + tt = r := ⟨_, rfl⟩
      obtain ⟨n4', hn4⟩ : ∃ r, s5 % 4294967296 = r := ⟨_, rfl⟩
      obtain ⟨s6, hs6⟩ : ∃ r, tt + A1 = r := ⟨_, rfl⟩
      obtain ⟨s7, hs7⟩ : ∃ r, s6 + M1 = r := ⟨_, rfl⟩
      obtain ⟨n0', hn0⟩ : ∃ r, s7 % 4294967296 = r := ⟨_, rfl⟩
      have w1 : IntKind.u64.wrap ((h2 : Int) + B1) = (s1 : Int) := by rw [IntKind.wrap_u64]; omega
      have w2 : IntKind.u64.wrap ((s1 : Int) + C1) = (s2 : Int) := by rw [IntKind.wrap_u64]; omega
      have w3 : IntKind.u64.wrap ((s2 : Int) + kk) = (s3 : Int) := by rw [IntKind.wrap_u64]; omega
      have w4 : IntKind.u64.wrap ((s3 : Int) + ww) = (s4 : Int) := by rw [IntKind.wrap_u64]; omega
      have w5 : (s4 : Int).tmod 4294967296 = (tt : Int) := by rw [Int.tmod_eq_emod_of_nonneg (Int.natCast_nonneg _)]; omega
      have w6 : IntKind.u64.wrap ((d : Int) + tt) = (s5 : Int) := by rw [IntKind.wrap_u64]; omega
      have w7 : (s5 : Int).tmod 4294967296 = (n4' : Int) := by rw [Int.tmod_eq_emod_of_nonneg (Int.natCast_nonneg _)]; omega
      have w8 : IntKind.u64.wrap ((tt : Int) + A1) = (s6 : Int) := by rw [IntKind.wrap_u64]; omega
      have w9 : IntKind.u64.wrap ((s6 : Int) + M1) = (s7 : Int) := by rw [IntKind.wrap_u64]; omega
      have w10 : (s7 : Int).tmod 4294967296 = (n0' : Int) := by rw [Int.tmod_eq_emod_of_nonneg (Int.natCast_nonneg _)]; omega
      have w11 : (s4 : Int) % 4294967296 = (tt : Int) := by omega
      have w12 : (s5 : Int) % 4294967296 = (n4' : Int) := by omega
      have w13 : (s7 : Int) % 4294967296 = (n0' : Int) := by omega
      have HST : Hid (rnds S x (k + 1) = [n0', a, b2, c2, n4', e, f2, g2]) := by
        show _ = _
        rw [hstep]
        have e1 : ((((((h2 + B1) % 4294967296 + C1) % 4294967296 + kk) % 4294967296 + ww) % 4294967296) + (A1 + M1) % 4294967296) % 4294967296 = n0' := by omega
        have e2 : (d + (((h2 + B1) % 4294967296 + C1) % 4294967296 + kk) % 4294967296 + ww) % 4294967296 = n4' := by omega
        have e3 : (d + ((((h2 + B1) % 4294967296 + C1) % 4294967296 + kk) % 4294967296 + ww) % 4294967296) % 4294967296 = n4' := by omega
        rw [e1, e3]
      have h7b := lt_of_block hcur
      clear hstep hX hXl bb0 bb1 bb2 bb3 bb4 bb5 bb6 bb7 bk bw hr6 hr11 hr25 hr2 hr13 hr22 hp1 hB1 hne hef hng hC1 hp2 hA1 hab hac hbc hm1' hM1 hs1 hs2 hs3 hs4 htt hs5 hn4 hs6 hs7 hn0 hcur cB1 cC1 cA1 cM1
      have hkb : gk < wr.heap.size := Nat.lt_of_lt_of_le (lt_of_block HKR.out) HI.out.keeps.size
      have hgb : g < wr.heap.size := Nat.lt_of_lt_of_le HO.out.base.2 HI.out.keeps.size
      have hkx : gk ≠ gx := HGK.out
      have hgx : g ≠ gx := HGG.out
      go_wp2_with fail
      go_quiet ((first | (go_at_call 40; with_reducible exact Calls.quiet_of_same (Te6.out _)) | (go_at_call 40; with_reducible exact Calls.quiet_of_same (Te11.out _)) | (go_at_call 40; with_reducible exact Calls.quiet_of_same (Te25.out _))))
      obtain ⟨wa, hwa⟩ : ∃ v, v = wr.drewN nq := ⟨_, rfl⟩
      rw [← hwa]
      replace x0 : wa.cell? ⟨gx, 0, none⟩ = some (.int .u64 (a : Int)) := by rw [hwa]; exact x0
      replace x1 : wa.cell? ⟨gx, 1, none⟩ = some (.int .u64 (b2 : Int)) := by rw [hwa]; exact x1
      replace x2 : wa.cell? ⟨gx, 2, none⟩ = some (.int .u64 (c2 : Int)) := by rw [hwa]; exact x2
      replace x3 : wa.cell? ⟨gx, 3, none⟩ = some (.int .u64 (d : Int)) := by rw [hwa]; exact x3
      replace x4 : wa.cell? ⟨gx, 4, none⟩ = some (.int .u64 (e : Int)) := by rw [hwa]; exact x4
      replace x5 : wa.cell? ⟨gx, 5, none⟩ = some (.int .u64 (f2 : Int)) := by rw [hwa]; exact x5
      replace x6 : wa.cell? ⟨gx, 6, none⟩ = some (.int .u64 (g2 : Int)) := by rw [hwa]; exact x6
      replace x7 : wa.cell? ⟨gx, 7, none⟩ = some (.int .u64 (h2 : Int)) := by rw [hwa]; exact x7
      replace hk1 : wa.cell? ⟨gk, k, none⟩ = some (.int .u64 (kk : Int)) := by rw [hwa]; exact hk1
      replace hw1 : wa.cell? ⟨g, k, none⟩ = some (.int .u64 (ww : Int)) := by rw [hwa]; exact hw1
      replace HI : Hid (RndInv w gx S x k wa) := by rw [hwa]; exact HI.out.drewN nq
      replace h7b : gx < wa.heap.size := by rw [hwa]; exact h7b
      replace hkb : gk < wa.heap.size := by rw [hwa]; exact hkb
      replace hgb : g < wa.heap.size := by rw [hwa]; exact hgb
      clear hwa nq
      go_wp2_with fail
      go_quiet (fail)
      obtain ⟨wb, hwb⟩ : ∃ v, v = wa.drewN nq := ⟨_, rfl⟩
      rw [← hwb]
      replace x0 : wb.cell? ⟨gx, 0, none⟩ = some (.int .u64 (a : Int)) := by rw [hwb]; exact x0
      replace x1 : wb.cell? ⟨gx, 1, none⟩ = some (.int .u64 (b2 : Int)) := by rw [hwb]; exact x1
      replace x2 : wb.cell? ⟨gx, 2, none⟩ = some (.int .u64 (c2 : Int)) := by rw [hwb]; exact x2
      replace x3 : wb.cell? ⟨gx, 3, none⟩ = some (.int .u64 (d : Int)) := by rw [hwb]; exact x3
      replace x4 : wb.cell? ⟨gx, 4, none⟩ = some (.int .u64 (e : Int)) := by rw [hwb]; exact x4
      replace x5 : wb.cell? ⟨gx, 5, none⟩ = some (.int .u64 (f2 : Int)) := by rw [hwb]; exact x5
      replace x6 : wb.cell? ⟨gx, 6, none⟩ = some (.int .u64 (g2 : Int)) := by rw [hwb]; exact x6
      replace x7 : wb.cell? ⟨gx, 7, none⟩ = some (.int .u64 (h2 : Int)) := by rw [hwb]; exact x7
      replace hk1 : wb.cell? ⟨gk, k, none⟩ = some (.int .u64 (kk : Int)) := by rw [hwb]; exact hk1
      replace hw1 : wb.cell? ⟨g, k, none⟩ = some (.int .u64 (ww : Int)) := by rw [hwb]; exact hw1
      replace HI : Hid (RndInv w gx S x k wb) := by rw [hwb]; exact HI.out.drewN nq
      replace h7b : gx < wb.heap.size := by rw [hwb]; exact h7b
      replace hkb : gk < wb.heap.size := by rw [hwb]; exact hkb
      replace hgb : g < wb.heap.size := by rw [hwb]; exact hgb
      clear hwb nq
      go_wp2_with fail
      go_quiet ((first | (go_at_call 40; with_reducible exact Calls.quiet_of_same (Ta2.out _)) | (go_at_call 40; with_reducible exact Calls.quiet_of_same (Ta13.out _)) | (go_at_call 40; with_reducible exact Calls.quiet_of_same (Ta22.out _))))
      obtain ⟨wc, hwc⟩ : ∃ v, v = wb.drewN nq := ⟨_, rfl⟩
      rw [← hwc]
      replace x0 : wc.cell? ⟨gx, 0, none⟩ = some (.int .u64 (a : Int)) := by rw [hwc]; exact x0
      replace x1 : wc.cell? ⟨gx, 1, none⟩ = some (.int .u64 (b2 : Int)) := by rw [hwc]; exact x1
      replace x2 : wc.cell? ⟨gx, 2, none⟩ = some (.int .u64 (c2 : Int)) := by rw [hwc]; exact x2
      replace x3 : wc.cell? ⟨gx, 3, none⟩ = some (.int .u64 (d : Int)) := by rw [hwc]; exact x3
      replace x4 : wc.cell? ⟨gx, 4, none⟩ = some (.int .u64 (e : Int)) := by rw [hwc]; exact x4
      replace x5 : wc.cell? ⟨gx, 5, none⟩ = some (.int .u64 (f2 : Int)) := by rw [hwc]; exact x5
      replace x6 : wc.cell? ⟨gx, 6, none⟩ = some (.int .u64 (g2 : Int)) := by rw [hwc]; exact x6
      replace x7 : wc.cell? ⟨gx, 7, none⟩ = some (.int .u64 (h2 : Int)) := by rw [hwc]; exact x7
      replace hk1 : wc.cell? ⟨gk, k, none⟩ = some (.int .u64 (kk : Int)) := by rw [hwc]; exact hk1
      replace hw1 : wc.cell? ⟨g, k, none⟩ = some (.int .u64 (ww : Int)) := by rw [hwc]; exact hw1
      replace HI : Hid (RndInv w gx S x k wc) := by rw [hwc]; exact HI.out.drewN nq
      replace h7b : gx < wc.heap.size := by rw [hwc]; exact h7b
      replace hkb : gk < wc.heap.size := by rw [hwc]; exact hkb
      replace hgb : g < wc.heap.size := by rw [hwc]; exact hgb
      clear hwc nq
      have fz0 := frozen_of_row wc gx 0 _ _ HI.out.cur
      have fz1 := frozen_of_row wc gx 1 _ _ HI.out.cur
      have fz2 := frozen_of_row wc gx 2 _ _ HI.out.cur
      have fz3 := frozen_of_row wc gx 3 _ _ HI.out.cur
      have fz4 := frozen_of_row wc gx 4 _ _ HI.out.cur
      have fz5 := frozen_of_row wc gx 5 _ _ HI.out.cur
      have fz6 := frozen_of_row wc gx 6 _ _ HI.out.cur
      have fz7 := frozen_of_row wc gx 7 _ _ HI.out.cur
      go_wp2_with fail
      refine wp_loop_rounds 8 ?_
      rw [rounds_succ]; go_wp2_with fail
      rw [rounds_succ]; go_wp2_with fail
      rw [rounds_succ]; go_wp2_with fail
      rw [rounds_succ]; go_wp2_with fail
      rw [rounds_succ]; go_wp2_with fail
      rw [rounds_succ]; go_wp2_with fail
      rw [rounds_succ]; go_wp2_with fail
      rw [rounds_succ]; go_wp2_with fail
      go_roundw
      case rel => exact ⟨k + 1, by go_num, by omega, HI.out.step (rnds_len S x HX8.out k) HST.out⟩
      case measure => simp [intOf]; omega
end Go.Proofs.Ytbjcigokimieoaa
namespace Go.Proofs.Ytbjcigokimieoaa
open Go.RowKit
/-- What loop 6 holds behind k rounds. -/
structure AddV (w : World) (gv : Nat) (x y : List Nat) (k : Nat) (wr : World) : Prop where
  keeps : Keeps (fun b => b = gv) w wr
  row : ∃ l : List Nat, l.length = 8 ∧ (∀ j, j < k → nth l j = (nth x j + nth y j) % 4294967296) ∧ (∀ j, k ≤ j → nth l j = nth x j) ∧ wr.heap[gv]? = some (.cells (wcells .u64 l) 70 (0, 0))
theorem AddV.step {w wr : World} {gv : Nat} {x y : List Nat} {k : Nat} (h : AddV w gv x y k wr) (hk : k < 8) :
    AddV w gv x y (k + 1) (wr.setCell ⟨gv, k, none⟩ (.int .u64 (((nth x k + nth y k) % 4294967296 : Nat) : Int))).drew := by
  obtain ⟨l, hl, hp, hq, hr⟩ := h.row
  refine ⟨(h.keeps.setCell _ (Or.inl rfl)).drew, l.set k ((nth x k + nth y k) % 4294967296), by simpa using hl, fun j hj => ?_, fun j hj => ?_, set_w hr k _⟩
  · rw [nth_set _ _ _ _ (by omega)]
    split
    · next e => rw [e]
    · exact hp j (by omega)
  · rw [nth_set _ _ _ _ (by omega), if_neg (by omega)]; exact hq j (by omega)
theorem AddV.done {w wr : World} {gv : Nat} {x y : List Nat} (h : AddV w gv x y 8 wr) : wr.heap[gv]? = some (.cells (wcells .u64 (addL x y)) 70 (0, 0)) := by
  obtain ⟨l, hl, hp, -, hr⟩ := h.row
  have e : l = addL x y := nth_ext _ _ (by rw [hl, addL_len]) (fun j hj => by rw [hp j (by omega)]; unfold addL; rw [nth_range _ _ _ (by omega)])
  rw [e] at hr; exact hr
set_option maxRecDepth 100000 in
set_option maxHeartbeats 4000000 in
/-- Loop 6: the sums. -/
theorem rsum_l6 (v2 v4 v5 v6 : Value) (gv gx : Nat) (x y : List Nat) (hx8 : x.length = 8) (hxw : W32 x) (hy8 : y.length = 8) (hyw : W32 y) (hne : gx ≠ gv) (a : Act) (w : World) (hfr : Fr 254 a [(2, v2), (3, .pointer (some ⟨gv, 0, none⟩)), (4, v4), (5, v5), (6, v6), (13, .pointer (some ⟨gx, 0, none⟩)), (218, .int .i64 0)])
    (hv : w.heap[gv]? = some (.cells (wcells .u64 x) 70 (0, 0))) (hxr : w.heap[gx]? = some (.cells (wcells .u64 y) 70 (0, 0))) :
    (piece Try.f34 10).wp Try.prog (fun e a' w' => e = .normal ∧ Hid (Fr 254 a' [(2, v2), (3, .pointer (some ⟨gv, 0, none⟩)), (4, v4), (5, v5), (6, v6)]) ∧ Hid (AddV w gv x y 8 w')) a w := by
  have HX8 := Lib.hid hx8; have HXW := Lib.hid hxw; have HY8 := Lib.hid hy8; have HYW := Lib.hid hyw; have HXR := Lib.hid hxr; have HNE := Lib.hid hne
  have I0 : Hid (AddV w gv x y 0 w) := ⟨Keeps.refl _ _, x, hx8, fun j hj => absurd hj (by omega), fun _ _ => rfl, hv⟩
  obtain ⟨T, hT⟩ : ∃ T, T = a.tmps := ⟨_, rfl⟩
  have hk := hfr.known
  have hlit := hfr.act
  rw [← hT] at hk hlit
  have k2 : slot T 2 = v2 := hk (2, v2) (by simp)
  have k3 : slot T 3 = .pointer (some ⟨gv, 0, none⟩) := hk (3, .pointer (some ⟨gv, 0, none⟩)) (by simp)
  have k4 : slot T 4 = v4 := hk (4, v4) (by simp)
  have k5 : slot T 5 = v5 := hk (5, v5) (by simp)
  have k6 : slot T 6 = v6 := hk (6, v6) (by simp)
  have k13 : slot T 13 = .pointer (some ⟨gx, 0, none⟩) := hk (13, .pointer (some ⟨gx, 0, none⟩)) (by simp)
  have k218 : slot T 218 = .int .i64 0 := hk (218, .int .i64 0) (by simp)
  have hlit2 : a = ⟨#[slot T 0, slot T 1, slot T 2, slot T 3, slot T 4, slot T 5, slot T 6, slot T 7, slot T 8, slot T 9, slot T 10, slot T 11, slot T 12, slot T 13, slot T 14, slot T 15, slot T 16, slot T 17, slot T 18, slot T 19, slot T 20, slot T 21, slot T 22, slot T 23, slot T 24, slot T 25, slot T 26, slot T 27, slot T 28, slot T 29, slot T 30, slot T 31, slot T 32, slot T 33, slot T 34, slot T 35, slot T 36, slot T 37, slot T 38, slot T 39, slot T 40, slot T 41, slot T 42, slot T 43, slot T 44, slot T 45, slot T 46, slot T 47, slot T 48, slot T 49, slot T 50, slot T 51, slot T 52, slot T 53, slot T 54, slot T 55, slot T 56, slot T 57, slot T 58, slot T 59, slot T 60, slot T 61, slot T 62, slot T 63, slot T 64, slot T 65, slot T 66, slot T 67, slot T 68, slot T 69, slot T 70, slot T 71, slot T 72, slot T 73, slot T 74, slot T 75, slot T 76, slot T 77, slot T 78, slot T 79, slot T 80, slot T 81, slot T 82, slot T 83, slot T 84, slot T 85, slot T 86, slot T 87, slot T 88, slot T 89, slot T 90, slot T 91, slot T 92, slot T 93, slot T 94, slot T 95, slot T 96, slot T 97, slot T 98, slot T 99, slot T 100, slot T 101, slot T 102, slot T 103, slot T 104, slot T 105, slot T 106, slot T 107, slot T 108, slot T 109, slot T 110, slot T 111, slot T 112, slot T 113, slot T 114, slot T 115, slot T 116, slot T 117, slot T 118, slot T 119, slot T 120, slot T 121, slot T 122, slot T 123, slot T 124, slot T 125, slot T 126, slot T 127, slot T 128, slot T 129, slot T 130, slot T 131, slot T 132, slot T 133, slot T 134, slot T 135, slot T 136, slot T 137, slot T 138, slot T 139, slot T 140, slot T 141, slot T 142, slot T 143, slot T 144, slot T 145, slot T 146, slot T 147, slot T 148, slot T 149, slot T 150, slot T 151, slot T 152, slot T 153, slot T 154, slot T 155, slot T 156, slot T 157, slot T 158, slot T 159, slot T 160, slot T 161, slot T 162, slot T 163, slot T 164, slot T 165, slot T 166, slot T 167, slot T 168, slot T 169, slot T 170, slot T 171, slot T 172, slot T 173, slot T 174, slot T 175, slot T 176, slot T 177, slot T 178, slot T 179, slot T 180, slot T 181, slot T 182, slot T 183, slot T 184, slot T 185, slot T 186, slot T 187, slot T 188, slot T 189, slot T 190, slot T 191, slot T 192, slot T 193, slot T 194, slot T 195, slot T 196, slot T 197, slot T 198, slot T 199, slot T 200, slot T 201, slot T 202, slot T 203, slot T 204, slot T 205, slot T 206, slot T 207, slot T 208, slot T 209, slot T 210, slot T 211, slot T 212, slot T 213, slot T 214, slot T 215, slot T 216, slot T 217, slot T 218, slot T 219, slot T 220, slot T 221, slot T 222, slot T 223, slot T 224, slot T 225, slot T 226, slot T 227, slot T 228, slot T 229, slot T 230, slot T 231, slot T 232, slot T 233, slot T 234, slot T 235, slot T 236, slot T 237, slot T 238, slot T 239, slot T 240, slot T 241, slot T 242, slot T 243, slot T 244, slot T 245, slot T 246, slot T 247, slot T 248, slot T 249, slot T 250, slot T 251, slot T 252, slot T 253], []⟩ := hlit
  rw [k2, k3, k4, k5, k6, k13, k218] at hlit2
  subst hlit2
  clear hfr hk hlit hT k2 k3 k4 k5 k6 k13 k218
  clear hx8 hxw hy8 hyw hv hxr hne
  conv => arg 2; whnf
  go_wp2
  go_loopw [218] (fun s wr => ∃ k : Nat, s = .int .i64 (k : Int) ∧ k ≤ 8 ∧ Hid (AddV w gv x y k wr)) (fun s _ => (8 - intOf s).toNat)
  case atStart => exact ⟨0, rfl, by omega, I0⟩
  case round =>
    obtain ⟨j, rfl, hj, HJ⟩ := hrel
    by_cases h8 : j = 8
    · have hge : ¬ (j : Int) < 8 := by omega
      subst h8
      go_wp2_with fail
      exact fr_of rfl rfl
    · have hlt : (j : Int) < 8 := by omega
      obtain ⟨l, hl, hp, hq, hr⟩ := HJ.out.row
      have hrb := lt_of_block hr
      have c1 := cell_w hr j (by omega)
      have c2 := cell_w ((HJ.out.keeps.block gx (lt_of_block HXR.out) HNE.out).trans HXR.out) j (by rw [HY8.out]; omega)
      have hxb : gx < wr.heap.size := Nat.lt_of_lt_of_le (lt_of_block HXR.out) HJ.out.keeps.size
      have fz := frozen_of_row wr gv j _ _ hr
      rw [hq j (Nat.le_refl _)] at c1
      have hstep := Lib.hid (HJ.out.step (show j < 8 by omega))
      have b1 := HXW.out j; have b2 := HYW.out j
      have hne : gx ≠ gv := HNE.out
      obtain ⟨xj, hxj⟩ : ∃ r, nth x j = r := ⟨_, rfl⟩
      obtain ⟨yj, hyj⟩ : ∃ r, nth y j = r := ⟨_, rfl⟩
      rw [hxj, hyj] at hstep; rw [hxj] at c1 b1; rw [hyj] at c2 b2
      obtain ⟨s1, hs1⟩ : ∃ r, xj + yj = r := ⟨_, rfl⟩
      have v1 : IntKind.u64.wrap ((xj : Int) + yj) = (s1 : Int) := by rw [IntKind.wrap_u64]; omega
      obtain ⟨s, hs⟩ : ∃ r, s1 % 4294967296 = r := ⟨_, rfl⟩
      have v2' : (s1 : Int).tmod 4294967296 = (s : Int) := by rw [Int.tmod_eq_emod_of_nonneg (Int.natCast_nonneg _)]; omega
      have v3' : (s1 : Int) % 4294967296 = (s : Int) := by omega
      rw [hs1, hs] at hstep
      clear hl hp hq hr hxj hyj hs hs1 h8 b1 b2
      go_wp2_with fail
      go_still_tail 10, (by kernel_rfl)
      change wpList _ _ _ _ _ wr.drew
      go_wp2_with fail
      go_roundw
      case rel => exact ⟨j + 1, by go_num, by omega, hstep.out⟩
      case measure => simp [intOf]; omega
theorem index_q0 (a b c d e f g h : Nat) (w : World) : (Instr.index 70 (.agg (wcells .u64 [a, b, c, d, e, f, g, h])) (.int .i64 ((0 : Nat) : Int))).run Try.prog w = .ok (.int .u64 ((a : Nat) : Int)) w := by kernel_rfl
theorem index_q1 (a b c d e f g h : Nat) (w : World) : (Instr.index 70 (.agg (wcells .u64 [a, b, c, d, e, f, g, h])) (.int .i64 ((1 : Nat) : Int))).run Try.prog w = .ok (.int .u64 ((b : Nat) : Int)) w := by kernel_rfl
theorem index_q2 (a b c d e f g h : Nat) (w : World) : (Instr.index 70 (.agg (wcells .u64 [a, b, c, d, e, f, g, h])) (.int .i64 ((2 : Nat) : Int))).run Try.prog w = .ok (.int .u64 ((c : Nat) : Int)) w := by kernel_rfl
theorem index_q3 (a b c d e f g h : Nat) (w : World) : (Instr.index 70 (.agg (wcells .u64 [a, b, c, d, e, f, g, h])) (.int .i64 ((3 : Nat) : Int))).run Try.prog w = .ok (.int .u64 ((d : Nat) : Int)) w := by kernel_rfl
theorem index_q4 (a b c d e f g h : Nat) (w : World) : (Instr.index 70 (.agg (wcells .u64 [a, b, c, d, e, f, g, h])) (.int .i64 ((4 : Nat) : Int))).run Try.prog w = .ok (.int .u64 ((e : Nat) : Int)) w := by kernel_rfl
theorem index_q5 (a b c d e f g h : Nat) (w : World) : (Instr.index 70 (.agg (wcells .u64 [a, b, c, d, e, f, g, h])) (.int .i64 ((5 : Nat) : Int))).run Try.prog w = .ok (.int .u64 ((f : Nat) : Int)) w := by kernel_rfl
theorem index_q6 (a b c d e f g h : Nat) (w : World) : (Instr.index 70 (.agg (wcells .u64 [a, b, c, d, e, f, g, h])) (.int .i64 ((6 : Nat) : Int))).run Try.prog w = .ok (.int .u64 ((g : Nat) : Int)) w := by kernel_rfl
theorem index_q7 (a b c d e f g h : Nat) (w : World) : (Instr.index 70 (.agg (wcells .u64 [a, b, c, d, e, f, g, h])) (.int .i64 ((7 : Nat) : Int))).run Try.prog w = .ok (.int .u64 ((h : Nat) : Int)) w := by kernel_rfl
theorem index_q (l : List Nat) (hl : l.length = 8) (i : Nat) (hi : i < 8) (w : World) : (Instr.index 70 (.agg (wcells .u64 l)) (.int .i64 (i : Int))).run Try.prog w = .ok (.int .u64 ((nth l i : Nat) : Int)) w := by
  match l, hl with
  | [a, b, c, d, e, f, g, h], _ =>
    match i, hi with
    | 0, _ => exact index_q0 a b c d e f g h w
    | 1, _ => exact index_q1 a b c d e f g h w
    | 2, _ => exact index_q2 a b c d e f g h w
    | 3, _ => exact index_q3 a b c d e f g h w
    | 4, _ => exact index_q4 a b c d e f g h w
    | 5, _ => exact index_q5 a b c d e f g h w
    | 6, _ => exact index_q6 a b c d e f g h w
    | 7, _ => exact index_q7 a b c d e f g h w
/-- What loop 7 holds: the bytes of i words. -/
structure OutV (w : World) (gO : Nat) (fs : List Nat) (i : Nat) (wr : World) : Prop where
  keeps : Keeps (fun b => b = gO) w wr
  row : ∃ l : List Nat, l.length = 32 ∧ (∀ j, j < 4 * i → nth l j = nth (outB fs) j) ∧ wr.heap[gO]? = some (.cells (wcells .u8 l) 61 (0, 0))
theorem OutV.step {w wr : World} {gO : Nat} {fs : List Nat} {i : Nat} (h : OutV w gO fs i wr) (hi : i < 8) (y0 y1 y2 y3 : Nat) (h0 : nth (outB fs) (4 * i + 0) = y0) (h1 : nth (outB fs) (4 * i + 1) = y1) (h2 : nth (outB fs) (4 * i + 2) = y2) (h3 : nth (outB fs) (4 * i + 3) = y3) :
    OutV w gO fs (i + 1) ((((wr.setCell ⟨gO, 4 * i + 3, none⟩ (.int .u8 (y3 : Int))).setCell ⟨gO, 4 * i + 2, none⟩ (.int .u8 (y2 : Int))).setCell ⟨gO, 4 * i + 1, none⟩ (.int .u8 (y1 : Int))).setCell ⟨gO, 4 * i + 0, none⟩ (.int .u8 (y0 : Int))) := by
  obtain ⟨l, hl, hp, hr⟩ := h.row
  refine ⟨(((h.keeps.setCell _ (Or.inl rfl)).setCell _ (Or.inl rfl)).setCell _ (Or.inl rfl)).setCell _ (Or.inl rfl), (((l.set (4 * i + 3) y3).set (4 * i + 2) y2).set (4 * i + 1) y1).set (4 * i + 0) y0, by simpa using hl, fun j hj => ?_, set_w (set_w (set_w (set_w hr _ _) _ _) _ _) _ _⟩
  rw [nth_set _ _ _ _ (by simp; omega), nth_set _ _ _ _ (by simp; omega), nth_set _ _ _ _ (by simp; omega), nth_set _ _ _ _ (by omega)]
  split
  · next e => rw [← e, h0]
  · split
    · next e => rw [← e, h1]
    · split
      · next e => rw [← e, h2]
      · split
        · next e => rw [← e, h3]
        · exact hp j (by omega)
theorem OutV.done {w wr : World} {gO : Nat} {fs : List Nat} (h : OutV w gO fs 8 wr) : wr.heap[gO]? = some (.cells (wcells .u8 (outB fs)) 61 (0, 0)) := by
  obtain ⟨l, hl, hp, hr⟩ := h.row
  have e : l = outB fs := nth_ext _ _ (by rw [hl, outB_len]) (fun j hj => hp j (by omega))
  rw [e] at hr; exact hr
set_option maxRecDepth 100000 in
set_option maxHeartbeats 4000000 in
/-- Loop 7: the bytes. -/
theorem rsum_l7 (v2 : Value) (gO : Nat) (fs l0 : List Nat) (hf8 : fs.length = 8) (hfw : W32 fs) (hl0 : l0.length = 32) (a : Act) (w : World) (hfr : Fr 254 a [(2, v2), (22, .pointer (some ⟨gO, 0, none⟩)), (233, .agg (wcells .u64 fs)), (234, .int .i64 0)])
    (ho : w.heap[gO]? = some (.cells (wcells .u8 l0) 61 (0, 0))) :
    (piece Try.f34 12).wp Try.prog (fun e a' w' => e = .normal ∧ Hid (Fr 254 a' [(2, v2), (22, .pointer (some ⟨gO, 0, none⟩))]) ∧ Hid (OutV w gO fs 8 w')) a w := by
  have HF8 := Lib.hid hf8; have HFW := Lib.hid hfw
  have I0 : Hid (OutV w gO fs 0 w) := ⟨Keeps.refl _ _, l0, hl0, fun j hj => absurd hj (by omega), ho⟩
  obtain ⟨T, hT⟩ : ∃ T, T = a.tmps := ⟨_, rfl⟩
  have hk := hfr.known
  have hlit := hfr.act
  rw [← hT] at hk hlit
  have k2 : slot T 2 = v2 := hk (2, v2) (by simp)
  have k22 : slot T 22 = .pointer (some ⟨gO, 0, none⟩) := hk (22, .pointer (some ⟨gO, 0, none⟩)) (by simp)
  have k233 : slot T 233 = .agg (wcells .u64 fs) := hk (233, .agg (wcells .u64 fs)) (by simp)
  have k234 : slot T 234 = .int .i64 0 := hk (234, .int .i64 0) (by simp)
  have hlit2 : a = ⟨#[slot T 0, slot T 1, slot T 2, slot T 3, slot T 4, slot T 5, slot T 6, slot T 7, slot T 8, slot T 9, slot T 10, slot T 11, slot T 12, slot T 13, slot T 14, slot T 15, slot T 16, slot T 17, slot T 18, slot T 19, slot T 20, slot T 21, slot T 22, slot T 23, slot T 24, slot T 25, slot T 26, slot T 27, slot T 28, slot T 29, slot T 30, slot T 31, slot T 32, slot T 33, slot T 34, slot T 35, slot T 36, slot T 37, slot T 38, slot T 39, slot T 40, slot T 41, slot T 42, slot T 43, slot T 44, slot T 45, slot T 46, slot T 47, slot T 48, slot T 49, slot T 50, slot T 51, slot T 52, slot T 53, slot T 54, slot T 55, slot T 56, slot T 57, slot T 58, slot T 59, slot T 60, slot T 61, slot T 62, slot T 63, slot T 64, slot T 65, slot T 66, slot T 67, slot T 68, slot T 69, slot T 70, slot T 71, slot T 72, slot T 73, slot T 74, slot T 75, slot T 76, slot T 77, slot T 78, slot T 79, slot T 80, slot T 81, slot T 82, slot T 83, slot T 84, slot T 85, slot T 86, slot T 87, slot T 88, slot T 89, slot T 90, slot T 91, slot T 92, slot T 93, slot T 94, slot T 95, slot T 96, slot T 97, slot T 98, slot T 99, slot T 100, slot T 101, slot T 102, slot T 103, slot T 104, slot T 105, slot T 106, slot T 107, slot T 108, slot T 109, slot T 110, slot T 111, slot T 112, slot T 113, slot T 114, slot T 115, slot T 116, slot T 117, slot T 118, slot T 119, slot T 120, slot T 121, slot T 122, slot T 123, slot T 124, slot T 125, slot T 126, slot T 127, slot T 128, slot T 129, slot T 130, slot T 131, slot T 132, slot T 133, slot T 134, slot T 135, slot T 136, slot T 137, slot T 138, slot T 139, slot T 140, slot T 141, slot T 142, slot T 143, slot T 144, slot T 145, slot T 146, slot T 147, slot T 148, slot T 149, slot T 150, slot T 151, slot T 152, slot T 153, slot T 154, slot T 155, slot T 156, slot T 157, slot T 158, slot T 159, slot T 160, slot T 161, slot T 162, slot T 163, slot T 164, slot T 165, slot T 166, slot T 167, slot T 168, slot T 169, slot T 170, slot T 171, slot T 172, slot T 173, slot T 174, slot T 175, slot T 176, slot T 177, slot T 178, slot T 179, slot T 180, slot T 181, slot T 182, slot T 183, slot T 184, slot T 185, slot T 186, slot T 187, slot T 188, slot T 189, slot T 190, slot T 191, slot T 192, slot T 193, slot T 194, slot T 195, slot T 196, slot T 197, slot T 198, slot T 199, slot T 200, slot T 201, slot T 202, slot T 203, slot T 204, slot T 205, slot T 206, slot T 207, slot T 208, slot T 209, slot T 210, slot T 211, slot T 212, slot T 213, slot T 214, slot T 215, slot T 216, slot T 217, slot T 218, slot T 219, slot T 220, slot T 221, slot T 222, slot T 223, slot T 224, slot T 225, slot T 226, slot T 227, slot T 228, slot T 229, slot T 230, slot T 231, slot T 232, slot T 233, slot T 234, slot T 235, slot T 236, slot T 237, slot T 238, slot T 239, slot T 240, slot T 241, slot T 242, slot T 243, slot T 244, slot T 245, slot T 246, slot T 247, slot T 248, slot T 249, slot T 250, slot T 251, slot T 252, slot T 253], []⟩ := hlit
  rw [k2, k22, k233, k234] at hlit2
  subst hlit2
  clear hfr hk hlit hT k2 k22 k233 k234
  clear hf8 hfw ho hl0
  conv => arg 2; whnf
  go_wp2
  go_loopw [234] (fun s wr => ∃ k : Nat, s = .int .i64 (k : Int) ∧ k ≤ 8 ∧ Hid (OutV w gO fs k wr)) (fun s _ => (8 - intOf s).toNat)
  case atStart => exact ⟨0, rfl, by omega, I0⟩
  case round =>
    obtain ⟨i, rfl, hi, HJ⟩ := hrel
    by_cases h8 : i = 8
    · have hge : ¬ (i : Int) < 8 := by omega
      subst h8
      go_wp2_with fail
      exact fr_of rfl rfl
    · have hlt : (i : Int) < 8 := by omega
      have hix := index_q fs HF8.out i (by omega)
      have hb := HFW.out i
      have o0 := outB_at8 fs i 0 (by omega) (by decide); have o1 := outB_at8 fs i 1 (by omega) (by decide); have o2 := outB_at8 fs i 2 (by omega) (by decide); have o3 := outB_at8 fs i 3 (by omega) (by decide)
      obtain ⟨l, hl, hp, hr⟩ := HJ.out.row
      have hrb := lt_of_block hr
      obtain ⟨z, hz⟩ : ∃ z, nth fs i = z := ⟨_, rfl⟩
      rw [hz] at hix hb o0 o1 o2 o3
      obtain ⟨n1, hn1⟩ : ∃ n, z / 256 = n := ⟨_, rfl⟩
      obtain ⟨n2, hn2⟩ : ∃ n, n1 / 256 = n := ⟨_, rfl⟩
      obtain ⟨n3, hn3⟩ : ∃ n, n2 / 256 = n := ⟨_, rfl⟩
      obtain ⟨y3, hy3⟩ : ∃ n, z % 256 = n := ⟨_, rfl⟩
      obtain ⟨y2, hy2⟩ : ∃ n, n1 % 256 = n := ⟨_, rfl⟩
      obtain ⟨y1, hy1⟩ : ∃ n, n2 % 256 = n := ⟨_, rfl⟩
      obtain ⟨y0, hy0⟩ : ∃ n, n3 % 256 = n := ⟨_, rfl⟩
      have d1 : (z : Int).tdiv 256 = (n1 : Int) := by rw [Int.tdiv_eq_ediv_of_nonneg (Int.natCast_nonneg _)]; omega
      have d2 : (n1 : Int).tdiv 256 = (n2 : Int) := by rw [Int.tdiv_eq_ediv_of_nonneg (Int.natCast_nonneg _)]; omega
      have d3 : (n2 : Int).tdiv 256 = (n3 : Int) := by rw [Int.tdiv_eq_ediv_of_nonneg (Int.natCast_nonneg _)]; omega
      have u1 : IntKind.u64.wrap (n1 : Int) = (n1 : Int) := by rw [IntKind.wrap_u64]; omega
      have u2 : IntKind.u64.wrap (n2 : Int) = (n2 : Int) := by rw [IntKind.wrap_u64]; omega
      have u3 : IntKind.u64.wrap (n3 : Int) = (n3 : Int) := by rw [IntKind.wrap_u64]; omega
      have d1' : (z : Int) / 256 = (n1 : Int) := by omega
      have d2' : (n1 : Int) / 256 = (n2 : Int) := by omega
      have d3' : (n2 : Int) / 256 = (n3 : Int) := by omega
      have t3 : (z : Int).tmod 256 = (y3 : Int) := by rw [Int.tmod_eq_emod_of_nonneg (Int.natCast_nonneg _)]; omega
      have t2 : (n1 : Int).tmod 256 = (y2 : Int) := by rw [Int.tmod_eq_emod_of_nonneg (Int.natCast_nonneg _)]; omega
      have t1 : (n2 : Int).tmod 256 = (y1 : Int) := by rw [Int.tmod_eq_emod_of_nonneg (Int.natCast_nonneg _)]; omega
      have t0 : (n3 : Int).tmod 256 = (y0 : Int) := by rw [Int.tmod_eq_emod_of_nonneg (Int.natCast_nonneg _)]; omega
      have t3' : (z : Int) % 256 = (y3 : Int) := by omega
      have t2' : (n1 : Int) % 256 = (y2 : Int) := by omega
      have t1' : (n2 : Int) % 256 = (y1 : Int) := by omega
      have t0' : (n3 : Int) % 256 = (y0 : Int) := by omega
      have p3 : (y3 : Int) % 256 = (y3 : Int) := by omega
      have p2 : (y2 : Int) % 256 = (y2 : Int) := by omega
      have p1 : (y1 : Int) % 256 = (y1 : Int) := by omega
      have p0 : (y0 : Int) % 256 = (y0 : Int) := by omega
      have hstep := Lib.hid (HJ.out.step (show i < 8 by omega) y0 y1 y2 y3 (by rw [o0]; simp; omega) (by rw [o1]; simp; omega) (by rw [o2]; simp; omega) (by rw [o3]; simp; omega))
      have c3 := cell_w hr (4 * i + 3) (by omega); have c2 := cell_w hr (4 * i + 2) (by omega); have c1 := cell_w hr (4 * i + 1) (by omega); have c0 := cell_w hr (4 * i + 0) (by omega)
      have f3 := frozen_of_row wr gO (4 * i + 3) _ _ hr; have f2 := frozen_of_row wr gO (4 * i + 2) _ _ hr; have f1 := frozen_of_row wr gO (4 * i + 1) _ _ hr; have f0 := frozen_of_row wr gO (4 * i + 0) _ _ hr
      obtain ⟨q, hq⟩ : ∃ q, 4 * i = q := ⟨_, rfl⟩
      have m0 : IntKind.i64.wrap (4 * (i : Int)) = (q : Int) := by rw [IntKind.wrap_i64]; omega
      rw [hq] at hstep c3 c2 c1 c0 f3 f2 f1 f0
      have q32 : (q : Int) ≤ 28 := by omega
      obtain ⟨q3, hq3⟩ : ∃ r, q + 3 = r := ⟨_, rfl⟩
      obtain ⟨q2, hq2⟩ : ∃ r, q + 2 = r := ⟨_, rfl⟩
      obtain ⟨q1, hq1⟩ : ∃ r, q + 1 = r := ⟨_, rfl⟩
      rw [Nat.add_zero] at hstep c0 f0
      rw [hq3, hq2, hq1] at hstep; rw [hq3] at c3 f3; rw [hq2] at c2 f2; rw [hq1] at c1 f1
      have m3 : IntKind.i64.wrap ((q : Int) + 3) = (q3 : Int) := by rw [IntKind.wrap_i64]; omega
      have m2 : IntKind.i64.wrap ((q : Int) + 2) = (q2 : Int) := by rw [IntKind.wrap_i64]; omega
      have m1 : IntKind.i64.wrap ((q : Int) + 1) = (q1 : Int) := by rw [IntKind.wrap_i64]; omega
      have l3 : (q3 : Int) < 32 := by omega
      have l2 : (q2 : Int) < 32 := by omega
      have l1 : (q1 : Int) < 32 := by omega
      have l0' : (q : Int) < 32 := by omega
      have ne32 : q3 ≠ q2 := by omega
      have ne31 : q3 ≠ q1 := by omega
      have ne30 : q3 ≠ q := by omega
      have ne21 : q2 ≠ q1 := by omega
      have ne20 : q2 ≠ q := by omega
      have ne10 : q1 ≠ q := by omega
      clear hl hp hr hz hn1 hn2 hn3 hy0 hy1 hy2 hy3 o0 o1 o2 o3 hb HJ hq3 hq2 hq1
      go_wp2_with fail
      refine wp_loop_rounds 5 ?_
      rw [rounds_succ]; go_wp2_with fail
      rw [rounds_succ]; go_wp2_with fail
      rw [rounds_succ]; go_wp2_with fail
      rw [rounds_succ]; go_wp2_with fail
      rw [rounds_succ]; go_wp2_with fail
      go_roundw
      case rel => exact ⟨i + 1, by go_num, by omega, hstep.out⟩
      case measure => simp [intOf]; omega
end Go.Proofs.Ytbjcigokimieoaa
