/-
  Lemmas of the claim, part 1. (Printed by shake.py, mini.py.)
-/
import Derived.Orders
import Derived.RegionTactic
import Derived.Below
import Derived.WalkKit
import Derived.Handy
import Derived.Lib.Hide
import Derived.Test.YtbaifchbpnmkpaaGreatRows
import Derived.WalkSpells
import Derived.WalkLawsBesides
import Derived.Laws.Externs
import Derived.BigRegion
import Derived.Shelf.Spec.BitsCarry
import Derived.Shelf.Strconv.Itoa0
import Derived.Shelf.Bits.Mul64
import Derived.Test.YtbaifchbpnmkpaaGreatProg
import Derived.Lib.BitFns
import Derived.Laws.Bits64b
import Derived.BigQuiet
import Derived.LoopTactic
import Derived.Deep.WholeRow
import Derived.ChangeKeysEq
import Derived.Deep.RegionHeld3
import Derived.Deep.DeepCutAuto
import Derived.Deep.MidRow
import Derived.Deep.LoopGhost
import Derived.LoopN
import Derived.Laws.StructEq
import Derived.Laws.AppendOwn
import Derived.Laws.OwnMore
import Derived.Outline
import Derived.Deep.QuietTactic
import Derived.Laws.Bits64
import Derived.Great.BuildSlice
import Derived.StillTailTactics
import Derived.Deep.AppendSrc
import Derived.Deep.AppendLies
import Derived.Deep.RegionLaw
import Derived.Deep.CutBlock
import Derived.Great.Walk
import Derived.Lib.ConvBytes
import Derived.Lib.BufferRead
import Derived.Laws.BytesArg
import Derived.ProofKit
import Derived.OpenShut
import Derived.Carry
import Derived.Lib.SmallJoins
import Derived.Laws.IdiomArrays
import Derived.Deep.Matrix
set_option maxRecDepth 100000
set_option maxHeartbeats 16000000
set_option linter.unusedVariables false
set_option linter.unusedSimpArgs false
namespace Go.Proofs.YtbaifchbpnmkpaaGreat
theorem bft (b : Bool) : b = true ∨ b = false := Bool.eq_false_or_eq_true b
abbrev ro (g : Nat) (c : Array Value) (t : TypeId) : Nat × Obj := (g, .cells c t (0, 0))
abbrev vu (n : Nat) : Value := .int .u64 (n : Int)
abbrev vi (n : Nat) : Value := .int .i64 (n : Int)
abbrev vcz (n : Nat) : Value := .int .u8 (n : Int)
abbrev vd (n : Nat) : Value := .int .u32 (n : Int)
open Go.RowKit
def also (L : Nat → Bool) (i : Nat) : Nat → Bool := fun j => j == i || L j
theorem wp_region_inv {P : Program} {ops : Array Oper} {Q : Exit → Act → World → Prop} {id : Nat} {a : Act} {w : World} (n : Nat) (hn : ops.size = n) (hm : P.follows .mixedOrders = true)
 (hac : ∀ (i : Nat) (o : Oper), ops[i]? = some o → ∀ e ∈ o.after, Region.binds .any e = true → e.on < i) (I : (Nat → Bool) → Act → World → Prop) (h0 : I (fun _ => false) a w.drew)
 (step : ∀ (i : Nat) (o : Oper), ops[i]? = some o → ∀ L a w, I L a w → L i = false → (∀ e ∈ o.after, Region.binds .any e = true → L e.on = true) →
  if Region.wanted o (yielded ops a.tmps) = true then Oper.wp P o a w (I (also L i)) Q else I (also L i) (a.put o.dst undef) w)
 (fin : ∀ L a w, (∀ i, i < n → L i = true) → I L a w → Q .normal a w) : (Code.region id ops true).wp P Q a w := by
 refine wp_region_any hm ?_
 have key : ∀ (fuel : Nat) (listed : Array Bool) (a : Act) (w : World), listed.size = n → (List.range n).countP (fun i => !listed.getD i false) ≤ fuel → I (fun i => listed.getD i false) a w → wpAny P .any ops Q fuel listed a w := by
  have full : ∀ (listed : Array Bool), listed.size = n → Region.ready .any ops listed = [] → ∀ i, i < n → listed.getD i false = true := by
   intro listed hs hr i
   induction i using Nat.strongRecOn with
   | _ i ih =>
    intro hi
    cases hl : listed.getD i false with
    | true => rfl
    | false =>
     have hmem : i ∈ Region.ready .any ops listed := by
      have hsz : i < ops.size := by omega
      refine mem_ready.2 ⟨?_, ops[i], Array.getElem?_eq_getElem hsz, fun e he hbd => ih _ (hac i _ (Array.getElem?_eq_getElem hsz) e he hbd) (by have := hac i _ (Array.getElem?_eq_getElem hsz) e he hbd; omega)⟩
      rw [Array.getD_eq_getD_getElem?] at hl ⊢
      rw [Array.getElem?_eq_getElem (by omega)] at hl ⊢
      exact hl
     rw [hr] at hmem; cases hmem
  intro fuel
  induction fuel with
  | zero =>
   intro listed a w hs hc hI
   have hall : ∀ i, i < n → listed.getD i false = true := by
    intro i hi
    have := List.countP_eq_zero.1 (Nat.le_zero.1 hc) i (List.mem_range.2 hi)
    simpa using this
   refine ⟨?_, fin _ a w hall hI⟩
   refine List.eq_nil_iff_forall_not_mem.2 fun i hi => ?_
   obtain ⟨h1, o, ho, -⟩ := mem_ready.1 hi
   have hlt : i < n := by have := (Array.getElem?_eq_some_iff.1 ho).1; omega
   have := hall i hlt
   rw [Array.getD_eq_getD_getElem?, Array.getElem?_eq_getElem (by omega)] at this h1
   simp at this h1
   rw [this] at h1; cases h1
  | succ fuel ih =>
   intro listed a w hs hc hI
   refine ⟨fun hr => fin _ a w (full listed hs hr) hI, fun i hi => ?_⟩
   obtain ⟨h1, o, ho, hdep⟩ := mem_ready.1 hi
   have hlt : i < n := by have := (Array.getElem?_eq_some_iff.1 ho).1; omega
   refine wpOp_step ho fun K' hK => ?_
   have hf0 : listed.getD i false = false := by
    rw [Array.getD_eq_getD_getElem?, Array.getElem?_eq_getElem (by omega)] at h1 ⊢; exact h1
   have st := step i o ho _ a w hI hf0 hdep
   have hset : (fun j => (listed.setIfInBounds i true).getD j false) = also (fun j => listed.getD j false) i := by
    funext j
    unfold also
    simp only [Array.getD_eq_getD_getElem?, Array.getElem?_setIfInBounds]
    by_cases e : i = j
    ·subst e; simp [hs, hlt]
    ·simp [e, show ¬ j = i from fun h => e h.symm]
   have hcount : (List.range n).countP (fun j => !(listed.setIfInBounds i true).getD j false) ≤ fuel := by
    have hf : listed.getD i false = false := by
     rw [Array.getD_eq_getD_getElem?, Array.getElem?_eq_getElem (by omega)] at h1 ⊢; exact h1
    have hlt2 : (List.range n).countP (fun j => !(listed.setIfInBounds i true).getD j false) < (List.range n).countP (fun j => !listed.getD j false) := by
     have h3 := congrFun hset
     simp only [h3]
     clear h3 hset
     have : ∀ l : List Nat, i ∈ l → l.countP (fun j => !also (fun j => listed.getD j false) i j) < l.countP (fun j => !listed.getD j false) := by
      intro l
      induction l with
      | nil => intro h; cases h
      | cons x l ihl =>
       intro h
       have hle : l.countP (fun j => !also (fun j => listed.getD j false) i j) ≤ l.countP (fun j => !listed.getD j false) := List.countP_mono_left fun y _ hy => by simp [also] at hy ⊢; exact hy.2
       by_cases e : x = i
       ·subst e
        rw [List.countP_cons, List.countP_cons]; simp only [also, beq_self_eq_true, Bool.true_or, hf]; simp only [Bool.not_true, Bool.false_eq_true, if_false, Bool.not_false, if_true]
        exact Nat.lt_succ_of_le hle
       ·have hm2 : i ∈ l := by rcases List.mem_cons.1 h with h | h; exact absurd h.symm e; exact h
        have := ihl hm2
        rw [List.countP_cons, List.countP_cons]
        have e2 : (also (fun j => listed.getD j false) i x) = listed.getD x false := by simp [also, e]
        rw [e2]; omega
     exact this _ (List.mem_range.2 hlt)
    omega
   have goK : ∀ a' w', I (also (fun j => listed.getD j false) i) a' w' → K' a' w' := fun a' w' h => hK a' w' (ih _ a' w' (by simpa using hs) hcount (by rw [hset]; exact h))
   split
   ·rename_i hw; rw [if_pos hw] at st; exact Oper.wp_mono goK st
   ·rename_i hw; rw [if_neg hw] at st; exact goK _ _ st
 refine key _ _ _ _ (by simp [hn]) ?_ ?_
 ·rw [hn]; exact Nat.le_trans (List.countP_le_length) (by simp)
 ·have : (fun i => (Array.replicate ops.size false).getD i false) = fun _ => false := by
   funext i
   rw [Array.getD_eq_getD_getElem?, Array.getElem?_replicate]; split <;> rfl
  rw [this]; exact h0
def plainOps (ops : List Oper) : Bool := (List.range ops.length).all fun i => match ops[i]? with | some o => o.guard.isNone && o.after.all (fun e => !Region.binds .any e || decide (e.on < i)) | none => true
def Steps (P : Program) (I : (Nat → Bool) → Act → World → Prop) (Q : Exit → Act → World → Prop) : Nat → List Oper → Prop
 | _, [] => True
 | i, o :: rest => (∀ L a w, I L a w → L i = false → (∀ e ∈ o.after, Region.binds .any e = true → L e.on = true) → Oper.wp P o a w (I (also L i)) Q) ∧ Steps P I Q (i + 1) rest
theorem Steps.at_ {P : Program} {I : (Nat → Bool) → Act → World → Prop} {Q : Exit → Act → World → Prop} : ∀ {l : List Oper} {i : Nat}, Steps P I Q i l → ∀ (j : Nat) (o : Oper), l[j]? = some o →
 ∀ L a w, I L a w → L (i + j) = false → (∀ e ∈ o.after, Region.binds .any e = true → L e.on = true) → Oper.wp P o a w (I (also L (i + j))) Q
 | [], _, _, j, o, h => by simp at h
 | x :: l, i, hs, 0, o, h => by
  simp at h; subst h
  exact hs.1
 | x :: l, i, hs, j + 1, o, h => by
  have := Steps.at_ hs.2 j o (by simpa using h)
  rw [show i + 1 + j = i + (j + 1) by omega] at this
  exact this
theorem wp_region_steps {P : Program} {l : List Oper} {Q : Exit → Act → World → Prop} {id : Nat} {a : Act} {w : World} (hm : P.follows .mixedOrders = true) (hp : plainOps l = true)
 (I : (Nat → Bool) → Act → World → Prop) (h0 : I (fun _ => false) a w.drew) (step : Steps P I Q 0 l)
 (fin : ∀ L a w, (∀ i, i < l.length → L i = true) → I L a w → Q .normal a w) : (Code.region id l.toArray true).wp P Q a w := by
 have look : ∀ (i : Nat) (o : Oper), l.toArray[i]? = some o → o.guard.isNone = true ∧ ∀ e ∈ o.after, Region.binds .any e = true → e.on < i := by
  intro i o ho
  have ho' : l[i]? = some o := by simpa using ho
  have hi : i < l.length := (List.getElem?_eq_some_iff.1 ho').1
  have h1 := List.all_eq_true.1 hp i (List.mem_range.2 hi)
  rw [ho', Bool.and_eq_true] at h1
  refine ⟨h1.1, fun e he hbd => ?_⟩
  have h2 := Array.all_eq_true_iff_forall_mem.1 h1.2 e he
  rw [hbd] at h2
  simpa using h2
 refine wp_region_inv l.length (by simp) hm (fun i o ho => (look i o ho).2) I h0 (fun i o ho L a w hI hf hd => ?_) fin
 have hg : o.guard = none := by have := (look i o ho).1; simpa using this
 rw [if_pos (by simp [Region.wanted, hg])]
 have := step.at_ i o (by simpa using ho) L a w hI (by rw [Nat.zero_add]; exact hf) hd
 rwa [Nat.zero_add] at this
theorem also_of {L : Nat → Bool} {j k : Nat} (hk : k ≠ j) : also L j k = L k := by simp [also, hk]
theorem also_self {L : Nat → Bool} {j : Nat} : also L j j = true := by simp [also]
def limb (n i : Nat) : Nat := n / 18446744073709551616 ^ i % 18446744073709551616
theorem limb_lt (n i : Nat) : limb n i < 18446744073709551616 := Nat.mod_lt _ (by decide)
theorem limb_bd (n i : Nat) : (0 : Int) ≤ (limb n i : Int) ∧ (limb n i : Int) < 18446744073709551616 := by
 have := limb_lt n i; omega
theorem limb0 (n : Nat) : limb n 0 = n % 18446744073709551616 := by simp [limb]
theorem limb1 (n : Nat) : limb n 1 = n / 18446744073709551616 % 18446744073709551616 := by simp [limb]
theorem limb2 (n : Nat) : limb n 2 = n / 340282366920938463463374607431768211456 % 18446744073709551616 := by simp [limb]
theorem limb3 (n : Nat) : limb n 3 = n / 6277101735386680763835789423207666416102355444464034512896 % 18446744073709551616 := by simp [limb]
def W256 : Nat := 115792089237316195423570985008687907853269984665640564039457584007913129639936
theorem W256_eq : W256 = 115792089237316195423570985008687907853269984665640564039457584007913129639936 := rfl
theorem W256_pow : W256 = 2 ^ 256 := by decide
theorem limbs_sum (n : Nat) (h : n < W256) : n = limb n 0 + 18446744073709551616 * limb n 1 + 340282366920938463463374607431768211456 * limb n 2 + 6277101735386680763835789423207666416102355444464034512896 * limb n 3 := by
 rw [limb0, limb1, limb2, limb3]; rw [W256_eq] at h; omega
theorem limbs_of (a b c d : Nat) (ha : a < 18446744073709551616) (hb : b < 18446744073709551616) (hc : c < 18446744073709551616) (hd : d < 18446744073709551616) :
 let n := a + 18446744073709551616 * b + 340282366920938463463374607431768211456 * c + 6277101735386680763835789423207666416102355444464034512896 * d
 limb n 0 = a ∧ limb n 1 = b ∧ limb n 2 = c ∧ limb n 3 = d ∧ n < W256 := by
 simp only [limb0, limb1, limb2, limb3, W256_eq]; omega
@[reducible] def wv (n : Nat) : Value := .agg #[.int .u64 (limb n 0 : Nat), .int .u64 (limb n 1 : Nat), .int .u64 (limb n 2 : Nat), .int .u64 (limb n 3 : Nat)]
theorem wv_of (z : Nat) (hz : z < W256) (a b c d : Int) (ha : 0 ≤ a ∧ a < 18446744073709551616) (hb : 0 ≤ b ∧ b < 18446744073709551616) (hc : 0 ≤ c ∧ c < 18446744073709551616)
 (h : (z : Int) = a + 18446744073709551616 * b + 340282366920938463463374607431768211456 * c + 6277101735386680763835789423207666416102355444464034512896 * d) :
 Value.agg #[.int .u64 a, .int .u64 b, .int .u64 c, .int .u64 d] = wv z := by
 have e0 : (limb z 0 : Int) = a := by rw [limb0]; rw [W256_eq] at hz; omega
 have e1 : (limb z 1 : Int) = b := by rw [limb1]; rw [W256_eq] at hz; omega
 have e2 : (limb z 2 : Int) = c := by rw [limb2]; rw [W256_eq] at hz; omega
 have e3 : (limb z 3 : Int) = d := by rw [limb3]; rw [W256_eq] at hz; omega
 simp only [wv, e0, e1, e2, e3]
theorem limb_ext {x y : Nat} (hx : x < W256) (hy : y < W256) (h0 : limb x 0 = limb y 0) (h1 : limb x 1 = limb y 1) (h2 : limb x 2 = limb y 2) (h3 : limb x 3 = limb y 3) : x = y := by
 rw [limbs_sum x hx, limbs_sum y hy, h0, h1, h2, h3]
theorem heapAt (w : World) (o : Obj) (k : Nat) : (w.alloc o).heap[k]? = if k = w.heap.size then some o else w.heap[k]? := by
 show (w.heap.push o)[k]? = _
 rw [Array.getElem?_push]
theorem below_step {w W w' : World} (h : Below w.heap.size w W) (hb : Below W.heap.size W w') : Below w.heap.size w w' := h.trans (hb.mono h.size)
def RetW (w : World) (Q : Nat → Prop) (e : Ending) (w' : World) : Prop := ∃ z, z < W256 ∧ Q z ∧ e = .returned (wv z) ∧ Below w.heap.size w w'
def RetWB (w : World) (Q : Nat → Bool → Prop) (e : Ending) (w' : World) : Prop := ∃ z b, z < W256 ∧ Q z b ∧ e = .returned (.tuple #[wv z, .bool b]) ∧ Below w.heap.size w w'
def RetWW (w : World) (Q : Nat → Nat → Prop) (e : Ending) (w' : World) : Prop := ∃ y z, y < W256 ∧ z < W256 ∧ Q y z ∧ e = .returned (.tuple #[wv y, wv z]) ∧ Below w.heap.size w w'
def RetB (w : World) (b : Bool) (e : Ending) (w' : World) : Prop := e = .returned (.bool b) ∧ Below w.heap.size w w'
theorem add64 (x y c : Int) (h1 : 0 ≤ x) (h2 : 0 ≤ y) (h3 : 0 ≤ c) (hc : c ≤ 1) :
 ∃ s d : Int, (s = (x + y + c) % 18446744073709551616 ∧ d = (x + y + c) / 18446744073709551616) ∧ ∀ w, (callFunc 135 #[.int .u64 x, .int .u64 y, .int .u64 c]).run Tryz.prog w =
  .ok (.value (.tuple #[.int .u64 s, .int .u64 d])) w := by
 refine ⟨_, _, ⟨rfl, rfl⟩, fun w => ?_⟩
 obtain ⟨x, rfl⟩ := Int.eq_ofNat_of_zero_le h1
 obtain ⟨y, rfl⟩ := Int.eq_ofNat_of_zero_le h2
 obtain ⟨c, rfl⟩ := Int.eq_ofNat_of_zero_le h3
 rw [run_callFunc_extern Tryz.func135 (by kernel_rfl) (by kernel_rfl) (by kernel_rfl) (e := add64Entry) (by kernel_rfl), run_add64 x y c (by omega) (by omega) (by omega) (by omega)]
 simp only [Result.andThen]
theorem sub64 (x y c : Int) (h1 : 0 ≤ x) (h1' : x < 18446744073709551616) (h2 : 0 ≤ y) (h2' : y < 18446744073709551616) (h3 : 0 ≤ c) (hc : c ≤ 1) :
 ∃ s d : Int, (0 ≤ s ∧ s < 18446744073709551616 ∧ 0 ≤ d ∧ d ≤ 1 ∧ s = x - y - c + 18446744073709551616 * d) ∧ ∀ w, (callFunc 136 #[.int .u64 x, .int .u64 y, .int .u64 c]).run Tryz.prog w =
  .ok (.value (.tuple #[.int .u64 s, .int .u64 d])) w := by
 obtain ⟨x, rfl⟩ := Int.eq_ofNat_of_zero_le h1
 obtain ⟨y, rfl⟩ := Int.eq_ofNat_of_zero_le h2
 obtain ⟨c, rfl⟩ := Int.eq_ofNat_of_zero_le h3
 have e := run_sub64 (P := Tryz.prog) x y c (by omega)
 refine ⟨((x + 18446744073709551616 - y - c) % 18446744073709551616 : Nat), ((if x < y + c then 1 else 0 : Nat) : Int), ?_, fun w => ?_⟩
 ·split <;> omega
 ·rw [run_callFunc_extern Tryz.func136 (by kernel_rfl) (by kernel_rfl) (by kernel_rfl) (e := sub64Entry) (by kernel_rfl), e]
  rfl
theorem of_c (a : Int) (h0 : 0 ≤ a) (h1 : a < 18446744073709551616) (w : World) :
 Calls Tryz.prog 114 #[.int .u64 a] w (RetW w (fun z => z = a.toNat)) := by
 obtain ⟨n, rfl⟩ := Int.eq_ofNat_of_zero_le h0
 go_enter Tryz.func114, Tryz.ntmps114
 go_wp2
 go_returns
 refine ⟨n, by rw [W256_eq]; omega, by omega, ?_, by go_grown⟩
 rw [wv_of n (by rw [W256_eq]; omega)] <;> omega
def Wd (x : Int) : Prop := 0 ≤ x ∧ x < 18446744073709551616
def sum4 (a b c d : Int) : Int := a + 18446744073709551616 * b + 340282366920938463463374607431768211456 * c + 6277101735386680763835789423207666416102355444464034512896 * d
def Ret4 (w : World) (Q : Int → Int → Prop) (e : Ending) (w' : World) : Prop := ∃ s0 s1 s2 s3 c : Int, Wd s0 ∧ Wd s1 ∧ Wd s2 ∧ Wd s3 ∧ 0 ≤ c ∧ c ≤ 1 ∧ Q (sum4 s0 s1 s2 s3) c ∧
 e = .returned (.tuple #[.agg #[.int .u64 s0, .int .u64 s1, .int .u64 s2, .int .u64 s3], .bool (c == 1)]) ∧ Below w.heap.size w w'
theorem add_w (a0 a1 a2 a3 b0 b1 b2 b3 : Int) (w : World) (ha0 : Wd a0) (ha1 : Wd a1) (ha2 : Wd a2) (ha3 : Wd a3) (hb0 : Wd b0) (hb1 : Wd b1) (hb2 : Wd b2) (hb3 : Wd b3) :
 Calls Tryz.prog 113 #[.agg #[.int .u64 a0, .int .u64 a1, .int .u64 a2, .int .u64 a3], .agg #[.int .u64 b0, .int .u64 b1, .int .u64 b2, .int .u64 b3]] w
  (Ret4 w fun s c => s + 115792089237316195423570985008687907853269984665640564039457584007913129639936 * c = sum4 a0 a1 a2 a3 + sum4 b0 b1 b2 b3) := by
 unfold Wd at *
 obtain ⟨s0, c0, H0, f0⟩ := add64 a0 b0 0 (by omega) (by omega) (by omega) (by omega)
 obtain ⟨s1, c1, H1, f1⟩ := add64 a1 b1 c0 (by omega) (by omega) (by omega) (by omega)
 obtain ⟨s2, c2, H2, f2⟩ := add64 a2 b2 c1 (by omega) (by omega) (by omega) (by omega)
 obtain ⟨s3, c3, H3, f3⟩ := add64 a3 b3 c2 (by omega) (by omega) (by omega) (by omega)
 have G : Hid (Wd s0 ∧ Wd s1 ∧ Wd s2 ∧ Wd s3 ∧ 0 ≤ c3 ∧ c3 ≤ 1 ∧ sum4 s0 s1 s2 s3 + 115792089237316195423570985008687907853269984665640564039457584007913129639936 * c3 = sum4 a0 a1 a2 a3 + sum4 b0 b1 b2 b3) := by
  unfold Hid Wd sum4; omega
 clear H0 H1 H2 H3
 go_enter Tryz.func113, Tryz.ntmps113
 go_wp2
 refine wp_loop_rounds 5 ?_
 rw [rounds_succ]; go_wp2; go_region; go_wp2
 rw [rounds_succ]; go_wp2; go_region; go_wp2
 rw [rounds_succ]; go_wp2; go_region; go_wp2
 rw [rounds_succ]; go_wp2; go_region; go_wp2
 rw [rounds_succ]; go_wp2
 go_returns
 obtain ⟨g0, g1, g2, g3, g4, g5, g6⟩ := G.out
 exact ⟨s0, s1, s2, s3, c3, g0, g1, g2, g3, g4, g5, g6, rfl, by go_grown⟩
theorem sub_w (a0 a1 a2 a3 b0 b1 b2 b3 : Int) (w : World) (ha0 : Wd a0) (ha1 : Wd a1) (ha2 : Wd a2) (ha3 : Wd a3) (hb0 : Wd b0) (hb1 : Wd b1) (hb2 : Wd b2) (hb3 : Wd b3) :
 Calls Tryz.prog 120 #[.agg #[.int .u64 a0, .int .u64 a1, .int .u64 a2, .int .u64 a3], .agg #[.int .u64 b0, .int .u64 b1, .int .u64 b2, .int .u64 b3]] w
  (Ret4 w fun s c => s = sum4 a0 a1 a2 a3 - sum4 b0 b1 b2 b3 + 115792089237316195423570985008687907853269984665640564039457584007913129639936 * c) := by
 unfold Wd at *
 obtain ⟨s0, c0, H0, f0⟩ := sub64 a0 b0 0 (by omega) (by omega) (by omega) (by omega) (by omega) (by omega)
 obtain ⟨s1, c1, H1, f1⟩ := sub64 a1 b1 c0 (by omega) (by omega) (by omega) (by omega) (by omega) (by omega)
 obtain ⟨s2, c2, H2, f2⟩ := sub64 a2 b2 c1 (by omega) (by omega) (by omega) (by omega) (by omega) (by omega)
 obtain ⟨s3, c3, H3, f3⟩ := sub64 a3 b3 c2 (by omega) (by omega) (by omega) (by omega) (by omega) (by omega)
 have G : Hid (Wd s0 ∧ Wd s1 ∧ Wd s2 ∧ Wd s3 ∧ 0 ≤ c3 ∧ c3 ≤ 1 ∧ sum4 s0 s1 s2 s3 = sum4 a0 a1 a2 a3 - sum4 b0 b1 b2 b3 + 115792089237316195423570985008687907853269984665640564039457584007913129639936 * c3) := by
  unfold Hid Wd sum4; omega
 clear H0 H1 H2 H3
 go_enter Tryz.func120, Tryz.ntmps120
 go_wp2
 refine wp_loop_rounds 5 ?_
 rw [rounds_succ]; go_wp2; go_region; go_wp2
 rw [rounds_succ]; go_wp2; go_region; go_wp2
 rw [rounds_succ]; go_wp2; go_region; go_wp2
 rw [rounds_succ]; go_wp2; go_region; go_wp2
 rw [rounds_succ]; go_wp2
 go_returns
 obtain ⟨g0, g1, g2, g3, g4, g5, g6⟩ := G.out
 exact ⟨s0, s1, s2, s3, c3, g0, g1, g2, g3, g4, g5, g6, rfl, by go_grown⟩
theorem wd_limb (n i : Nat) : Wd (limb n i : Nat) := limb_bd n i
theorem sum4_limbs (n : Nat) (h : n < W256) : sum4 (limb n 0 : Nat) (limb n 1 : Nat) (limb n 2 : Nat) (limb n 3 : Nat) = n := by
 have := limbs_sum n h
 unfold sum4; omega
theorem sum4_bd {a b c d : Int} (ha : Wd a) (hb : Wd b) (hc : Wd c) (hd : Wd d) : 0 ≤ sum4 a b c d ∧ sum4 a b c d < 115792089237316195423570985008687907853269984665640564039457584007913129639936 := by
 unfold Wd at *; unfold sum4; omega
theorem add_c (x y : Nat) (hx : x < W256) (hy : y < W256) (w : World) :
 Calls Tryz.prog 113 #[wv x, wv y] w (RetWB w fun z b => z = (x + y) % W256 ∧ b = decide (W256 ≤ x + y)) := by
 refine (add_w _ _ _ _ _ _ _ _ w (wd_limb x 0) (wd_limb x 1) (wd_limb x 2) (wd_limb x 3) (wd_limb y 0) (wd_limb y 1) (wd_limb y 2) (wd_limb y 3)).mono ?_
 rintro e w' ⟨s0, s1, s2, s3, c, h0, h1, h2, h3, hc0, hc1, hQ, he, hb⟩
 rw [sum4_limbs x hx, sum4_limbs y hy] at hQ
 have hs := sum4_bd h0 h1 h2 h3
 have hc : c = 0 ∨ c = 1 := by omega
 refine ⟨(x + y) % W256, decide (W256 ≤ x + y), Nat.mod_lt _ (by decide), ⟨rfl, rfl⟩, ?_, hb⟩
 rw [he, wv_of ((x + y) % W256) (Nat.mod_lt _ (by decide)) s0 s1 s2 s3 h0 h1 h2]
 ·congr 4
  rw [W256_eq]
  rcases hc with rfl | rfl
  ·have : ¬ (115792089237316195423570985008687907853269984665640564039457584007913129639936 ≤ x + y) := by omega
   simp [this]
  ·have : 115792089237316195423570985008687907853269984665640564039457584007913129639936 ≤ x + y := by omega
   simp [this]
 ·show _ = sum4 s0 s1 s2 s3
  rw [W256_eq] at *
  omega
theorem sub_c (x y : Nat) (hx : x < W256) (hy : y < W256) (w : World) :
 Calls Tryz.prog 120 #[wv x, wv y] w (RetWB w fun z b => z = (x + W256 - y) % W256 ∧ b = decide (x < y)) := by
 refine (sub_w _ _ _ _ _ _ _ _ w (wd_limb x 0) (wd_limb x 1) (wd_limb x 2) (wd_limb x 3) (wd_limb y 0) (wd_limb y 1) (wd_limb y 2) (wd_limb y 3)).mono ?_
 rintro e w' ⟨s0, s1, s2, s3, c, h0, h1, h2, h3, hc0, hc1, hQ, he, hb⟩
 rw [sum4_limbs x hx, sum4_limbs y hy] at hQ
 have hs := sum4_bd h0 h1 h2 h3
 have hc : c = 0 ∨ c = 1 := by omega
 refine ⟨(x + W256 - y) % W256, decide (x < y), Nat.mod_lt _ (by decide), ⟨rfl, rfl⟩, ?_, hb⟩
 rw [W256_eq] at *
 rw [he, wv_of ((x + 115792089237316195423570985008687907853269984665640564039457584007913129639936 - y) % 115792089237316195423570985008687907853269984665640564039457584007913129639936) (by rw [W256_eq]; exact Nat.mod_lt _ (by decide)) s0 s1 s2 s3 h0 h1 h2]
 ·congr 4
  rcases hc with rfl | rfl
  ·have : ¬ (x < y) := by omega
   simp [this]
  ·have : x < y := by omega
   simp [this]
 ·show _ = sum4 s0 s1 s2 s3
  omega
theorem less_c (x y : Nat) (hx : x < W256) (hy : y < W256) (w : World) :
 Calls Tryz.prog 119 #[wv x, wv y] w (RetB w (decide (x < y))) := by
 go_enter Tryz.func119, Tryz.ntmps119
 go_wp2_with (go_at_call 120; refine (sub_c x y hx hy _).mono ?_; rintro e w' ⟨z, b, hz, ⟨-, rfl⟩, rfl, hb⟩; have hb1 := below_step (w := w) (by go_grown) hb; have hs1 := hb1.size; clear hb)
 go_ret
 exact ⟨rfl, by go_grown⟩
end Go.Proofs.YtbaifchbpnmkpaaGreat
namespace Go.Proofs
open Go.Shelf
def Tryz.lays129_ren : Go.Shelf.Ren := ⟨fun | 129 => 137 | n => n, fun | 53 => 80 | 3 => 3 | 4 => 4 | 46 => 57 | 5 => 5 | 9 => 9 | n => n, fun | n => n⟩
theorem Tryz.lays129 : Go.Proofs.Lays.n129 Tryz.prog Tryz.lays129_ren := {
 mixed := by kernel_rfl
 f129 := Tryz.func137.trans (congrArg some (by kernel_rfl))
 t3 := Tryz.underlying3
 a3 := Tryz.isAgg3
 z3 := Tryz.sizeOf3
 v3 := Tryz.zeroValue3
 t4 := Tryz.underlying4
 a4 := Tryz.isAgg4
 z4 := Tryz.sizeOf4
 v4 := Tryz.zeroValue4
 t5 := Tryz.underlying5
 a5 := Tryz.isAgg5
 z5 := Tryz.sizeOf5
 v5 := Tryz.zeroValue5
 t9 := Tryz.underlying9
 a9 := Tryz.isAgg9
 z9 := Tryz.sizeOf9
 v9 := Tryz.zeroValue9
 t46 := Tryz.underlying57
 a46 := Tryz.isAgg57
 z46 := Tryz.sizeOf57
 v46 := Tryz.zeroValue57
 t53 := Tryz.underlying80
 a53 := Tryz.isAgg80
 z53 := Tryz.sizeOf80
 v53 := Tryz.zeroValue80 }
theorem Tryz.bits_Len64 (x : Int) (w : World) (h0 : 0 ≤ x) (h1 : x ≤ 18446744073709551615) :
 Calls Tryz.prog 137 #[.int .u64 x] w fun e w' => e = .returned (.int .i64 (Lib.bitLen x.toNat)) ∧ w' = w := Any.bits_Len64 Tryz.lays129 x w h0 h1
def Tryz.lays264_ren : Go.Shelf.Ren := ⟨fun | 264 => 139 | n => n, fun | 53 => 80 | 46 => 57 | n => n, fun | n => n⟩
theorem Tryz.lays264 : Go.Proofs.Lays.n264 Tryz.prog Tryz.lays264_ren := {
 mixed := by kernel_rfl
 f264 := Tryz.func139.trans (congrArg some (by kernel_rfl))
 t46 := Tryz.underlying57
 a46 := Tryz.isAgg57
 z46 := Tryz.sizeOf57
 v46 := Tryz.zeroValue57
 t53 := Tryz.underlying80
 a53 := Tryz.isAgg80
 z53 := Tryz.sizeOf80
 v53 := Tryz.zeroValue80 }
theorem Tryz.bits_Mul64 (x y : Nat) (hx : x < 18446744073709551616) (hy : y < 18446744073709551616) (w : World) :
 Calls Tryz.prog 139 #[.int .u64 x, .int .u64 y] w fun e w' => e = .returned (.tuple #[.int .u64 ((x * y / 18446744073709551616 : Nat) : Int), .int .u64 ((x * y % 18446744073709551616 : Nat) : Int)]) ∧ w' = w := Any.bits_Mul64 Tryz.lays264 x y hx hy w
end Go.Proofs
namespace Go.Proofs.YtbaifchbpnmkpaaGreat
open Go.RowKit
def blen (n : Nat) : Nat := if n = 0 then 0 else n.log2 + 1
theorem blen_pos {n : Nat} (h : n ≠ 0) : blen n = n.log2 + 1 := by simp [blen, h]
theorem blen_le_iff (n k : Nat) : blen n ≤ k ↔ n < 2 ^ k := by
 unfold blen
 by_cases h : n = 0
 ·subst h; simp [Nat.two_pow_pos]
 ·simp only [h, if_false]
  rw [← Nat.log2_lt h]; omega
theorem blen_lt_iff (n k : Nat) : k < blen n ↔ 2 ^ k ≤ n := by
 have := blen_le_iff n k; omega
theorem blen_unique (n k : Nat) (h1 : n < 2 ^ k) (h2 : k = 0 ∨ 2 ^ (k - 1) ≤ n) : blen n = k := by
 have a := (blen_le_iff n k).2 h1
 rcases h2 with rfl | h2
 ·omega
 ·have b := (blen_lt_iff n (k - 1)).2 h2
  omega
theorem blen_div (n k : Nat) (h : 2 ^ k ≤ n) : blen n = k + blen (n / 2 ^ k) := by
 have hp : 0 < 2 ^ k := Nat.two_pow_pos k
 have hd : 0 < n / 2 ^ k := Nat.div_pos h hp
 have hb : 0 < blen (n / 2 ^ k) := (blen_lt_iff _ 0).2 hd
 apply blen_unique
 ·have := (blen_le_iff (n / 2 ^ k) (blen (n / 2 ^ k))).1 (Nat.le_refl _)
  rw [Nat.pow_add, Nat.mul_comm]
  exact (Nat.div_lt_iff_lt_mul hp).1 this
 ·right
  have := (blen_lt_iff (n / 2 ^ k) (blen (n / 2 ^ k) - 1)).1 (by omega)
  rw [show k + blen (n / 2 ^ k) - 1 = (blen (n / 2 ^ k) - 1) + k by omega, Nat.pow_add]
  exact (Nat.le_div_iff_mul_le hp).1 this
theorem bitLenAux_eq : ∀ (f x : Nat), x < 2 ^ f → Lib.bitLenAux f x = blen x
 | 0, x, h => by
  have : x = 0 := by simpa using h
  subst this; rfl
 | f + 1, x, h => by
  by_cases h0 : x = 0
  ·subst h0; rfl
  ·rw [Lib.bitLenAux, if_neg h0, bitLenAux_eq f (x / 2) (Nat.div_lt_of_lt_mul (by rw [Nat.pow_succ, Nat.mul_comm] at h; exact h))]
   by_cases h1 : x = 1
   ·subst h1; rfl
   ·have := blen_div x 1 (by omega)
    rw [this, Nat.pow_one]
theorem bitLen_eq (x : Nat) (h : x < 18446744073709551616) : Lib.bitLen x = blen x := bitLenAux_eq 64 x (by simpa using h)
def RetI (w : World) (n : Int) (e : Ending) (w' : World) : Prop := e = .returned (.int .i64 n) ∧ Below w.heap.size w w'
theorem len64_c (x : Int) (hx : Wd x) (w : World) : Calls Tryz.prog 137 #[.int .u64 x] w fun e w' => e = .returned (.int .i64 (blen x.toNat)) ∧ w' = w := by
 obtain ⟨h0, h1⟩ := hx
 refine (Tryz.bits_Len64 x w h0 (by omega)).mono ?_
 rintro e w' ⟨rfl, rfl⟩
 rw [bitLen_eq _ (by omega)]
 exact ⟨rfl, rfl⟩
theorem bits_w3 (a0 a1 a2 a3 : Int) (w : World) (hd : Wd a3) (h : ¬ a3 = 0) :
 Calls Tryz.prog 122 #[.agg #[.int .u64 a0, .int .u64 a1, .int .u64 a2, .int .u64 a3]] w (RetI w (192 + blen a3.toNat)) := by
 have hl : (blen a3.toNat : Int) ≤ 64 := by
  have := (blen_le_iff a3.toNat 64).2 (by have := hd.2; omega)
  omega
 have hl0 : (0 : Int) ≤ blen a3.toNat := by omega
 go_enter Tryz.func122, Tryz.ntmps122
 go_wp2
 refine wp_loop_rounds 5 ?_
 rw [rounds_succ]; go_wp2_with (go_at_call 137; refine (len64_c _ hd _).mono ?_; rintro e w' ⟨rfl, rfl⟩)
 go_ret
 exact ⟨rfl, by go_grown⟩
theorem bits_w2 (a0 a1 a2 : Int) (w : World) (hd : Wd a2) (h : ¬ a2 = 0) :
 Calls Tryz.prog 122 #[.agg #[.int .u64 a0, .int .u64 a1, .int .u64 a2, .int .u64 0]] w (RetI w (128 + blen a2.toNat)) := by
 have hl : (blen a2.toNat : Int) ≤ 64 := by
  have := (blen_le_iff a2.toNat 64).2 (by have := hd.2; omega)
  omega
 have hl0 : (0 : Int) ≤ blen a2.toNat := by omega
 go_enter Tryz.func122, Tryz.ntmps122
 go_wp2
 refine wp_loop_rounds 5 ?_
 rw [rounds_succ]; go_wp2
 rw [rounds_succ]; go_wp2_with (go_at_call 137; refine (len64_c _ hd _).mono ?_; rintro e w' ⟨rfl, rfl⟩)
 go_ret
 exact ⟨rfl, by go_grown⟩
theorem bits_w1 (a0 a1 : Int) (w : World) (hd : Wd a1) (h : ¬ a1 = 0) :
 Calls Tryz.prog 122 #[.agg #[.int .u64 a0, .int .u64 a1, .int .u64 0, .int .u64 0]] w (RetI w (64 + blen a1.toNat)) := by
 have hl : (blen a1.toNat : Int) ≤ 64 := by
  have := (blen_le_iff a1.toNat 64).2 (by have := hd.2; omega)
  omega
 have hl0 : (0 : Int) ≤ blen a1.toNat := by omega
 go_enter Tryz.func122, Tryz.ntmps122
 go_wp2
 refine wp_loop_rounds 5 ?_
 rw [rounds_succ]; go_wp2
 rw [rounds_succ]; go_wp2
 rw [rounds_succ]; go_wp2_with (go_at_call 137; refine (len64_c _ hd _).mono ?_; rintro e w' ⟨rfl, rfl⟩)
 go_ret
 exact ⟨rfl, by go_grown⟩
theorem bits_w0 (a0 : Int) (w : World) (hd : Wd a0) (h : ¬ a0 = 0) :
 Calls Tryz.prog 122 #[.agg #[.int .u64 a0, .int .u64 0, .int .u64 0, .int .u64 0]] w (RetI w (blen a0.toNat)) := by
 have hl : (blen a0.toNat : Int) ≤ 64 := by
  have := (blen_le_iff a0.toNat 64).2 (by have := hd.2; omega)
  omega
 have hl0 : (0 : Int) ≤ blen a0.toNat := by omega
 go_enter Tryz.func122, Tryz.ntmps122
 go_wp2
 refine wp_loop_rounds 5 ?_
 rw [rounds_succ]; go_wp2
 rw [rounds_succ]; go_wp2
 rw [rounds_succ]; go_wp2
 rw [rounds_succ]; go_wp2_with (go_at_call 137; refine (len64_c _ hd _).mono ?_; rintro e w' ⟨rfl, rfl⟩)
 go_ret
 exact ⟨rfl, by go_grown⟩
theorem bits_wz (w : World) :
 Calls Tryz.prog 122 #[.agg #[.int .u64 0, .int .u64 0, .int .u64 0, .int .u64 0]] w (RetI w 0) := by
 go_enter Tryz.func122, Tryz.ntmps122
 go_wp2
 refine wp_loop_rounds 5 ?_
 rw [rounds_succ]; go_wp2
 rw [rounds_succ]; go_wp2
 rw [rounds_succ]; go_wp2
 rw [rounds_succ]; go_wp2
 rw [rounds_succ]; go_wp2
 go_ret
 exact ⟨rfl, by go_grown⟩
theorem bits_c (x : Nat) (hx : x < W256) (w : World) : Calls Tryz.prog 122 #[wv x] w (RetI w (blen x)) := by
 have ex := limbs_sum x hx
 have x0 := limb_lt x 0; have x1 := limb_lt x 1; have x2 := limb_lt x 2; have x3 := limb_lt x 3
 have hW := W256_eq
 unfold wv
 by_cases h3 : limb x 3 = 0
 ·by_cases h2 : limb x 2 = 0
  ·by_cases h1 : limb x 1 = 0
   ·by_cases h0 : limb x 0 = 0
    ·have : x = 0 := by omega
     subst this
     rw [h0, h1, h2, h3]
     exact bits_wz w
    ·rw [h1, h2, h3]
     have : blen x = blen (limb x 0) := by congr 1; omega
     rw [this]
     exact bits_w0 _ w (wd_limb x 0) (by omega)
   ·rw [h2, h3]
    have : blen x = 64 + blen (limb x 1) := by
     rw [blen_div x 64 (by omega)]; congr 2; omega
    rw [this]
    exact bits_w1 _ _ w (wd_limb x 1) (by omega)
  ·rw [h3]
   have : blen x = 128 + blen (limb x 2) := by
    rw [blen_div x 128 (by omega)]; congr 2; omega
   rw [this]
   exact bits_w2 _ _ _ w (wd_limb x 2) (by omega)
 ·have : blen x = 192 + blen (limb x 3) := by
   rw [blen_div x 192 (by omega)]; congr 2; omega
  rw [this]
  exact bits_w3 _ _ _ _ w (wd_limb x 3) (by omega)
theorem pow_split (r : Nat) (hr : r < 64) : 2 ^ (64 - r) * 2 ^ r = 18446744073709551616 := by
 rw [← Nat.pow_add, show 64 - r + r = 64 by omega]
theorem wrap_mul_pow (b r : Nat) : IntKind.u64.wrap ((b : Int) * 2 ^ r) = ((b * 2 ^ r % 18446744073709551616 : Nat) : Int) := by
 rw [IntKind.wrap_u64]
 have : ((b : Int) * 2 ^ r) = ((b * 2 ^ r : Nat) : Int) := by simp
 rw [this]; omega
theorem cast_div_pow (a r : Nat) : (a : Int) / 2 ^ r = ((a / 2 ^ r : Nat) : Int) := by
 have : ((2 : Int) ^ r) = ((2 ^ r : Nat) : Int) := by simp
 rw [this]; exact (Int.natCast_ediv a (2 ^ r)).symm
theorem or_right (a b r : Nat) (ha : a < 18446744073709551616) (hr : r < 64) :
 bits BinOp.or IntKind.u64 ((a : Int) / 2 ^ (r : Int).toNat) (IntKind.u64.wrap ((b : Int) * 2 ^ (64 - (r : Int)).toNat)) = ((a / 2 ^ r + b % 2 ^ r * 2 ^ (64 - r) : Nat) : Int) := by
 rw [show (64 - (r : Int)).toNat = 64 - r by omega, show ((r : Int)).toNat = r from rfl, wrap_mul_pow, cast_div_pow]
 have hp := pow_split r hr
 have hd : a / 2 ^ r < 2 ^ (64 - r) := Nat.div_lt_of_lt_mul (by rw [Nat.mul_comm, hp]; exact ha)
 have hd2 : a / 2 ^ r < 18446744073709551616 := Nat.lt_of_le_of_lt (Nat.div_le_self _ _) ha
 have e : b * 2 ^ (64 - r) % 18446744073709551616 = b % 2 ^ r * 2 ^ (64 - r) := by
  rw [← hp, Nat.mul_comm (2 ^ (64 - r)), Nat.mul_mod_mul_right]
 rw [bits_or_u64_nat _ _ hd2 (Nat.mod_lt _ (by decide)), e, Nat.mul_comm (b % 2 ^ r), Nat.or_comm (a / 2 ^ r), ← Nat.two_pow_add_eq_or_of_lt hd, Nat.add_comm]
theorem shr_bd (a b r : Nat) (ha : a < 18446744073709551616) (hr : r < 64) : a / 2 ^ r + b % 2 ^ r * 2 ^ (64 - r) < 18446744073709551616 := by
 have hp := pow_split r hr
 have hd : a / 2 ^ r < 2 ^ (64 - r) := Nat.div_lt_of_lt_mul (by rw [Nat.mul_comm, hp]; exact ha)
 have h1 : b % 2 ^ r + 1 ≤ 2 ^ r := Nat.mod_lt _ (Nat.two_pow_pos _)
 have h2 := Nat.mul_le_mul_right (2 ^ (64 - r)) h1
 rw [Nat.mul_comm (2 ^ r), hp, Nat.add_mul] at h2
 omega
theorem shr_sum (x r : Nat) (hx : x < W256) (hr : r < 64) :
 x / 2 ^ r = (limb x 0 / 2 ^ r + limb x 1 % 2 ^ r * 2 ^ (64 - r)) + 18446744073709551616 * (limb x 1 / 2 ^ r + limb x 2 % 2 ^ r * 2 ^ (64 - r)) + 340282366920938463463374607431768211456 * (limb x 2 / 2 ^ r + limb x 3 % 2 ^ r * 2 ^ (64 - r)) + 6277101735386680763835789423207666416102355444464034512896 * (limb x 3 / 2 ^ r) := by
 have ex := limbs_sum x hx
 have hp := pow_split r hr
 have hpos := Nat.two_pow_pos r
 have f : ∀ e, 2 ^ r * (e * 2 ^ (64 - r)) = 18446744073709551616 * e := by
  intro e; rw [← hp]; simp only [Nat.mul_comm, Nat.mul_left_comm]
 have e0 := Nat.div_add_mod (limb x 0) (2 ^ r); have e1 := Nat.div_add_mod (limb x 1) (2 ^ r); have e2 := Nat.div_add_mod (limb x 2) (2 ^ r); have e3 := Nat.div_add_mod (limb x 3) (2 ^ r)
 have hlt := Nat.mod_lt (limb x 0) hpos
 have f1 := f (limb x 1 % 2 ^ r); have f2 := f (limb x 2 % 2 ^ r); have f3 := f (limb x 3 % 2 ^ r)
 generalize limb x 1 % 2 ^ r * 2 ^ (64 - r) = g1 at *; generalize limb x 2 % 2 ^ r * 2 ^ (64 - r) = g2 at *; generalize limb x 3 % 2 ^ r * 2 ^ (64 - r) = g3 at *
 generalize limb x 0 / 2 ^ r = d0 at *; generalize limb x 1 / 2 ^ r = d1 at *; generalize limb x 2 / 2 ^ r = d2 at *; generalize limb x 3 / 2 ^ r = d3 at *
 have hS : x = 2 ^ r * (d0 + g1 + 18446744073709551616 * (d1 + g2) + 340282366920938463463374607431768211456 * (d2 + g3) + 6277101735386680763835789423207666416102355444464034512896 * d3) + limb x 0 % 2 ^ r := by
  simp only [Nat.mul_add, Nat.mul_left_comm (2 ^ r), f1, f2, f3]
  omega
 conv => lhs; rw [hS]
 rw [Nat.mul_add_div hpos, Nat.div_eq_of_lt hlt, Nat.add_zero]
def RetV (w : World) (s0 s1 s2 s3 : Int) (e : Ending) (w' : World) : Prop := e = .returned (.agg #[.int .u64 s0, .int .u64 s1, .int .u64 s2, .int .u64 s3]) ∧ Below w.heap.size w w'
theorem right_w4 (a0 a1 a2 a3 n : Int) (w : World) (hn : 256 ≤ n) :
 Calls Tryz.prog 116 #[.agg #[.int .u64 a0, .int .u64 a1, .int .u64 a2, .int .u64 a3], .int .i64 n] w (RetV w 0 0 0 0) := by
 have hn' : 1 ≤ n := by omega
 go_enter Tryz.func116, Tryz.ntmps116
 go_wp2
 go_returns
 exact ⟨rfl, by go_grown⟩
theorem right_w0 (a0 a1 a2 a3 n r : Int) (w : World) (h0 : Wd a0) (h1 : Wd a1) (h2 : Wd a2) (h3 : Wd a3) (hq : n / 64 = 0) (hr : n % 64 = r) (hn : 1 ≤ n) (hn1 : n < 256) (hr0 : 0 ≤ r) (hr1 : r < 64) :
 Calls Tryz.prog 116 #[.agg #[.int .u64 a0, .int .u64 a1, .int .u64 a2, .int .u64 a3], .int .i64 n] w (RetV w (bits BinOp.or IntKind.u64 (a0 / 2 ^ r.toNat) (IntKind.u64.wrap (a1 * 2 ^ (64 - r).toNat))) (bits BinOp.or IntKind.u64 (a1 / 2 ^ r.toNat) (IntKind.u64.wrap (a2 * 2 ^ (64 - r).toNat))) (bits BinOp.or IntKind.u64 (a2 / 2 ^ r.toNat) (IntKind.u64.wrap (a3 * 2 ^ (64 - r).toNat))) (a3 / 2 ^ r.toNat)) := by
 obtain ⟨h0, h0'⟩ := h0; obtain ⟨h1, h1'⟩ := h1; obtain ⟨h2, h2'⟩ := h2; obtain ⟨h3, h3'⟩ := h3
 have _k := And.intro hn (And.intro hn1 (And.intro hr0 hr1)); clear _k
 go_enter Tryz.func116, Tryz.ntmps116
 go_wp2
 refine wp_loop_rounds 5 ?_
 rw [rounds_succ]; go_wp2
 go_region
 go_wp2
 rw [rounds_succ]; go_wp2
 go_region
 go_wp2
 rw [rounds_succ]; go_wp2
 go_region
 go_wp2
 rw [rounds_succ]; go_wp2
 rw [rounds_succ]; go_wp2
 go_returns
 exact ⟨rfl, by go_grown⟩
theorem right_w1 (a0 a1 a2 a3 n r : Int) (w : World) (h0 : Wd a0) (h1 : Wd a1) (h2 : Wd a2) (h3 : Wd a3) (hq : n / 64 = 1) (hr : n % 64 = r) (hn : 1 ≤ n) (hn1 : n < 256) (hr0 : 0 ≤ r) (hr1 : r < 64) :
 Calls Tryz.prog 116 #[.agg #[.int .u64 a0, .int .u64 a1, .int .u64 a2, .int .u64 a3], .int .i64 n] w (RetV w (bits BinOp.or IntKind.u64 (a1 / 2 ^ r.toNat) (IntKind.u64.wrap (a2 * 2 ^ (64 - r).toNat))) (bits BinOp.or IntKind.u64 (a2 / 2 ^ r.toNat) (IntKind.u64.wrap (a3 * 2 ^ (64 - r).toNat))) (a3 / 2 ^ r.toNat) 0) := by
 obtain ⟨h0, h0'⟩ := h0; obtain ⟨h1, h1'⟩ := h1; obtain ⟨h2, h2'⟩ := h2; obtain ⟨h3, h3'⟩ := h3
 have _k := And.intro hn (And.intro hn1 (And.intro hr0 hr1)); clear _k
 go_enter Tryz.func116, Tryz.ntmps116
 go_wp2
 refine wp_loop_rounds 5 ?_
 rw [rounds_succ]; go_wp2
 go_region
 go_wp2
 rw [rounds_succ]; go_wp2
 go_region
 go_wp2
 rw [rounds_succ]; go_wp2
 rw [rounds_succ]; go_wp2
 go_returns
 exact ⟨rfl, by go_grown⟩
theorem right_w2 (a0 a1 a2 a3 n r : Int) (w : World) (h0 : Wd a0) (h1 : Wd a1) (h2 : Wd a2) (h3 : Wd a3) (hq : n / 64 = 2) (hr : n % 64 = r) (hn : 1 ≤ n) (hn1 : n < 256) (hr0 : 0 ≤ r) (hr1 : r < 64) :
 Calls Tryz.prog 116 #[.agg #[.int .u64 a0, .int .u64 a1, .int .u64 a2, .int .u64 a3], .int .i64 n] w (RetV w (bits BinOp.or IntKind.u64 (a2 / 2 ^ r.toNat) (IntKind.u64.wrap (a3 * 2 ^ (64 - r).toNat))) (a3 / 2 ^ r.toNat) 0 0) := by
 obtain ⟨h0, h0'⟩ := h0; obtain ⟨h1, h1'⟩ := h1; obtain ⟨h2, h2'⟩ := h2; obtain ⟨h3, h3'⟩ := h3
 have _k := And.intro hn (And.intro hn1 (And.intro hr0 hr1)); clear _k
 go_enter Tryz.func116, Tryz.ntmps116
 go_wp2
 refine wp_loop_rounds 5 ?_
 rw [rounds_succ]; go_wp2
 go_region
 go_wp2
 rw [rounds_succ]; go_wp2
 rw [rounds_succ]; go_wp2
 go_returns
 exact ⟨rfl, by go_grown⟩
theorem right_w3 (a0 a1 a2 a3 n r : Int) (w : World) (h0 : Wd a0) (h1 : Wd a1) (h2 : Wd a2) (h3 : Wd a3) (hq : n / 64 = 3) (hr : n % 64 = r) (hn : 1 ≤ n) (hn1 : n < 256) (hr0 : 0 ≤ r) (hr1 : r < 64) :
 Calls Tryz.prog 116 #[.agg #[.int .u64 a0, .int .u64 a1, .int .u64 a2, .int .u64 a3], .int .i64 n] w (RetV w (a3 / 2 ^ r.toNat) 0 0 0) := by
 obtain ⟨h0, h0'⟩ := h0; obtain ⟨h1, h1'⟩ := h1; obtain ⟨h2, h2'⟩ := h2; obtain ⟨h3, h3'⟩ := h3
 have _k := And.intro hn (And.intro hn1 (And.intro hr0 hr1)); clear _k
 go_enter Tryz.func116, Tryz.ntmps116
 go_wp2
 refine wp_loop_rounds 5 ?_
 rw [rounds_succ]; go_wp2
 rw [rounds_succ]; go_wp2
 go_returns
 exact ⟨rfl, by go_grown⟩
theorem right_c (x : Nat) (hx : x < W256) (n : Int) (hn : 1 ≤ n) (w : World) :
 Calls Tryz.prog 116 #[wv x, .int .i64 n] w (RetW w fun z => z = x / 2 ^ n.toNat) := by
 have hz : x / 2 ^ n.toNat < W256 := Nat.lt_of_le_of_lt (Nat.div_le_self _ _) hx
 have post : ∀ (e : Ending) (w' : World) (s0 s1 s2 s3 : Nat), s0 < 18446744073709551616 → s1 < 18446744073709551616 → s2 < 18446744073709551616 → x / 2 ^ n.toNat = s0 + 18446744073709551616 * s1 + 340282366920938463463374607431768211456 * s2 + 6277101735386680763835789423207666416102355444464034512896 * s3 →
  RetV w (s0 : Int) (s1 : Int) (s2 : Int) (s3 : Int) e w' → RetW w (fun z => z = x / 2 ^ n.toNat) e w' := by
  intro e w' s0 s1 s2 s3 b0 b1 b2 hs h
  refine ⟨_, hz, rfl, ?_, h.2⟩
  rw [h.1, wv_of (x / 2 ^ n.toNat) hz s0 s1 s2 s3 (by omega) (by omega) (by omega)]
  omega
 have hw := W256_eq
 by_cases h256 : 256 ≤ n
 ·refine (right_w4 _ _ _ _ n w h256).mono fun e w' h => post e w' 0 0 0 0 (by decide) (by decide) (by decide) ?_ h
  have : x < 2 ^ n.toNat := Nat.lt_of_lt_of_le (by rw [W256_pow] at hx; exact hx) (Nat.pow_le_pow_right (by decide) (show 256 ≤ n.toNat by omega))
  rw [Nat.div_eq_of_lt this]
 obtain ⟨r, hr⟩ : ∃ r : Nat, r = n.toNat % 64 := ⟨_, rfl⟩
 have hr64 : r < 64 := by omega
 have hq : n / 64 = 0 ∨ n / 64 = 1 ∨ n / 64 = 2 ∨ n / 64 = 3 := by omega
 have hrn : n % 64 = (r : Int) := by omega
 have B0 := limb_lt x 0; have B1 := limb_lt x 1; have B2 := limb_lt x 2; have B3 := limb_lt x 3
 have hb0 := shr_bd (limb x 0) (limb x 1) r B0 hr64
 have hb1 := shr_bd (limb x 1) (limb x 2) r B1 hr64
 have hb2 := shr_bd (limb x 2) (limb x 3) r B2 hr64
 have hb3 : limb x 3 / 2 ^ r < 18446744073709551616 := Nat.lt_of_le_of_lt (Nat.div_le_self _ _) B3
 have o0 := or_right (limb x 0) (limb x 1) r B0 hr64
 have o1 := or_right (limb x 1) (limb x 2) r B1 hr64
 have o2 := or_right (limb x 2) (limb x 3) r B2 hr64
 have o3 := cast_div_pow (limb x 3) r
 have hsum := shr_sum x r hx hr64
 rcases hq with hq | hq | hq | hq
 ·have hz2 : x / 2 ^ n.toNat = x / 2 ^ r / 1 := by rw [Nat.div_div_eq_div_mul, show n.toNat = r + 0 by omega, Nat.pow_add]
  refine (right_w0 _ _ _ _ n (r : Int) w (wd_limb x 0) (wd_limb x 1) (wd_limb x 2) (wd_limb x 3) hq hrn hn (by omega) (by omega) (by omega)).mono fun e w' h => post e w' (limb x 0 / 2 ^ r + limb x 1 % 2 ^ r * 2 ^ (64 - r)) (limb x 1 / 2 ^ r + limb x 2 % 2 ^ r * 2 ^ (64 - r)) (limb x 2 / 2 ^ r + limb x 3 % 2 ^ r * 2 ^ (64 - r)) (limb x 3 / 2 ^ r) ?_ ?_ ?_ ?_ ?_
  ·first | exact hb0 | exact hb1 | exact hb2 | exact hb3 | decide
  ·first | exact hb0 | exact hb1 | exact hb2 | exact hb3 | decide
  ·first | exact hb0 | exact hb1 | exact hb2 | exact hb3 | decide
  ·rw [hz2, hsum]; clear o0 o1 o2 o3 post hz hz2 hsum; generalize limb x 0 / 2 ^ r + limb x 1 % 2 ^ r * 2 ^ (64 - r) = m0 at *; generalize limb x 1 / 2 ^ r + limb x 2 % 2 ^ r * 2 ^ (64 - r) = m1 at *; generalize limb x 2 / 2 ^ r + limb x 3 % 2 ^ r * 2 ^ (64 - r) = m2 at *; generalize limb x 3 / 2 ^ r = m3 at *; omega
  ·have h' := h; simp only [o0, o1, o2] at h'; simp only [Int.toNat_natCast, o3] at h'; exact h'
 ·have hz2 : x / 2 ^ n.toNat = x / 2 ^ r / 18446744073709551616 := by rw [Nat.div_div_eq_div_mul, show n.toNat = r + 64 by omega, Nat.pow_add]
  refine (right_w1 _ _ _ _ n (r : Int) w (wd_limb x 0) (wd_limb x 1) (wd_limb x 2) (wd_limb x 3) hq hrn hn (by omega) (by omega) (by omega)).mono fun e w' h => post e w' (limb x 1 / 2 ^ r + limb x 2 % 2 ^ r * 2 ^ (64 - r)) (limb x 2 / 2 ^ r + limb x 3 % 2 ^ r * 2 ^ (64 - r)) (limb x 3 / 2 ^ r) 0 ?_ ?_ ?_ ?_ ?_
  ·first | exact hb0 | exact hb1 | exact hb2 | exact hb3 | decide
  ·first | exact hb0 | exact hb1 | exact hb2 | exact hb3 | decide
  ·first | exact hb0 | exact hb1 | exact hb2 | exact hb3 | decide
  ·rw [hz2, hsum]; clear o0 o1 o2 o3 post hz hz2 hsum; generalize limb x 0 / 2 ^ r + limb x 1 % 2 ^ r * 2 ^ (64 - r) = m0 at *; generalize limb x 1 / 2 ^ r + limb x 2 % 2 ^ r * 2 ^ (64 - r) = m1 at *; generalize limb x 2 / 2 ^ r + limb x 3 % 2 ^ r * 2 ^ (64 - r) = m2 at *; generalize limb x 3 / 2 ^ r = m3 at *; omega
  ·have h' := h; simp only [o1, o2] at h'; simp only [Int.toNat_natCast, o3] at h'; exact h'
 ·have hz2 : x / 2 ^ n.toNat = x / 2 ^ r / 340282366920938463463374607431768211456 := by rw [Nat.div_div_eq_div_mul, show n.toNat = r + 128 by omega, Nat.pow_add]
  refine (right_w2 _ _ _ _ n (r : Int) w (wd_limb x 0) (wd_limb x 1) (wd_limb x 2) (wd_limb x 3) hq hrn hn (by omega) (by omega) (by omega)).mono fun e w' h => post e w' (limb x 2 / 2 ^ r + limb x 3 % 2 ^ r * 2 ^ (64 - r)) (limb x 3 / 2 ^ r) 0 0 ?_ ?_ ?_ ?_ ?_
  ·first | exact hb0 | exact hb1 | exact hb2 | exact hb3 | decide
  ·first | exact hb0 | exact hb1 | exact hb2 | exact hb3 | decide
  ·first | exact hb0 | exact hb1 | exact hb2 | exact hb3 | decide
  ·rw [hz2, hsum]; clear o0 o1 o2 o3 post hz hz2 hsum; generalize limb x 0 / 2 ^ r + limb x 1 % 2 ^ r * 2 ^ (64 - r) = m0 at *; generalize limb x 1 / 2 ^ r + limb x 2 % 2 ^ r * 2 ^ (64 - r) = m1 at *; generalize limb x 2 / 2 ^ r + limb x 3 % 2 ^ r * 2 ^ (64 - r) = m2 at *; generalize limb x 3 / 2 ^ r = m3 at *; omega
  ·have h' := h; simp only [o2] at h'; simp only [Int.toNat_natCast, o3] at h'; exact h'
 ·have hz2 : x / 2 ^ n.toNat = x / 2 ^ r / 6277101735386680763835789423207666416102355444464034512896 := by rw [Nat.div_div_eq_div_mul, show n.toNat = r + 192 by omega, Nat.pow_add]
  refine (right_w3 _ _ _ _ n (r : Int) w (wd_limb x 0) (wd_limb x 1) (wd_limb x 2) (wd_limb x 3) hq hrn hn (by omega) (by omega) (by omega)).mono fun e w' h => post e w' (limb x 3 / 2 ^ r) 0 0 0 ?_ ?_ ?_ ?_ ?_
  ·first | exact hb0 | exact hb1 | exact hb2 | exact hb3 | decide
  ·first | exact hb0 | exact hb1 | exact hb2 | exact hb3 | decide
  ·first | exact hb0 | exact hb1 | exact hb2 | exact hb3 | decide
  ·rw [hz2, hsum]; clear o0 o1 o2 o3 post hz hz2 hsum; generalize limb x 0 / 2 ^ r + limb x 1 % 2 ^ r * 2 ^ (64 - r) = m0 at *; generalize limb x 1 / 2 ^ r + limb x 2 % 2 ^ r * 2 ^ (64 - r) = m1 at *; generalize limb x 2 / 2 ^ r + limb x 3 % 2 ^ r * 2 ^ (64 - r) = m2 at *; generalize limb x 3 / 2 ^ r = m3 at *; omega
  ·have h' := h; simp only [Int.toNat_natCast, o3] at h'; exact h'
@[reducible] def cells32 (f : Nat → Int) : Array Value := #[.int .u8 (f 0), .int .u8 (f 1), .int .u8 (f 2), .int .u8 (f 3), .int .u8 (f 4), .int .u8 (f 5), .int .u8 (f 6), .int .u8 (f 7), .int .u8 (f 8), .int .u8 (f 9), .int .u8 (f 10), .int .u8 (f 11), .int .u8 (f 12), .int .u8 (f 13), .int .u8 (f 14), .int .u8 (f 15), .int .u8 (f 16), .int .u8 (f 17), .int .u8 (f 18), .int .u8 (f 19), .int .u8 (f 20), .int .u8 (f 21), .int .u8 (f 22), .int .u8 (f 23), .int .u8 (f 24), .int .u8 (f 25), .int .u8 (f 26), .int .u8 (f 27), .int .u8 (f 28), .int .u8 (f 29), .int .u8 (f 30), .int .u8 (f 31)]
def byteAt (x i : Nat) : Int := ((x / 256 ^ (31 - i) % 256 : Nat) : Int)
theorem cells32_eq (f : Nat → Int) : cells32 f = ((List.range 32).map fun i => Value.int .u8 (f i)).toArray := rfl
theorem cells32_get (f : Nat → Int) (j : Nat) (h : j < 32) : (cells32 f)[j]? = some (.int .u8 (f j)) := by
 rw [cells32_eq]; simp [h]
def row32 (f : Nat → Int) : Array Value := cells32 f
@[reducible] def bv (f : Nat → Int) : Value := .agg (row32 f)
theorem row32_get (f : Nat → Int) (j : Nat) (h : j < 32) : (row32 f)[j]? = some (.int .u8 (f j)) := cells32_get f j h
theorem heap_new3 (w : World) (A B C : Obj) : (((w.alloc A).alloc B).alloc C).heap[w.heap.size + 1 + 1]? = some C := by
 rw [heapAt, if_pos (by simp)]
theorem heap_mid3 (w : World) (A B C : Obj) : (((w.alloc A).alloc B).alloc C).heap[w.heap.size + 1]? = some B := by
 rw [heapAt, if_neg (by simp), heapAt, if_pos (by simp)]
def Bytes8 (f : Nat → Int) : Prop := ∀ i, 0 ≤ f i ∧ f i < 256
def beN (f : Nat → Int) : Nat → Nat
 | 0 => 0
 | k + 1 => beN f k + (f (31 - k)).toNat * 256 ^ k
theorem beN_lt (f : Nat → Int) (hf : Bytes8 f) : ∀ k, beN f k < 256 ^ k
 | 0 => by simp [beN]
 | k + 1 => by
  have h := beN_lt f hf k
  have hb : (f (31 - k)).toNat ≤ 255 := by have := hf (31 - k); omega
  have h2 := Nat.mul_le_mul_right (256 ^ k) hb
  rw [beN, Nat.pow_succ]; omega
@[reducible] def limbs4 (z : Nat) : Array Value := #[.int .u64 (limb z 0 : Nat), .int .u64 (limb z 1 : Nat), .int .u64 (limb z 2 : Nat), .int .u64 (limb z 3 : Nat)]
theorem or_step (z b k q y : Nat) (hz : z < 256 ^ k) (hb : b < 256) (hq : k / 8 = q) (hy : y = z + b * 256 ^ k) :
 bits BinOp.or IntKind.u64 ((limb z q : Nat) : Int) (IntKind.u64.wrap ((b : Int) * 2 ^ (8 * (k % 8)))) = ((limb y q : Nat) : Int) ∧ (∀ j, j ≠ q → limb y j = limb z j) := by
 subst hy
 have hs8 : 8 * (k % 8) ≤ 56 := by omega
 have hkk : 256 ^ k = 18446744073709551616 ^ q * 2 ^ (8 * (k % 8)) := by
  rw [show (256 : Nat) = 2 ^ 8 from rfl, show (18446744073709551616 : Nat) = 2 ^ 64 from rfl, ← Nat.pow_mul, ← Nat.pow_mul, ← Nat.pow_add]
  congr 1; omega
 have hpos : 0 < 18446744073709551616 ^ q := Nat.pow_pos (by decide)
 have hp2 : 2 ^ (8 * (k % 8)) ≤ 2 ^ 56 := Nat.pow_le_pow_right (by decide) hs8
 have hbs : b * 2 ^ (8 * (k % 8)) ≤ 255 * 2 ^ 56 := Nat.mul_le_mul (by omega) hp2
 have hzq : z / 18446744073709551616 ^ q < 2 ^ (8 * (k % 8)) := Nat.div_lt_of_lt_mul (by rw [← hkk]; exact hz)
 have hl : limb z q = z / 18446744073709551616 ^ q := by unfold limb; exact Nat.mod_eq_of_lt (by omega)
 have hnew : z + b * 256 ^ k = z + 18446744073709551616 ^ q * (b * 2 ^ (8 * (k % 8))) := by
  rw [hkk]; congr 1; exact Nat.mul_left_comm b (18446744073709551616 ^ q) (2 ^ (8 * (k % 8)))
 constructor
 ·have e : ((b : Int) * 2 ^ (8 * (k % 8))) = ((b * 2 ^ (8 * (k % 8)) : Nat) : Int) := by simp
  rw [e, IntKind.wrap_u64, show (((b * 2 ^ (8 * (k % 8)) : Nat) : Int) % 18446744073709551616) = ((b * 2 ^ (8 * (k % 8)) : Nat) : Int) by omega]
  rw [bits_or_u64_nat _ _ (limb_lt z q) (by omega), hl, Nat.or_comm, Nat.mul_comm b, ← Nat.two_pow_add_eq_or_of_lt hzq]
  congr 1
  rw [hnew]; unfold limb
  rw [Nat.add_mul_div_left _ _ hpos, Nat.mul_comm b, Nat.add_comm]
  rw [Nat.mul_comm b] at hbs
  exact (Nat.mod_eq_of_lt (by omega)).symm
 ·intro j hj
  rw [hnew]; unfold limb
  by_cases hlt : j < q
  ·obtain ⟨d, rfl⟩ : ∃ d, q = j + (d + 1) := ⟨q - j - 1, by omega⟩
   rw [Nat.pow_add, Nat.mul_assoc, Nat.add_mul_div_left _ _ (Nat.pow_pos (by decide)), Nat.pow_succ, Nat.mul_comm (18446744073709551616 ^ d), Nat.mul_assoc, Nat.add_mul_mod_self_left]
  ·obtain ⟨d, rfl⟩ : ∃ d, j = q + (d + 1) := ⟨j - q - 1, by omega⟩
   have h1 : z / 18446744073709551616 ^ (q + (d + 1)) = 0 := by
    rw [Nat.pow_add, ← Nat.div_div_eq_div_mul]
    apply Nat.div_eq_of_lt
    have : 18446744073709551616 ^ 1 ≤ 18446744073709551616 ^ (d + 1) := Nat.pow_le_pow_right (by decide) (by omega)
    omega
   have h2 : (z + 18446744073709551616 ^ q * (b * 2 ^ (8 * (k % 8)))) / 18446744073709551616 ^ (q + (d + 1)) = 0 := by
    rw [Nat.pow_add, ← Nat.div_div_eq_div_mul, Nat.add_mul_div_left _ _ hpos]
    apply Nat.div_eq_of_lt
    have : 18446744073709551616 ^ 1 ≤ 18446744073709551616 ^ (d + 1) := Nat.pow_le_pow_right (by decide) (by omega)
    omega
   rw [h1, h2]
theorem below_setRow {B : Nat} {a w : World} (h : Below B a w) {g : Nat} (hg : B ≤ g) (c : Array Value) : Below B a (w.setRow g c) :=
 h.trans ⟨rfl, rfl, rfl, by simp, fun k hk => setRow_other w g k c (by omega)⟩
theorem limbs4_one (z : Nat) : (limbs4 z).all (·.oneCell') = true := by simp [Value.oneCell']
theorem from_round (f : Nat → Int) (hf : Bytes8 f) (k q : Nat) (hk : k < 32) (hq : k / 8 = q) :
 (limbs4 (beN f k)).setIfInBounds q (.int .u64 (bits BinOp.or IntKind.u64 ((limb (beN f k) q : Nat) : Int) (IntKind.u64.wrap (IntKind.u64.wrap (f (31 - k)) * 2 ^ (8 * (k % 8)))))) = limbs4 (beN f (k + 1)) := by
 have hb := hf (31 - k)
 have e : IntKind.u64.wrap (f (31 - k)) = (((f (31 - k)).toNat : Nat) : Int) := by rw [IntKind.wrap_u64]; omega
 obtain ⟨h1, h2⟩ := or_step (beN f k) (f (31 - k)).toNat k q (beN f (k + 1)) (beN_lt f hf k) (by omega) hq rfl
 rw [e, h1]
 have h0 := h2 0; have h1' := h2 1; have h2' := h2 2; have h3' := h2 3
 have hq4 : q = 0 ∨ q = 1 ∨ q = 2 ∨ q = 3 := by omega
 simp only [limbs4]
 rcases hq4 with rfl | rfl | rfl | rfl
 ·rw [h1' (by decide), h2' (by decide), h3' (by decide)]; rfl
 ·rw [h0 (by decide), h2' (by decide), h3' (by decide)]; rfl
 ·rw [h0 (by decide), h1' (by decide), h3' (by decide)]; rfl
 ·rw [h0 (by decide), h1' (by decide), h2' (by decide)]; rfl
theorem limbs4_zero : limbs4 0 = #[.int .u64 0, .int .u64 0, .int .u64 0, .int .u64 0] := by kernel_rfl
structure FromInv (f : Nat → Int) (w : World) (k : Nat) (wr : World) : Prop where
 src : wr.heap[w.heap.size]? = some (.cells (row32 f) 23 (0, 0))
 res : wr.heap[w.heap.size + 1]? = some (.cells (limbs4 0) 87 (0, 0))
 out : wr.heap[w.heap.size + 1 + 1]? = some (.cells (limbs4 (beN f k)) 87 (0, 0))
 below : Below w.heap.size w wr
 size : w.heap.size + 1 + 1 < wr.heap.size
theorem FromInv.step {f : Nat → Int} {w wr : World} {k : Nat} (h : FromInv f w k wr) (q : Nat) (v : Value) (hc : (limbs4 (beN f k)).setIfInBounds q v = limbs4 (beN f (k + 1))) :
 FromInv f w (k + 1) (wr.setCell ⟨w.heap.size + 1 + 1, q, none⟩ v).drew :=
 ⟨(heap_setCell_other _ _ _ _ (by simp; omega)).trans h.src, (heap_setCell_other _ _ _ _ (by simp)).trans h.res,
  by rw [← hc]; exact heap_setCell_same _ _ _ _ _ _ h.out, (h.below.setCell (by simp; omega) _).drew, by simpa using h.size⟩
theorem FromInv.result {f : Nat → Int} {w wr : World} (h : FromInv f w 32 wr) (hf : Bytes8 f) : ∃ z, z = beN f 32 ∧ z < W256 ∧ wr.heap[w.heap.size + 1 + 1]? = some (.cells (limbs4 z) 87 (0, 0)) :=
 ⟨_, rfl, by rw [W256_pow, show (2 : Nat) ^ 256 = 256 ^ 32 by decide]; exact beN_lt f hf 32, h.out⟩
theorem from_w (f : Nat → Int) (hf : Bytes8 f) (w : World) :
 Calls Tryz.prog 77 #[bv f] w (RetW w fun z => z = beN f 32) := by
 have hF := Lib.hid hf
 clear hf
 go_enter Tryz.func77, Tryz.ntmps77
 go_wp2
 go_loopw [5] (fun i wr => ∃ k : Nat, k ≤ 32 ∧ i = .int .i64 k ∧ FromInv f w k wr) (fun i _ => (32 - (intOf i).toNat))
 case atStart =>
  refine ⟨0, by omega, rfl, ⟨?_, ?_, ?_, by go_grown, by simp⟩⟩
  ·rw [heapAt, if_neg (by simp; omega), heapAt, if_neg (by simp), heapAt, if_pos (by simp)]
  ·rw [limbs4_zero]; exact heap_mid3 _ _ _ _
  ·rw [show beN f 0 = 0 from rfl, limbs4_zero]; exact heap_new3 _ _ _ _
 case round =>
  obtain ⟨k, hk, rfl, hI⟩ := hrel
  by_cases hlt : k < 32
  ·have e1 : (31 - (k : Int)).toNat = 31 - k := by omega
   have hq : (k : Int) / 8 = 0 ∨ (k : Int) / 8 = 1 ∨ (k : Int) / 8 = 2 ∨ (k : Int) / 8 = 3 := by omega
   have c1 : wr.cell? ⟨w.heap.size, 31 - k, none⟩ = some (.int .u8 (f (31 - k))) := by
    rw [cell_of_row _ _ _ _ _ _ hI.src]; exact row32_get f _ (by omega)
   have d0 : wr.cell? ⟨w.heap.size + 1 + 1, 0, none⟩ = some (.int .u64 (limb (beN f k) 0 : Nat)) := (cell_of_row _ _ _ _ _ _ hI.out).trans rfl
   have d1 : wr.cell? ⟨w.heap.size + 1 + 1, 1, none⟩ = some (.int .u64 (limb (beN f k) 1 : Nat)) := (cell_of_row _ _ _ _ _ _ hI.out).trans rfl
   have d2 : wr.cell? ⟨w.heap.size + 1 + 1, 2, none⟩ = some (.int .u64 (limb (beN f k) 2 : Nat)) := (cell_of_row _ _ _ _ _ _ hI.out).trans rfl
   have d3 : wr.cell? ⟨w.heap.size + 1 + 1, 3, none⟩ = some (.int .u64 (limb (beN f k) 3 : Nat)) := (cell_of_row _ _ _ _ _ _ hI.out).trans rfl
   have f0 := frozen_of_row wr _ 0 _ _ hI.out; have f1 := frozen_of_row wr _ 1 _ _ hI.out; have f2 := frozen_of_row wr _ 2 _ _ hI.out; have f3 := frozen_of_row wr _ 3 _ _ hI.out
   rcases hq with hq | hq | hq | hq
   ·have hstep := Lib.hid (hI.step 0 _ (from_round f hF.out k 0 hlt (by omega)))
    have HI := Lib.hid hI
    clear hI
    go_wp2
    go_region
    go_wp2
    go_roundw
    case rel => exact ⟨k + 1, by omega, by go_num, hstep.out⟩
    case measure => simp [intOf]; omega
   ·have hstep := Lib.hid (hI.step 1 _ (from_round f hF.out k 1 hlt (by omega)))
    have HI := Lib.hid hI
    clear hI
    go_wp2
    go_region
    go_wp2
    go_roundw
    case rel => exact ⟨k + 1, by omega, by go_num, hstep.out⟩
    case measure => simp [intOf]; omega
   ·have hstep := Lib.hid (hI.step 2 _ (from_round f hF.out k 2 hlt (by omega)))
    have HI := Lib.hid hI
    clear hI
    go_wp2
    go_region
    go_wp2
    go_roundw
    case rel => exact ⟨k + 1, by omega, by go_num, hstep.out⟩
    case measure => simp [intOf]; omega
   ·have hstep := Lib.hid (hI.step 3 _ (from_round f hF.out k 3 hlt (by omega)))
    have HI := Lib.hid hI
    clear hI
    go_wp2
    go_region
    go_wp2
    go_roundw
    case rel => exact ⟨k + 1, by omega, by go_num, hstep.out⟩
    case measure => simp [intOf]; omega
  ·obtain rfl : k = 32 := by omega
   obtain ⟨z, hz, hz2, hout⟩ := hI.result hF.out
   have Hz := Lib.hid hz; have Hz2 := Lib.hid hz2; have HO := Lib.hid hout; have HR := Lib.hid hI.res; have HB := Lib.hid hI.below
   clear hI hz hz2 hout
   go_wp2_with (first
    | (refine wpList_load_row rfl 87 (.tmp 3) rfl (w.heap.size + 1 + 1) rfl 87 (limbs4 z) (0, 0) _ HO.out Tryz.underlying87 rfl (by kernel_rfl) ?_)
    | (refine wpList_store_row rfl 87 (.tmp 2) (.tmp 24) rfl (w.heap.size + 1) (limbs4 z) rfl rfl 87 (limbs4 0) HR.out (by kernel_rfl) rfl (limbs4_one _) ?_))
   exact bodyPost_ret (results_cell_row rfl _ _ (w.heap.size + 1) 87 (limbs4 z) (0, 0) _ rfl (setRow_heap _ _ _ _ _ _ HR.out) Tryz.underlying87 rfl (by kernel_rfl)) rfl (⟨z, Hz2.out, Hz.out, rfl, below_setRow HB.out (by omega) _⟩)
theorem mstep (x y o c : Int) (hx : Wd x) (hy : Wd y) (ho : Wd o) (hc : Wd c) : ∃ h l s c1 t d k : Int,
 (Wd t ∧ Wd k ∧ t + 18446744073709551616 * k = o + x * y + c) ∧
 (∀ w, Calls Tryz.prog 139 #[.int .u64 x, .int .u64 y] w fun e w' => e = .returned (.tuple #[.int .u64 h, .int .u64 l]) ∧ w' = w) ∧
 (∀ w, (callFunc 135 #[.int .u64 o, .int .u64 l, .int .u64 0]).run Tryz.prog w = .ok (.value (.tuple #[.int .u64 s, .int .u64 c1])) w) ∧
 (∀ w, (callFunc 135 #[.int .u64 s, .int .u64 c, .int .u64 0]).run Tryz.prog w = .ok (.value (.tuple #[.int .u64 t, .int .u64 d])) w) ∧
 (IntKind.u64.wrap (IntKind.u64.wrap (h + c1) + d) = k) := by
 obtain ⟨hx0, hx1⟩ := hx; obtain ⟨hy0, hy1⟩ := hy; obtain ⟨ho0, ho1⟩ := ho; obtain ⟨hc0, hc1⟩ := hc
 obtain ⟨X, rfl⟩ := Int.eq_ofNat_of_zero_le hx0
 obtain ⟨Y, rfl⟩ := Int.eq_ofNat_of_zero_le hy0
 have hm := fun w => Tryz.bits_Mul64 X Y (by omega) (by omega) w
 have hle : X * Y ≤ 18446744073709551615 * 18446744073709551615 := Nat.mul_le_mul (by omega) (by omega)
 have hcast : ((X : Int) * (Y : Int)) = ((X * Y : Nat) : Int) := by simp
 obtain ⟨s, c1, H1, f1⟩ := add64 o ((X * Y % 18446744073709551616 : Nat) : Int) 0 ho0 (by omega) (by omega) (by omega)
 obtain ⟨t, d, H2, f2⟩ := add64 s c 0 (by omega) hc0 (by omega) (by omega)
 refine ⟨((X * Y / 18446744073709551616 : Nat) : Int), ((X * Y % 18446744073709551616 : Nat) : Int), s, c1, t, d, ((X * Y / 18446744073709551616 : Nat) : Int) + c1 + d, ?_, hm, f1, f2, ?_⟩
 ·unfold Wd; rw [hcast]; omega
 ·rw [IntKind.wrap_u64, IntKind.wrap_u64]; omega
theorem index_w0 (a b c d : Int) (w : World) : (Instr.index 87 (.agg #[.int .u64 a, .int .u64 b, .int .u64 c, .int .u64 d]) (.int .i64 0)).run Tryz.prog w = .ok (.int .u64 a) w := by kernel_rfl
theorem index_w1 (a b c d : Int) (w : World) : (Instr.index 87 (.agg #[.int .u64 a, .int .u64 b, .int .u64 c, .int .u64 d]) (.int .i64 1)).run Tryz.prog w = .ok (.int .u64 b) w := by kernel_rfl
theorem index_w2 (a b c d : Int) (w : World) : (Instr.index 87 (.agg #[.int .u64 a, .int .u64 b, .int .u64 c, .int .u64 d]) (.int .i64 2)).run Tryz.prog w = .ok (.int .u64 c) w := by kernel_rfl
theorem index_w3 (a b c d : Int) (w : World) : (Instr.index 87 (.agg #[.int .u64 a, .int .u64 b, .int .u64 c, .int .u64 d]) (.int .i64 3)).run Tryz.prog w = .ok (.int .u64 d) w := by kernel_rfl
theorem array_at4 (a : Addr) (c : Nat) (w : World) : (Instr.arrayAt 87 (.slice (some a) 4 c)).run Tryz.prog w = .ok (.pointer (some a)) w := by kernel_rfl
def Ret8 (w : World) (Q : Int → Int → Prop) (e : Ending) (w' : World) : Prop := ∃ s0 s1 s2 s3 t0 t1 t2 t3 : Int, Wd s0 ∧ Wd s1 ∧ Wd s2 ∧ Wd s3 ∧ Wd t0 ∧ Wd t1 ∧ Wd t2 ∧ Wd t3 ∧ Q (sum4 s0 s1 s2 s3) (sum4 t0 t1 t2 t3) ∧
 e = .returned (.tuple #[.agg #[.int .u64 s0, .int .u64 s1, .int .u64 s2, .int .u64 s3], .agg #[.int .u64 t0, .int .u64 t1, .int .u64 t2, .int .u64 t3]]) ∧ Below w.heap.size w w'
theorem mul_plain (a0 a1 a2 a3 b0 b1 b2 b3 : Int) : sum4 a0 a1 a2 a3 * sum4 b0 b1 b2 b3 =
 sum4 (a0*b0) (a0*b1) (a0*b2) (a0*b3) + 18446744073709551616 * sum4 (a1*b0) (a1*b1) (a1*b2) (a1*b3) + 340282366920938463463374607431768211456 * sum4 (a2*b0) (a2*b1) (a2*b2) (a2*b3) + 6277101735386680763835789423207666416102355444464034512896 * sum4 (a3*b0) (a3*b1) (a3*b2) (a3*b3) := by
 unfold sum4; grind
theorem mul_w (a0 a1 a2 a3 b0 b1 b2 b3 : Int) (w : World) (ha0 : Wd a0) (ha1 : Wd a1) (ha2 : Wd a2) (ha3 : Wd a3) (hb0 : Wd b0) (hb1 : Wd b1) (hb2 : Wd b2) (hb3 : Wd b3) :
 Calls Tryz.prog 128 #[.agg #[.int .u64 a0, .int .u64 a1, .int .u64 a2, .int .u64 a3], .agg #[.int .u64 b0, .int .u64 b1, .int .u64 b2, .int .u64 b3]] w
  (Ret8 w fun s t => s + 115792089237316195423570985008687907853269984665640564039457584007913129639936 * t = sum4 a0 a1 a2 a3 * sum4 b0 b1 b2 b3) := by
 have Z : Wd 0 := ⟨by omega, by omega⟩
 obtain ⟨h00, l00, s00, c00, t00, d00, k00, ⟨T00, K00, E00⟩, m00, f00, g00, r00⟩ := mstep a0 b0 (0) 0 ha0 hb0 Z Z
 obtain ⟨h01, l01, s01, c01, t01, d01, k01, ⟨T01, K01, E01⟩, m01, f01, g01, r01⟩ := mstep a0 b1 (0) k00 ha0 hb1 Z K00
 obtain ⟨h02, l02, s02, c02, t02, d02, k02, ⟨T02, K02, E02⟩, m02, f02, g02, r02⟩ := mstep a0 b2 (0) k01 ha0 hb2 Z K01
 obtain ⟨h03, l03, s03, c03, t03, d03, k03, ⟨T03, K03, E03⟩, m03, f03, g03, r03⟩ := mstep a0 b3 (0) k02 ha0 hb3 Z K02
 obtain ⟨h10, l10, s10, c10, t10, d10, k10, ⟨T10, K10, E10⟩, m10, f10, g10, r10⟩ := mstep a1 b0 (t01) 0 ha1 hb0 T01 Z
 obtain ⟨h11, l11, s11, c11, t11, d11, k11, ⟨T11, K11, E11⟩, m11, f11, g11, r11⟩ := mstep a1 b1 (t02) k10 ha1 hb1 T02 K10
 obtain ⟨h12, l12, s12, c12, t12, d12, k12, ⟨T12, K12, E12⟩, m12, f12, g12, r12⟩ := mstep a1 b2 (t03) k11 ha1 hb2 T03 K11
 obtain ⟨h13, l13, s13, c13, t13, d13, k13, ⟨T13, K13, E13⟩, m13, f13, g13, r13⟩ := mstep a1 b3 (k03) k12 ha1 hb3 K03 K12
 obtain ⟨h20, l20, s20, c20, t20, d20, k20, ⟨T20, K20, E20⟩, m20, f20, g20, r20⟩ := mstep a2 b0 (t11) 0 ha2 hb0 T11 Z
 obtain ⟨h21, l21, s21, c21, t21, d21, k21, ⟨T21, K21, E21⟩, m21, f21, g21, r21⟩ := mstep a2 b1 (t12) k20 ha2 hb1 T12 K20
 obtain ⟨h22, l22, s22, c22, t22, d22, k22, ⟨T22, K22, E22⟩, m22, f22, g22, r22⟩ := mstep a2 b2 (t13) k21 ha2 hb2 T13 K21
 obtain ⟨h23, l23, s23, c23, t23, d23, k23, ⟨T23, K23, E23⟩, m23, f23, g23, r23⟩ := mstep a2 b3 (k13) k22 ha2 hb3 K13 K22
 obtain ⟨h30, l30, s30, c30, t30, d30, k30, ⟨T30, K30, E30⟩, m30, f30, g30, r30⟩ := mstep a3 b0 (t21) 0 ha3 hb0 T21 Z
 obtain ⟨h31, l31, s31, c31, t31, d31, k31, ⟨T31, K31, E31⟩, m31, f31, g31, r31⟩ := mstep a3 b1 (t22) k30 ha3 hb1 T22 K30
 obtain ⟨h32, l32, s32, c32, t32, d32, k32, ⟨T32, K32, E32⟩, m32, f32, g32, r32⟩ := mstep a3 b2 (t23) k31 ha3 hb2 T23 K31
 obtain ⟨h33, l33, s33, c33, t33, d33, k33, ⟨T33, K33, E33⟩, m33, f33, g33, r33⟩ := mstep a3 b3 (k23) k32 ha3 hb3 K23 K32
 have G : Hid (sum4 t00 t10 t20 t30 + 115792089237316195423570985008687907853269984665640564039457584007913129639936 * sum4 t31 t32 t33 k33 = sum4 a0 a1 a2 a3 * sum4 b0 b1 b2 b3) := by
  rw [mul_plain]; unfold Hid sum4; omega
 clear E00 E01 E02 E03 E10 E11 E12 E13 E20 E21 E22 E23 E30 E31 E32 E33
 have M00 := Lib.hid m00; clear m00
 have M01 := Lib.hid m01; clear m01
 have M02 := Lib.hid m02; clear m02
 have M03 := Lib.hid m03; clear m03
 have M10 := Lib.hid m10; clear m10
 have M11 := Lib.hid m11; clear m11
 have M12 := Lib.hid m12; clear m12
 have M13 := Lib.hid m13; clear m13
 have M20 := Lib.hid m20; clear m20
 have M21 := Lib.hid m21; clear m21
 have M22 := Lib.hid m22; clear m22
 have M23 := Lib.hid m23; clear m23
 have M30 := Lib.hid m30; clear m30
 have M31 := Lib.hid m31; clear m31
 have M32 := Lib.hid m32; clear m32
 have M33 := Lib.hid m33; clear m33
 unfold Wd at *
 have xarr := array_at4
 have xa0 := index_w0 a0 a1 a2 a3
 have xa1 := index_w1 a0 a1 a2 a3
 have xa2 := index_w2 a0 a1 a2 a3
 have xa3 := index_w3 a0 a1 a2 a3
 have xb0 := index_w0 b0 b1 b2 b3
 have xb1 := index_w1 b0 b1 b2 b3
 have xb2 := index_w2 b0 b1 b2 b3
 have xb3 := index_w3 b0 b1 b2 b3
 go_enter Tryz.func128, Tryz.ntmps128
 go_wp2
 refine wp_loop_rounds 5 ?_
 rw [rounds_succ]; go_wp2
 refine wp_loop_rounds 5 ?_
 rw [rounds_succ]; go_wp2_with (go_at_call 139; refine (M00.out _).mono ?_; rintro e w' ⟨rfl, rfl⟩)
 rw [rounds_succ]; go_wp2_with (go_at_call 139; refine (M01.out _).mono ?_; rintro e w' ⟨rfl, rfl⟩)
 rw [rounds_succ]; go_wp2_with (go_at_call 139; refine (M02.out _).mono ?_; rintro e w' ⟨rfl, rfl⟩)
 rw [rounds_succ]; go_wp2_with (go_at_call 139; refine (M03.out _).mono ?_; rintro e w' ⟨rfl, rfl⟩)
 rw [rounds_succ]; go_wp2
 rw [rounds_succ]; go_wp2
 refine wp_loop_rounds 5 ?_
 rw [rounds_succ]; go_wp2_with (go_at_call 139; refine (M10.out _).mono ?_; rintro e w' ⟨rfl, rfl⟩)
 rw [rounds_succ]; go_wp2_with (go_at_call 139; refine (M11.out _).mono ?_; rintro e w' ⟨rfl, rfl⟩)
 rw [rounds_succ]; go_wp2_with (go_at_call 139; refine (M12.out _).mono ?_; rintro e w' ⟨rfl, rfl⟩)
 rw [rounds_succ]; go_wp2_with (go_at_call 139; refine (M13.out _).mono ?_; rintro e w' ⟨rfl, rfl⟩)
 rw [rounds_succ]; go_wp2
 rw [rounds_succ]; go_wp2
 refine wp_loop_rounds 5 ?_
 rw [rounds_succ]; go_wp2_with (go_at_call 139; refine (M20.out _).mono ?_; rintro e w' ⟨rfl, rfl⟩)
 rw [rounds_succ]; go_wp2_with (go_at_call 139; refine (M21.out _).mono ?_; rintro e w' ⟨rfl, rfl⟩)
 rw [rounds_succ]; go_wp2_with (go_at_call 139; refine (M22.out _).mono ?_; rintro e w' ⟨rfl, rfl⟩)
 rw [rounds_succ]; go_wp2_with (go_at_call 139; refine (M23.out _).mono ?_; rintro e w' ⟨rfl, rfl⟩)
 rw [rounds_succ]; go_wp2
 rw [rounds_succ]; go_wp2
 refine wp_loop_rounds 5 ?_
 rw [rounds_succ]; go_wp2_with (go_at_call 139; refine (M30.out _).mono ?_; rintro e w' ⟨rfl, rfl⟩)
 rw [rounds_succ]; go_wp2_with (go_at_call 139; refine (M31.out _).mono ?_; rintro e w' ⟨rfl, rfl⟩)
 rw [rounds_succ]; go_wp2_with (go_at_call 139; refine (M32.out _).mono ?_; rintro e w' ⟨rfl, rfl⟩)
 rw [rounds_succ]; go_wp2_with (go_at_call 139; refine (M33.out _).mono ?_; rintro e w' ⟨rfl, rfl⟩)
 rw [rounds_succ]; go_wp2
 rw [rounds_succ]; go_wp2
 go_region
 go_wp2
 go_returns
 exact ⟨_, _, _, _, _, _, _, _, T00, T10, T20, T30, T31, T32, T33, K33, G.out, rfl, by go_grown⟩
theorem mul_c (x y : Nat) (hx : x < W256) (hy : y < W256) (w : World) :
 Calls Tryz.prog 128 #[wv x, wv y] w (RetWW w fun l h => l = x * y % W256 ∧ h = x * y / W256) := by
 refine (mul_w _ _ _ _ _ _ _ _ w (wd_limb x 0) (wd_limb x 1) (wd_limb x 2) (wd_limb x 3) (wd_limb y 0) (wd_limb y 1) (wd_limb y 2) (wd_limb y 3)).mono ?_
 rintro e w' ⟨s0, s1, s2, s3, t0, t1, t2, t3, h0, h1, h2, h3, k0, k1, k2, k3, hQ, he, hb⟩
 rw [sum4_limbs x hx, sum4_limbs y hy] at hQ
 have hs := sum4_bd h0 h1 h2 h3
 have ht := sum4_bd k0 k1 k2 k3
 have hm : ((x : Int) * (y : Int)) = ((x * y : Nat) : Int) := by simp
 rw [hm] at hQ
 have hd : x * y / W256 < W256 := Nat.div_lt_of_lt_mul (Nat.mul_lt_mul'' hx hy)
 refine ⟨x * y % W256, x * y / W256, Nat.mod_lt _ (by decide), hd, ⟨rfl, rfl⟩, ?_, hb⟩
 rw [he, wv_of (x * y % W256) (Nat.mod_lt _ (by decide)) s0 s1 s2 s3 h0 h1 h2, wv_of (x * y / W256) hd t0 t1 t2 t3 k0 k1 k2]
 ·show _ = sum4 t0 t1 t2 t3
  rw [W256_eq]; generalize x * y = m at *; omega
 ·show _ = sum4 s0 s1 s2 s3
  rw [W256_eq]; generalize x * y = m at *; omega
def alike (n : Nat) (f g : Nat → Int) : Bool := (List.range n).all fun i => f i == g i
theorem alike_iff (n : Nat) (f g : Nat → Int) : alike n f g = true ↔ ∀ i, i < n → f i = g i := by
 simp [alike]
def weq (x y : Nat) : Bool := alike 4 (fun i => ((limb x i : Nat) : Int)) (fun i => ((limb y i : Nat) : Int))
theorem weq_iff {x y : Nat} (hx : x < W256) (hy : y < W256) : weq x y = true ↔ x = y := by
 unfold weq
 rw [alike_iff]
 constructor
 ·intro h
  have h0 := h 0 (by decide); have h1 := h 1 (by decide); have h2 := h 2 (by decide); have h3 := h 3 (by decide)
  exact limb_ext hx hy (by omega) (by omega) (by omega) (by omega)
 ·rintro rfl i _; rfl
theorem weq_decide {x y : Nat} (hx : x < W256) (hy : y < W256) : weq x y = decide (x = y) := by
 rw [Bool.eq_iff_iff, weq_iff hx hy]; simp
theorem at4 {w : World} {b z : Nat} {t : TypeId} (h : w.heap[b]? = some (.cells (limbs4 z) t (0, 0))) :
 (w.cell? ⟨b, 0, none⟩ = some (.int .u64 (limb z 0 : Nat)) ∧ w.cell? ⟨b, 1, none⟩ = some (.int .u64 (limb z 1 : Nat)) ∧ w.cell? ⟨b, 2, none⟩ = some (.int .u64 (limb z 2 : Nat)) ∧ w.cell? ⟨b, 3, none⟩ = some (.int .u64 (limb z 3 : Nat))) ∧
 (w.frozen? ⟨b, 0, none⟩ = false ∧ w.frozen? ⟨b, 1, none⟩ = false ∧ w.frozen? ⟨b, 2, none⟩ = false ∧ w.frozen? ⟨b, 3, none⟩ = false) :=
 ⟨⟨(cell_of_row _ _ _ _ _ _ h).trans rfl, (cell_of_row _ _ _ _ _ _ h).trans rfl, (cell_of_row _ _ _ _ _ _ h).trans rfl, (cell_of_row _ _ _ _ _ _ h).trans rfl⟩,
  frozen_of_row _ _ _ _ _ h, frozen_of_row _ _ _ _ _ h, frozen_of_row _ _ _ _ _ h, frozen_of_row _ _ _ _ _ h⟩
structure DivRows (w : World) (y q r : Nat) (wr : World) : Prop where
 a : wr.heap[w.heap.size]? = some (.cells (limbs4 r) 87 (0, 0))
 b : wr.heap[w.heap.size + 1]? = some (.cells (limbs4 y) 87 (0, 0))
 c : wr.heap[w.heap.size + 1 + 1]? = some (.cells (limbs4 0) 87 (0, 0))
 d : wr.heap[w.heap.size + 1 + 1 + 1]? = some (.cells (limbs4 0) 87 (0, 0))
 t : wr.heap[w.heap.size + 1 + 1 + 1 + 1]? = some (.cells (limbs4 q) 87 (0, 0))
 below : Below w.heap.size w wr
 size : w.heap.size + 5 ≤ wr.heap.size
theorem DivRows.keep {w W w' : World} {y q r : Nat} (h : DivRows w y q r W) (hb : Below W.heap.size W w') : DivRows w y q r w' :=
 have hs := h.size
 ⟨(hb.block _ (by omega)).trans h.a, (hb.block _ (by omega)).trans h.b, (hb.block _ (by omega)).trans h.c, (hb.block _ (by omega)).trans h.d, (hb.block _ (by omega)).trans h.t,
  h.below.trans (hb.mono (by omega)), by have := hb.size; omega⟩
theorem DivRows.cells {w W : World} {y q r : Nat} (h : DivRows w y q r W) :
 W.cell? ⟨w.heap.size, 0, none⟩ = some (.int .u64 (limb r 0 : Nat)) ∧ W.cell? ⟨w.heap.size, 1, none⟩ = some (.int .u64 (limb r 1 : Nat)) ∧ W.cell? ⟨w.heap.size, 2, none⟩ = some (.int .u64 (limb r 2 : Nat)) ∧ W.cell? ⟨w.heap.size, 3, none⟩ = some (.int .u64 (limb r 3 : Nat)) ∧
  W.cell? ⟨w.heap.size + 1, 0, none⟩ = some (.int .u64 (limb y 0 : Nat)) ∧ W.cell? ⟨w.heap.size + 1, 1, none⟩ = some (.int .u64 (limb y 1 : Nat)) ∧ W.cell? ⟨w.heap.size + 1, 2, none⟩ = some (.int .u64 (limb y 2 : Nat)) ∧ W.cell? ⟨w.heap.size + 1, 3, none⟩ = some (.int .u64 (limb y 3 : Nat)) ∧ DivRows w y q r W := by
 obtain ⟨⟨a0, a1, a2, a3⟩, -⟩ := at4 h.a
 obtain ⟨⟨b0, b1, b2, b3⟩, -⟩ := at4 h.b
 exact ⟨a0, a1, a2, a3, b0, b1, b2, b3, h⟩
structure St (w : World) (L : List (Nat × Obj)) (W : World) : Prop where
 below : Below w.heap.size w W
 rows : ∀ p, p ∈ L → W.heap[p.1]? = some p.2
theorem St.nil (w : World) : St w [] w := ⟨Below.refl _ _, fun _ h => by cases h⟩
theorem St.get {w W : World} {L : List (Nat × Obj)} (h : St w L W) {b : Nat} {o : Obj} (hm : (b, o) ∈ L) : W.heap[b]? = some o := h.rows _ hm
theorem St.keep {w W W' : World} {L : List (Nat × Obj)} (h : St w L W) (hb : Below W.heap.size W W') : St w L W' :=
 ⟨below_step h.below hb, fun p hp => (hb.block _ (lt_of_block (h.rows p hp))).trans (h.rows p hp)⟩
theorem St.alloc {w W : World} {L : List (Nat × Obj)} (h : St w L W) (o : Obj) (n : Nat) (hn : W.heap.size = n) : St w ((n, o) :: L) (W.alloc o) := by
 refine ⟨h.below.alloc h.below.size o, fun p hp => ?_⟩
 rcases List.mem_cons.1 hp with rfl | hp
 ·rw [heapAt, if_pos hn.symm]
 ·have := lt_of_block (h.rows p hp)
  rw [heapAt, if_neg (by omega)]
  exact h.rows p hp
theorem St.drew {w W : World} {L : List (Nat × Obj)} (h : St w L W) : St w L W.drew := ⟨h.below.drew, h.rows⟩
theorem St.drop {w W : World} {L L' : List (Nat × Obj)} (h : St w L W) (hs : ∀ p, p ∈ L' → p ∈ L) : St w L' W := ⟨h.below, fun p hp => h.rows p (hs p hp)⟩
@[reducible] def wrow (z : Nat) : Obj := .cells (limbs4 z) 87
theorem wpList_wide {ops : Array Oper} {rest : List Oper} {o : Oper} {a : Act} {w W : World} {L : List (Nat × Obj)} {Q : Exit → Act → World → Prop} (hw : Region.wanted o (yielded ops a.tmps) = true) (x : Operand) (ho : o.op = .load 87 x)
 (g : Nat) (hx : a.eval x = .pointer (some ⟨g, 0, none⟩)) (S : St w L W) (z : Nat) (hm : (g, wrow z) ∈ L)
 (h : wpList Tryz.prog ops Q rest (a.put o.dst (wv z)) W) : wpList Tryz.prog ops Q (o :: rest) a W :=
 wpList_step fun K hK => by
  rw [if_pos hw]
  exact wp_load_row 87 x ho g hx 87 (limbs4 z) (0, 0) _ (S.get hm) Tryz.underlying87 rfl (by kernel_rfl) (hK _ _ h)
theorem St.reads {w : World} {L : List (Nat × Obj)} {g z : Nat} (hm : (g, wrow z) ∈ L) : ∀ W, St w L W → W.cell? ⟨g, 0, none⟩ = some (.int .u64 (limb z 0 : Nat)) ∧ W.cell? ⟨g, 1, none⟩ = some (.int .u64 (limb z 1 : Nat)) ∧ W.cell? ⟨g, 2, none⟩ = some (.int .u64 (limb z 2 : Nat)) ∧ W.cell? ⟨g, 3, none⟩ = some (.int .u64 (limb z 3 : Nat)) :=
 fun _ S => (at4 (S.get hm)).1
theorem St.alloc0 {w W : World} {L : List (Nat × Obj)} (h : St w L W) (o : Obj) : St w L (W.alloc o) := (h.alloc o _ rfl).drop (fun _ hp => List.mem_cons_of_mem _ hp)
theorem St.cons {w W : World} {L : List (Nat × Obj)} (h : St w L W) {g : Nat} {o : Obj} (hg : W.heap[g]? = some o) : St w ((g, o) :: L) W :=
 ⟨h.below, fun p hp => by
  rcases List.mem_cons.1 hp with rfl | hp
  ·exact hg
  ·exact h.rows p hp⟩
theorem keepH {W W' : World} (hb : Below W.heap.size W W') {b : Nat} {o : Obj} (h : W.heap[b]? = some o) : W'.heap[b]? = some o := (hb.block _ (lt_of_block h)).trans h
theorem lastH (W : World) (o : Obj) (n : Nat) (h : W.heap.size = n) : (W.alloc o).heap[n]? = some o := by rw [heapAt, if_pos h.symm]
def blk (n : Nat) : Code → Option Code
 | .block i c => if i = n then some (.block i c) else blk n c
 | .seq a b => match blk n a with
  | some c => some c
  | none => blk n b
 | .loop c => blk n c
 | .scope c => blk n c
 | .cond _ a b => match blk n a with
  | some c => some c
  | none => blk n b
 | _ => none
def piece (f : Func) (n : Nat) : Code := (f.body.bind (blk n)).getD .skip
def slot (T : Array Value) (i : Nat) : Value := T.getD i undef
theorem frame_lit (T : Array Value) (n : Nat) (h : T.size = n) : T = ((List.range n).map (slot T)).toArray := by
 apply Array.ext
 ·simp [h]
 ·intro i h1 h2
  simp [slot, Array.getD, h1]
structure Fr (n : Nat) (a : Act) (l : List (Nat × Value)) : Prop where
 size : a.tmps.size = n
 defers : a.defers = []
 known : ∀ p, p ∈ l → slot a.tmps p.1 = p.2
theorem Fr.act {n : Nat} {a : Act} {l : List (Nat × Value)} (h : Fr n a l) : a = ⟨((List.range n).map (slot a.tmps)).toArray, []⟩ := by
 obtain ⟨T, d⟩ := a
 have h1 := h.size; have h2 := h.defers
 simp only at h1 h2
 rw [← frame_lit T n h1, h2]
theorem keepI {L : Nat → Bool} {j k : Nat} {p : Prop} (h : L j = true → p) (hk : (j == k) = false) : also L k j = true → p := fun e => h (by simpa [also, hk] using e)
theorem keepF {L : Nat → Bool} {j k : Nat} {p : Prop} (h : L j = false → p) : also L k j = false → p := fun e => h (by simp [also] at e; exact e.2)
theorem keepD {L : Nat → Bool} {j i k : Nat} (h : L j = true → L i = true) (hk : (j == k) = false) : also L k j = true → also L k i = true := fun e => by
 have := h (by simpa [also, hk] using e)
 simp [also, this]
theorem alsoD {L : Nat → Bool} {i k : Nat} (h : L i = true) : also L k i = true := by simp [also, h]
theorem noF {L : Nat → Bool} {s i : Nat} (h : L s = true → L i = true) (hi : L i = false) : L s = false := by
 cases hs : L s with
 | false => rfl
 | true => rw [h hs] at hi; cases hi
theorem alsoF {L : Nat → Bool} {k : Nat} {p : Prop} : also L k k = false → p := fun e => by simp [also] at e
theorem wp_region_frame {P : Program} {l : List Oper} {Q : Exit → Act → World → Prop} {id : Nat} {a : Act} {w : World} (hm : P.follows .mixedOrders = true) (hp : plainOps l = true)
 (I : Array Value → (Nat → Bool) → Act → World → Prop) (h : ∀ T0, T0 = a.tmps → I T0 (fun _ => false) a w.drew ∧ Steps P (I T0) Q 0 l ∧ ∀ L a w, (∀ i, i < l.length → L i = true) → I T0 L a w → Q .normal a w) : (Code.region id l.toArray true).wp P Q a w := by
 obtain ⟨h1, h2, h3⟩ := h _ rfl
 exact wp_region_steps hm hp (I a.tmps) h1 h2 h3
def sets (T : Array Value) : List (Nat × Value) → Array Value
 | [] => T
 | (i, v) :: l => sets (T.setIfInBounds i v) l
theorem sets_self : ∀ (l : List Nat) (T : Array Value), sets T (l.map fun s => (s, T.getD s undef)) = T
 | [], _ => rfl
 | s :: l, T => by
  have e : T.setIfInBounds s (T.getD s undef) = T := by
   by_cases hs : s < T.size
   ·apply Array.ext_getElem?
    intro i
    rw [Array.getElem?_setIfInBounds]
    by_cases h : s = i
    ·subst h
     rw [if_pos rfl, if_pos hs, Array.getElem?_eq_getElem hs]
     simp [Array.getD, hs]
    ·rw [if_neg h]
   ·unfold Array.setIfInBounds; rw [dif_neg hs]
  show sets (T.setIfInBounds s (T.getD s undef)) _ = T
  rw [e]; exact sets_self l T
theorem St.setRow {w W : World} {L : List (Nat × Obj)} (h : St w L W) {g : Nat} (hg : w.heap.size ≤ g) (hL : ∀ p, p ∈ L → p.1 ≠ g) (c : Array Value) : St w L (W.setRow g c) :=
 ⟨below_setRow h.below hg c, fun p hp => (setRow_other W g p.1 c (hL p hp)).trans (h.rows p hp)⟩
def Made (W : World) (T : TypeId) (n : Nat) (v : Value) (k : Bool) (z r : Array Value) : Prop := ∃ g, v = .pointer (some ⟨g, 0, none⟩) ∧ n ≤ g ∧ W.heap[g]? = some (.cells (if k then r else z) T (0, 0))
theorem Made.keep {W W' : World} {T : TypeId} {n : Nat} {v : Value} {k : Bool} {z r : Array Value} (h : Made W T n v k z r) (hb : Below W.heap.size W W') : Made W' T n v k z r := by
 obtain ⟨g, h1, h2, h3⟩ := h
 exact ⟨g, h1, h2, keepH hb h3⟩
theorem Made.alloc {W : World} {T : TypeId} {n : Nat} {v : Value} {k : Bool} {z r : Array Value} (h : Made W T n v k z r) (o : Obj) : Made (W.alloc o) T n v k z r := h.keep ((Below.refl _ _).alloc (Nat.le_refl _) _)
theorem Made.new (W : World) (T : TypeId) (n : Nat) (hn : n ≤ W.heap.size) (z r : Array Value) : Made (W.alloc (.cells z T)) T n (.pointer (some ⟨W.heap.size, 0, none⟩)) false z r :=
 ⟨_, rfl, hn, lastH _ _ _ rfl⟩
theorem Made.new' (W : World) (T : TypeId) (n : Nat) (hn : n ≤ W.heap.size) (z r : Array Value) {k : Bool} (hk : k = false) : Made (W.alloc (.cells z T)) T n (.pointer (some ⟨W.heap.size, 0, none⟩)) k z r := by
 subst hk; exact Made.new W T n hn z r
theorem Made.ne {W : World} {T : TypeId} {n : Nat} {v : Value} {k : Bool} {z r : Array Value} (h : Made W T n v k z r) : v ≠ .pointer (some ⟨W.heap.size, 0, none⟩) := by
 obtain ⟨g, rfl, h2, h3⟩ := h
 have := lt_of_block h3
 intro e
 injection e with e; injection e with e; injection e with e
 omega
theorem Made.other {W : World} {T : TypeId} {n g : Nat} {v : Value} {k : Bool} {z r : Array Value} (h : Made W T n v k z r) (hne : v ≠ .pointer (some ⟨g, 0, none⟩)) (c : Array Value) : Made (W.setRow g c) T n v k z r := by
 obtain ⟨g', rfl, h2, h3⟩ := h
 exact ⟨g', rfl, h2, (setRow_other W g g' c (fun e => hne (by rw [e]))).trans h3⟩
theorem Made.below {W : World} {T : TypeId} {n g : Nat} {v : Value} {k : Bool} {z r : Array Value} (h : Made W T n v k z r) (hg : g < n) (c : Array Value) : Made (W.setRow g c) T n v k z r :=
 h.other (by
  obtain ⟨g', rfl, h2, -⟩ := h
  intro e; injection e with e; injection e with e; injection e with e; omega) c
theorem Made.stored {W : World} {T : TypeId} {n g : Nat} {cs : Array Value} (h : W.heap[g]? = some (.cells cs T (0, 0))) (hn : n ≤ g) (z r : Array Value) : Made (W.setRow g r) T n (.pointer (some ⟨g, 0, none⟩)) true z r :=
 ⟨g, rfl, hn, setRow_heap W g cs _ _ _ h⟩
theorem part_of_row {W : World} {g o : Nat} {cs : Array Value} {t : TypeId} {fr : Nat × Nat} (h : W.heap[g]? = some (.cells cs t fr)) (l : List Value) (hl : (cs.toList.drop o).take l.length = l) : W.rangeAt g o l := fun j v hv => by
 rw [cell_of_row _ _ _ _ _ _ h]
 have hj : j < l.length := (List.getElem?_eq_some_iff.1 hv).1
 rw [← hl, List.getElem?_take, if_pos hj, List.getElem?_drop] at hv
 simpa using hv
theorem wp_wide {o : Oper} {a : Act} {W : World} {K : Act → World → Prop} {Q : Exit → Act → World → Prop} (x : Operand) (ho : o.op = .load 87 x)
 (g : Nat) (hx : a.eval x = .pointer (some ⟨g, 0, none⟩)) (z : Nat) (hg : W.heap[g]? = some (wrow z)) (h : K (a.put o.dst (wv z)) W) : o.wp Tryz.prog a W K Q :=
 wp_load_row 87 x ho g hx 87 (limbs4 z) (0, 0) _ hg Tryz.underlying87 rfl (by kernel_rfl) h
theorem wp_put {o : Oper} {a : Act} {W : World} {K : Act → World → Prop} {Q : Exit → Act → World → Prop} (x y : Operand) (ho : o.op = .store 87 x y)
 (g : Nat) (hx : a.eval x = .pointer (some ⟨g, 0, none⟩)) (z y0 : Nat) (hy : a.eval y = wv z) (hg : W.heap[g]? = some (wrow y0)) (h : K (a.put o.dst undef) (W.setRow g (limbs4 z))) : o.wp Tryz.prog a W K Q :=
 wp_store_row 87 x y ho g (limbs4 z) hx hy 87 (limbs4 y0) hg (by kernel_rfl) rfl (limbs4_one z) h
theorem wpList_put {ops : Array Oper} {rest : List Oper} {o : Oper} {a : Act} {W : World} {Q : Exit → Act → World → Prop} (hgd : o.guard = none) (x y : Operand) (ho : o.op = .store 87 x y)
 (g : Nat) (hx : a.eval x = .pointer (some ⟨g, 0, none⟩)) (z y0 : Nat) (hy : a.eval y = wv z) (hg : W.heap[g]? = some (wrow y0)) (h : wpList Tryz.prog ops Q rest (a.put o.dst undef) (W.setRow g (limbs4 z))) : wpList Tryz.prog ops Q (o :: rest) a W :=
 wpList_store_row hgd 87 x y ho g (limbs4 z) hx hy 87 (limbs4 y0) hg (by kernel_rfl) rfl (limbs4_one z) h
theorem set_row {W : World} {g z y0 : Nat} (hg : W.heap[g]? = some (wrow y0)) : (W.setRow g (limbs4 z)).heap[g]? = some (wrow z) := setRow_heap W g _ _ _ _ hg
def Stable (p : Value → World → Prop) : Prop := ∀ v W W', Below W.heap.size W W' → p v W → p v W'
def relOps (n : Nat) (ops : List Oper) : Bool :=
 ((List.range ops.length).all fun i => match ops[i]? with
  | some o => o.after.all (fun e => !Region.binds .any e || decide (e.on < i)) && (match o.dst with | some d => decide (d < n) && (List.range i).all (fun j => match ops[j]? with | some o' => o'.dst != some d | none => true) | none => true)
  | none => true)
structure RelInv (ops : List Oper) (T0 : Array Value) (Rs : List (Value → World → Prop)) (J : World → Prop) (L : Nat → Bool) (a : Act) (W : World) : Prop where
 defers : a.defers = []
 size : a.tmps.size = T0.size
 st : J W
 done : ∀ (i : Nat) (o : Oper) (d : Tmp), ops[i]? = some o → L i = true → o.dst = some d → (Rs.getD i (fun _ _ => True)) (slot a.tmps d) W
 rest : ∀ s, (∀ (i : Nat) (o : Oper), ops[i]? = some o → o.dst = some s → L i = false) → slot a.tmps s = slot T0 s
 shut : ∀ (i : Nat) (o : Oper), ops[i]? = some o → L i = true → ∀ e ∈ o.after, Region.binds .any e = true → L e.on = true
def RelStep (P : Program) (ops : List Oper) (T0 : Array Value) (Rs : List (Value → World → Prop)) (J : World → Prop) (Q : Exit → Act → World → Prop) (i : Nat) (o : Oper) : Prop :=
 ∀ (T : Array Value) (W : World), T.size = T0.size → J W →
  (∀ j d, (∃ e ∈ o.after, Region.binds .any e = true ∧ e.on = j) → (ops[j]?.bind (·.dst)) = some d → (Rs.getD j (fun _ _ => True)) (slot T d) W) →
  (∀ s, (∀ (j : Nat) (o' : Oper), ops[j]? = some o' → o'.dst = some s → i = j ∨ ∃ e ∈ o'.after, Region.binds .any e = true ∧ e.on = i) → slot T s = slot T0 s) →
  ∀ K : Act → World → Prop, (∀ v W', (Rs.getD i (fun _ _ => True)) v W' → J W' → Below W.heap.size W W' → K ((⟨T, []⟩ : Act).put o.dst v) W') →
   if Region.wanted o (yielded ops.toArray T) = true then Oper.wp P o ⟨T, []⟩ W K Q else K ((⟨T, []⟩ : Act).put o.dst undef) W
def RelSteps (P : Program) (ops : List Oper) (T0 : Array Value) (Rs : List (Value → World → Prop)) (J : World → Prop) (Q : Exit → Act → World → Prop) : Nat → List Oper → Prop
 | _, [] => True
 | i, o :: rest => RelStep P ops T0 Rs J Q i o ∧ RelSteps P ops T0 Rs J Q (i + 1) rest
theorem RelSteps.at_ {P : Program} {ops : List Oper} {T0 : Array Value} {Rs : List (Value → World → Prop)} {J : World → Prop} {Q : Exit → Act → World → Prop} : ∀ {l : List Oper} {i : Nat}, RelSteps P ops T0 Rs J Q i l → ∀ (j : Nat) (o : Oper), l[j]? = some o → RelStep P ops T0 Rs J Q (i + j) o
 | [], _, _, j, o, h => by simp at h
 | x :: l, i, hs, 0, o, h => by simp at h; subst h; exact hs.1
 | x :: l, i, hs, j + 1, o, h => by
  have := RelSteps.at_ hs.2 j o (by simpa using h)
  rwa [show i + 1 + j = i + (j + 1) by omega] at this
theorem slot_set (T : Array Value) (d s : Nat) (v : Value) (h : d < T.size) : slot (T.setIfInBounds d v) s = if d = s then v else slot T s := by
 simp only [slot, Array.getD_eq_getD_getElem?, Array.getElem?_setIfInBounds]
 by_cases e : d = s
 ·subst e; simp [h]
 ·simp [e]
theorem slot_get (T : Array Value) (i : Nat) : slot T i = T[i]?.getD undef := by simp [slot, Array.getD_eq_getD_getElem?]
theorem all_nil : ∀ p, p ∈ ([] : List (Value → World → Prop)) → Stable p := fun _ h => by cases h
theorem all_cons {p : Value → World → Prop} {l : List (Value → World → Prop)} (h : Stable p) (hl : ∀ q, q ∈ l → Stable q) : ∀ q, q ∈ p :: l → Stable q := fun q hq => by
 rcases List.mem_cons.1 hq with rfl | hq
 ·exact h
 ·exact hl q hq
theorem wanted_none {o : Oper} (h : o.guard = none) (y : Nat → Option Bool) : Region.wanted o y = true := by simp [Region.wanted, h]
def rgo (n : Nat) : Code → Option Code
 | .region i ops d => if i = n then some (.region i ops d) else none
 | .seq a b => match rgo n a with
  | some c => some c
  | none => rgo n b
 | .block _ c => rgo n c
 | .loop c => rgo n c
 | .scope c => rgo n c
 | .cond _ a b => match rgo n a with
  | some c => some c
  | none => rgo n b
 | _ => none
noncomputable def rgn (f : Func) (n : Nat) : Code := (f.body.bind (rgo n)).getD .skip
theorem Fr.ev {N : Nat} {T : Array Value} {l : List (Nat × Value)} (h : Fr N ⟨T, []⟩ l) (i : Nat) {k : Nat} {v : Value} (hi : l[i]? = some (k, v)) : T[k]?.getD undef = v := by
 have := h.known (k, v) (List.mem_of_getElem? hi)
 rwa [slot_get] at this
theorem Fr.op {N : Nat} {T : Array Value} {l : List (Nat × Value)} (h : Fr N ⟨T, []⟩ l) (i : Nat) {k : Nat} {v : Value} (hi : l[i]? = some (k, v)) : (⟨T, []⟩ : Act).eval (.tmp k) = v := h.known (k, v) (List.mem_of_getElem? hi)
theorem Fr.put {N : Nat} {T : Array Value} {l : List (Nat × Value)} (h : Fr N ⟨T, []⟩ l) (d : Nat) (v : Value) (hd : d < N) (hl : (l.all fun p => p.1 != d) = true) : Fr N ⟨T.setIfInBounds d v, []⟩ ((d, v) :: l) :=
 ⟨by simpa using h.size, rfl, fun p hp => by
  rcases List.mem_cons.1 hp with rfl | hp
  ·show slot (T.setIfInBounds d v) d = v
   rw [slot_set _ _ _ _ (by have := h.size; simp only at this; omega), if_pos rfl]
  ·have h1 := List.all_eq_true.1 hl p hp
   show slot (T.setIfInBounds d v) p.1 = p.2
   rw [slot_set _ _ _ _ (by have := h.size; simp only at this; omega), if_neg (by simpa using Ne.symm (bne_iff_ne.1 h1))]
   exact h.known p hp⟩
theorem Fr.pick {N : Nat} {a : Act} {l : List (Nat × Value)} (h : Fr N a l) (is : List Nat) : Fr N a (is.filterMap fun i => l[i]?) :=
 ⟨h.size, h.defers, fun p hp => by
  obtain ⟨i, -, hi⟩ := List.mem_filterMap.1 hp
  exact h.known p (List.mem_of_getElem? hi)⟩
theorem Fr.nil {N : Nat} {T : Array Value} (h : T.size = N) : Fr N ⟨T, []⟩ [] := ⟨h, rfl, fun _ h => by cases h⟩
theorem Fr.cons {N : Nat} {T : Array Value} {l : List (Nat × Value)} (h : Fr N ⟨T, []⟩ l) {k : Nat} {v : Value} (hs : slot T k = v) : Fr N ⟨T, []⟩ ((k, v) :: l) :=
 ⟨h.size, h.defers, fun p hp => by
  rcases List.mem_cons.1 hp with rfl | hp
  ·exact hs
  ·exact h.known p hp⟩
theorem Fr.old {N : Nat} {T0 T : Array Value} {l : List (Nat × Value)} (h : Fr N ⟨T0, []⟩ l) (hT : T.size = N) {ds : List Nat} (hs : ∀ s, s ∉ ds → slot T s = slot T0 s) (hl : (l.all fun p => !ds.contains p.1) = true) : Fr N ⟨T, []⟩ l :=
 ⟨hT, rfl, fun p hp => by
  have h1 := List.all_eq_true.1 hl p hp
  exact (hs p.1 (by simpa using h1)).trans (h.known p hp)⟩
structure Xt where
 ex : Bool
 foot : Nat → Prop
 holds : World → Prop
 stays : ∀ W W', (∀ b, foot b → b < W.heap.size → W'.heap[b]? = W.heap[b]?) → W.heap.size ≤ W'.heap.size → holds W → holds W'
structure Sx (w : World) (L : List (Nat × Obj)) (X : List Xt) (W : World) : Prop where
 below : Below w.heap.size w W
 rows : ∀ p, p ∈ L → W.heap[p.1]? = some p.2
 apart : L.Pairwise (fun p q => p.1 ≠ q.1)
 ext : ∀ q, q ∈ X → q.holds W
 sep : ∀ p, p ∈ L → ∀ q, q ∈ X → ¬ q.foot p.1
 bound : ∀ q, q ∈ X → ∀ b, q.foot b → b < W.heap.size
 excl : X.Pairwise (fun p q => (p.ex || q.ex) = true → ∀ b, p.foot b → ¬ q.foot b)
variable {w W W' : World} {L : List (Nat × Obj)} {X : List Xt} {Q : Exit → Act → World → Prop} {v : Value} {sg : List Nat → List Nat → Bool} {ds : List Nat} {T : Array Value} {P : Program} {F : List (Nat × Value)} {K : Act → World → Prop} {vs : Array Value} {fid : FuncId} {A : Option Addr} {f : Func} {g : Nat}
theorem Sx.nil (w : World) : Sx w [] [] w := ⟨Below.refl _ _, fun _ h => (by cases h), List.Pairwise.nil, fun _ h => (by cases h), fun _ h => (by cases h), fun _ h => (by cases h), List.Pairwise.nil⟩
theorem Sx.at (h : Sx w L X W) (i : Nat) {o : Obj} (hi : L[i]? = some (g, o)) : W.heap[g]? = some o := h.rows _ (List.mem_of_getElem? hi)
theorem Sx.x (h : Sx w L X W) (i : Nat) {q : Xt} (hi : X[i]? = some q) : q.holds W := h.ext _ (List.mem_of_getElem? hi)
theorem Sx.cell (h : Sx w L X W) (i : Nat) {g o : Nat} {cs : Array Value} {t : TypeId} {fr : Nat × Nat} (hi : L[i]? = some (g, .cells cs t fr)) (hc : cs[o]? = some v) : W.cell? ⟨g, o, none⟩ = some v := (cell_of_row _ _ _ _ _ _ (h.at i hi)).trans hc
theorem Sx.free (h : Sx w L X W) (i : Nat) {cs : Array Value} {t : TypeId} (hi : L[i]? = some (ro g cs t)) (o : Nat) : W.frozen? ⟨g, o, none⟩ = false := frozen_of_row W g o _ _ (h.at i hi)
theorem Sx.keep (h : Sx w L X W) (hb : Below W.heap.size W W') : Sx w L X W' :=
 ⟨below_step h.below hb, fun p hp => (hb.block _ (lt_of_block (h.rows p hp))).trans (h.rows p hp), h.apart, fun q hq => q.stays W W' (fun b _ hlt => hb.block b hlt) hb.size (h.ext q hq), h.sep, fun q hq b hbq => Nat.lt_of_lt_of_le (h.bound q hq b hbq) hb.size, h.excl⟩
theorem Sx.drew (h : Sx w L X W) : Sx w L X W.drew := h.keep ((Below.refl _ _).drew)
def picks {α : Type} (l : List α) (is : List Nat) : List α := is.filterMap fun i => l[i]?
theorem picks_mem {α : Type} {l : List α} {is : List Nat} {x : α} (h : x ∈ picks l is) : x ∈ l := by
 obtain ⟨i, -, hi⟩ := List.mem_filterMap.1 h
 exact List.mem_of_getElem? hi
def incr : List Nat → Bool
 | a :: b :: l => decide (a < b) && incr (b :: l)
 | _ => true
theorem picks_pair {α : Type} {R : α → α → Prop} {l : List α} (h : l.Pairwise R) : ∀ (is : List Nat), incr is = true → (picks l is).Pairwise R ∧ ∀ a, (∀ i, i ∈ is → a < i) → ∀ p, l[a]? = some p → ∀ q, q ∈ picks l is → R p q
 | [], _ => ⟨List.Pairwise.nil, fun _ _ _ _ _ h => by cases h⟩
 | i :: is, hi => by
  have hi2 : incr is = true ∧ ∀ j, j ∈ is → i < j := by
   clear h
   induction is generalizing i with
   | nil => exact ⟨rfl, fun _ h => by cases h⟩
   | cons b is ih =>
    simp only [incr, Bool.and_eq_true, decide_eq_true_eq] at hi
    refine ⟨hi.2, fun j hj => ?_⟩
    rcases List.mem_cons.1 hj with rfl | hj
    ·exact hi.1
    ·exact Nat.lt_trans hi.1 ((ih b hi.2).2 j hj)
  obtain ⟨h1, h2⟩ := picks_pair h is hi2.1
  have e : picks l (i :: is) = match l[i]? with | some x => x :: picks l is | none => picks l is := by
   unfold picks; rw [List.filterMap_cons]; cases l[i]? <;> rfl
  rw [e]
  cases hx : l[i]? with
  | none => exact ⟨h1, fun a ha p hp q hq => h2 a (fun j hj => ha j (List.mem_cons_of_mem _ hj)) p hp q hq⟩
  | some x =>
   refine ⟨List.Pairwise.cons (fun q hq => h2 i hi2.2 x hx q hq) h1, fun a ha p hp q hq => ?_⟩
   rcases List.mem_cons.1 hq with rfl | hq
   ·have hai := ha i (List.mem_cons_self ..)
    obtain ⟨ha1, rfl⟩ := List.getElem?_eq_some_iff.1 hp
    obtain ⟨hi1, rfl⟩ := List.getElem?_eq_some_iff.1 hx
    exact List.pairwise_iff_getElem.1 h a i ha1 hi1 hai
   ·exact h2 a (fun j hj => ha j (List.mem_cons_of_mem _ hj)) p hp q hq
theorem Sx.pick (h : Sx w L X W) (is js : List Nat) (hi : incr is = true) (hj : incr js = true) : Sx w (picks L is) (picks X js) W :=
 ⟨h.below, fun p hp => h.rows p (picks_mem hp), (picks_pair h.apart is hi).1, fun q hq => h.ext q (picks_mem hq), fun p hp q hq => h.sep p (picks_mem hp) q (picks_mem hq), fun q hq => h.bound q (picks_mem hq), (picks_pair h.excl js hj).1⟩
theorem Sx.fresh (h : Sx w L X W) (hg : W.heap.size ≤ g) : ∀ p, p ∈ L → g ≠ p.1 := fun p hp => by have := lt_of_block (h.rows p hp); omega
theorem Sx.made (h : Sx w L X W) (hb : Below W.heap.size W W') {o : Obj} (hg : W'.heap[g]? = some o) (hge : W.heap.size ≤ g) : Sx w ((g, o) :: L) X W' :=
 have k := h.keep hb
 ⟨k.below, fun p hp => by
  rcases List.mem_cons.1 hp with rfl | hp
  ·exact hg
  ·exact k.rows p hp, List.Pairwise.cons (fun p hp => h.fresh hge p hp) k.apart, k.ext, fun p hp q hq => by
  rcases List.mem_cons.1 hp with rfl | hp
  ·exact fun hf => Nat.lt_irrefl _ (Nat.lt_of_lt_of_le (h.bound q hq _ hf) hge)
  ·exact k.sep p hp q hq, k.bound, k.excl⟩
theorem Sx.alloc (h : Sx w L X W) (o : Obj) : Sx w ((W.heap.size, o) :: L) X (W.alloc o) :=
 h.made ((Below.refl _ _).alloc (Nat.le_refl _) o) (lastH W o _ rfl) (Nat.le_refl _)
theorem Sx.alloc0 (h : Sx w L X W) (o : Obj) : Sx w L X (W.alloc o) := h.keep ((Below.refl _ _).alloc (Nat.le_refl _) o)
theorem Sx.addX (h : Sx w L X W) (q : Xt) (hq : q.holds W) (hs : ∀ p, p ∈ L → ¬ q.foot p.1) (hbd : ∀ b, q.foot b → b < W.heap.size) (hx : ∀ r, r ∈ X → (q.ex || r.ex) = true → ∀ b, q.foot b → ¬ r.foot b) : Sx w L (q :: X) W :=
 ⟨h.below, h.rows, h.apart, fun r hr => by
  rcases List.mem_cons.1 hr with rfl | hr
  ·exact hq
  ·exact h.ext r hr, fun p hp r hr => by
  rcases List.mem_cons.1 hr with rfl | hr
  ·exact hs p hp
  ·exact h.sep p hp r hr, fun r hr => by
  rcases List.mem_cons.1 hr with rfl | hr
  ·exact hbd
  ·exact h.bound r hr, List.Pairwise.cons hx h.excl⟩
theorem Sx.madeX (h : Sx w L X W) (hb : Below W.heap.size W W') (q : Xt) (hq : q.holds W') (hge : ∀ b, q.foot b → W.heap.size ≤ b) (hbd : ∀ b, q.foot b → b < W'.heap.size) : Sx w L (q :: X) W' :=
 (h.keep hb).addX q hq (fun p hp hf => by have h1 := lt_of_block (h.rows p hp); have h2 := hge _ hf; omega) hbd (fun r hr _ b h1 h2 => by have h3 := h.bound r hr b h2; have h4 := hge b h1; omega)
theorem Sx.write (h : Sx w L X W) (i : Nat) {o : Obj} (hi : L[i]? = some (g, o)) (o' : Obj)
 (hb : Below w.heap.size w W') (hs : W.heap.size ≤ W'.heap.size) (hold : ∀ b, b ≠ g → b < W.heap.size → W'.heap[b]? = W.heap[b]?) (hnew : W'.heap[g]? = some o') : Sx w (L.set i (g, o')) X W' := by
 have hlen : i < L.length := (List.getElem?_eq_some_iff.1 hi).1
 have e2 : L[i] = (g, o) := (List.getElem?_eq_some_iff.1 hi).2
 have hne : ∀ (j : Nat) (p : Nat × Obj), L[j]? = some p → j ≠ i → p.1 ≠ g := by
  intro j p hj hji
  have hjl : j < L.length := (List.getElem?_eq_some_iff.1 hj).1
  have e1 : L[j] = p := (List.getElem?_eq_some_iff.1 hj).2
  rcases Nat.lt_or_gt_of_ne hji with hlt | hgt
  ·have := List.pairwise_iff_getElem.1 h.apart j i hjl hlen hlt
   rw [e1, e2] at this; exact this
  ·have := List.pairwise_iff_getElem.1 h.apart i j hlen hjl hgt
   rw [e1, e2] at this; exact fun e => this e.symm
 have hmem : ∀ p, p ∈ L.set i (g, o') → p = (g, o') ∨ (p ∈ L ∧ p.1 ≠ g) := by
  intro p hp
  obtain ⟨j, hj⟩ := List.getElem?_of_mem hp
  rw [List.getElem?_set] at hj
  by_cases hij : i = j
  ·subst hij
   rw [if_pos rfl, if_pos hlen] at hj
   cases hj; exact Or.inl rfl
  ·rw [if_neg hij] at hj
   exact Or.inr ⟨List.mem_of_getElem? hj, hne j p hj (Ne.symm hij)⟩
 have hgm : (g, o) ∈ L := List.mem_of_getElem? hi
 refine ⟨hb, fun p hp => ?_, ?_, fun q hq => q.stays W W' (fun b hb2 hlt => hold b (fun e => h.sep _ hgm q hq (by rw [← e]; exact hb2)) hlt) hs (h.ext q hq), fun p hp q hq => ?_, fun q hq b hbq => Nat.lt_of_lt_of_le (h.bound q hq b hbq) hs, h.excl⟩
 ·rcases hmem p hp with rfl | ⟨h1, h2⟩
  ·exact hnew
  ·exact (hold _ h2 (lt_of_block (h.rows p h1))).trans (h.rows p h1)
 ·rw [List.pairwise_iff_getElem]
  intro a b ha hb2 hab
  have hal : a < L.length := by simpa using ha
  have hbl : b < L.length := by simpa using hb2
  have hp := List.pairwise_iff_getElem.1 h.apart a b hal hbl hab
  rw [List.getElem_set, List.getElem_set]
  by_cases e1 : i = a
  ·subst e1
   rw [if_pos rfl, if_neg (by omega)]
   rw [e2] at hp; exact hp
  ·rw [if_neg e1]
   by_cases e3 : i = b
   ·subst e3
    rw [if_pos rfl]; rw [e2] at hp; exact hp
   ·rw [if_neg e3]; exact hp
 ·rcases hmem p hp with rfl | ⟨h1, h2⟩
  ·exact h.sep _ hgm q hq
  ·exact h.sep p h1 q hq
theorem Sx.setCell (h : Sx w L X W) (i : Nat) {cs : Array Value} {t : TypeId} (hi : L[i]? = some (ro g cs t)) (hg : w.heap.size ≤ g) (o : Nat) (v : Value) :
 Sx w (L.set i (ro g (cs.setIfInBounds o v) t)) X (W.setCell ⟨g, o, none⟩ v) :=
 h.write i hi _ (h.below.setCell hg v) (Below.setCell (Below.refl 0 W) (p := ⟨g, o, none⟩) (Nat.zero_le _) v).size (fun b hb _ => heap_setCell_other W ⟨g, o, none⟩ b v hb) (heap_setCell_same W g o cs t v (h.at i hi))
theorem Sx.setRow (h : Sx w L X W) (i : Nat) {cs : Array Value} {t : TypeId} (hi : L[i]? = some (ro g cs t)) (hg : w.heap.size ≤ g) (c : Array Value) :
 Sx w (L.set i (ro g c t)) X (W.setRow g c) :=
 h.write i hi _ (below_setRow h.below hg c) (by simp [World.setRow]) (fun b hb _ => setRow_other W g b c hb) (setRow_heap W g cs c t (0, 0) (h.at i hi))
def xrow (g : Nat) (o : Obj) : Xt := ⟨false, fun b => b = g, fun W => W.heap[g]? = some o, fun _ _ hk _ h => (hk g rfl (lt_of_block h)).trans h⟩
theorem Sx.dup (h : Sx w L X W) (i : Nat) {q : Xt} (hi : X[i]? = some q) (hex : q.ex = false) (q' : Xt) (hex' : q'.ex = false) (hf : ∀ b, q'.foot b → q.foot b) (hq' : q'.holds W) : Sx w L (q' :: X) W := by
 have hlen : i < X.length := (List.getElem?_eq_some_iff.1 hi).1
 have e2 : X[i] = q := (List.getElem?_eq_some_iff.1 hi).2
 have hqm : q ∈ X := List.mem_of_getElem? hi
 refine h.addX q' hq' (fun p hp hb => h.sep p hp q hqm (hf _ hb)) (fun b hb => h.bound q hqm b (hf b hb)) (fun r hr hrx b hb hrb => ?_)
 rw [hex', Bool.false_or] at hrx
 obtain ⟨j, hj⟩ := List.getElem?_of_mem hr
 have hjl : j < X.length := (List.getElem?_eq_some_iff.1 hj).1
 have e1 : X[j] = r := (List.getElem?_eq_some_iff.1 hj).2
 rcases Nat.lt_trichotomy i j with hlt | heq | hgt
 ·have := List.pairwise_iff_getElem.1 h.excl i j hlen hjl hlt
  rw [e1, e2] at this; exact this (by rw [hrx]; simp) b (hf b hb) hrb
 ·subst heq; rw [e2] at e1; subst e1; rw [hex] at hrx; cases hrx
 ·have := List.pairwise_iff_getElem.1 h.excl j i hjl hlen hgt
  rw [e1, e2] at this; exact this (by rw [hrx]; rfl) b hrb (hf b hb)
theorem Sx.writeX (h : Sx w L X W) (i : Nat) {q q' : Xt} (hi : X[i]? = some q) (hex : q.ex = true) (hex' : q'.ex = true) (hq' : q'.holds W') (hf : ∀ b, q'.foot b → q.foot b ∨ W.heap.size ≤ b) (hbd' : ∀ b, q'.foot b → b < W'.heap.size)
 (hlow : ∀ b, q.foot b → w.heap.size ≤ b) (hos : W'.os = W.os) (htape : W'.tape = W.tape) (hout : W'.output = W.output) (hs : W.heap.size ≤ W'.heap.size) (hold : ∀ b, b < W.heap.size → ¬ q.foot b → W'.heap[b]? = W.heap[b]?) : Sx w L (X.set i q') W' := by
 have hlen : i < X.length := (List.getElem?_eq_some_iff.1 hi).1
 have e2 : X[i] = q := (List.getElem?_eq_some_iff.1 hi).2
 have hqm : q ∈ X := List.mem_of_getElem? hi
 have hmem : ∀ p, p ∈ X.set i q' → p = q' ∨ (p ∈ X ∧ ∀ b, q.foot b → ¬ p.foot b) := by
  intro p hp
  obtain ⟨j, hj⟩ := List.getElem?_of_mem hp
  rw [List.getElem?_set] at hj
  by_cases hij : i = j
  ·subst hij
   rw [if_pos rfl, if_pos hlen] at hj
   cases hj; exact Or.inl rfl
  ·rw [if_neg hij] at hj
   have hjl : j < X.length := (List.getElem?_eq_some_iff.1 hj).1
   have e1 : X[j] = p := (List.getElem?_eq_some_iff.1 hj).2
   refine Or.inr ⟨List.mem_of_getElem? hj, fun b hqb hpb => ?_⟩
   rcases Nat.lt_or_gt_of_ne hij with hlt | hgt
   ·have := List.pairwise_iff_getElem.1 h.excl i j hlen hjl hlt
    rw [e1, e2] at this; exact this (by rw [hex]; rfl) b hqb hpb
   ·have := List.pairwise_iff_getElem.1 h.excl j i hjl hlen hgt
    rw [e1, e2] at this; exact this (by rw [hex]; simp) b hpb hqb
 refine ⟨h.below.trans ⟨hos, htape, hout, hs, fun b hb => hold b (Nat.lt_of_lt_of_le hb h.below.size) (fun e => by have := hlow b e; omega)⟩, fun p hp => ?_, h.apart, fun p hp => ?_, fun p hp r hr => ?_, fun r hr b hb => ?_, ?_⟩
 ·exact (hold _ (lt_of_block (h.rows p hp)) (h.sep p hp q hqm)).trans (h.rows p hp)
 ·rcases hmem p hp with rfl | ⟨h1, h2⟩
  ·exact hq'
  ·exact p.stays W W' (fun b hb hlt => hold b hlt (fun e => h2 b e hb)) hs (h.ext p h1)
 ·rcases hmem r hr with rfl | ⟨h1, h2⟩
  ·intro e
   rcases hf _ e with h3 | h3
   ·exact h.sep p hp q hqm h3
   ·have := lt_of_block (h.rows p hp); omega
  ·exact h.sep p hp r h1
 ·rcases hmem r hr with rfl | ⟨h1, h2⟩
  ·exact hbd' b hb
  ·exact Nat.lt_of_lt_of_le (h.bound r h1 b hb) hs
 ·have hnew : ∀ r, r ∈ X → (∀ b, q.foot b → ¬ r.foot b) → ∀ b, q'.foot b → ¬ r.foot b := fun r hr h2 b hb hrb => by
   rcases hf b hb with h3 | h3
   ·exact h2 b h3 hrb
   ·have := h.bound r hr b hrb; omega
  rw [List.pairwise_iff_getElem]
  intro a b ha hb2 hab
  have hal : a < X.length := by simpa using ha
  have hbl : b < X.length := by simpa using hb2
  have hp := List.pairwise_iff_getElem.1 h.excl a b hal hbl hab
  rw [List.getElem_set, List.getElem_set]
  by_cases e1 : i = a
  ·subst e1
   rw [if_pos rfl, if_neg (by omega)]
   rw [e2] at hp
   exact fun _ => hnew _ (List.getElem_mem hbl) (hp (by rw [hex]; rfl))
  ·rw [if_neg e1]
   by_cases e3 : i = b
   ·subst e3
    rw [if_pos rfl]
    rw [e2] at hp
    exact fun _ c hc hc' => hnew _ (List.getElem_mem hal) (fun c h1 h2 => hp (by rw [hex]; simp) c h2 h1) c hc' hc
   ·rw [if_neg e3]; exact hp
section steps
variable {P : Program} {ops : Array Oper} {rest : List Oper} {Q : Exit → Act → World → Prop} {o : Oper} {N : Nat} {T : Array Value} {W : World} {l : List (Nat × Value)}
theorem so_step (hF : Fr N ⟨T, []⟩ l) {d : Nat} (hd : o.dst = some d) (hw : Region.wanted o (yielded ops T) = true) (hdN : d < N) (hl : (l.all fun p => p.1 != d) = true) (R : Value → World → Prop)
 (hop : ∀ K : Act → World → Prop, Hid (∀ v W', R v W' → K ((⟨T, []⟩ : Act).put o.dst v) W') → o.wp P ⟨T, []⟩ W K Q)
 (k : ∀ v T' W', R v W' → Fr N ⟨T', []⟩ ((d, v) :: l) → wpList P ops Q rest ⟨T', []⟩ W') : wpList P ops Q (o :: rest) ⟨T, []⟩ W :=
 wpList_step fun K hK => by
  rw [if_pos hw]
  refine hop K (fun v W' hR => ?_)
  rw [hd]
  exact hK _ _ (k v _ W' hR (hF.put d v hdN hl))
theorem so_pure (hF : Fr N ⟨T, []⟩ l) {d : Nat} (hd : o.dst = some d) (hw : Region.wanted o (yielded ops T) = true) (hdN : d < N) (hl : (l.all fun p => p.1 != d) = true) (v : Value)
 (hop : ∀ K : Act → World → Prop, Hid (K ((⟨T, []⟩ : Act).put o.dst v) W) → o.wp P ⟨T, []⟩ W K Q)
 (k : ∀ T', Fr N ⟨T', []⟩ ((d, v) :: l) → wpList P ops Q rest ⟨T', []⟩ W) : wpList P ops Q (o :: rest) ⟨T, []⟩ W :=
 so_step hF hd hw hdN hl (fun v' W' => v = v' ∧ W = W') (fun K hK => hop K (hK.out _ _ ⟨rfl, rfl⟩)) (fun v' T' W' h hF' => by obtain ⟨rfl, rfl⟩ := h; exact k T' hF')
end steps
structure RelInvL (ops : List Oper) (T0 : Array Value) (Rs : List (Value → World → Prop)) (J : (Nat → Bool) → World → Prop) (L : Nat → Bool) (a : Act) (W : World) : Prop where
 defers : a.defers = []
 size : a.tmps.size = T0.size
 st : J L W
 done : ∀ (i : Nat) (o : Oper) (d : Tmp), ops[i]? = some o → L i = true → o.dst = some d → (Rs.getD i (fun _ _ => True)) (slot a.tmps d) W
 rest : ∀ s, (∀ (i : Nat) (o : Oper), ops[i]? = some o → o.dst = some s → L i = false) → slot a.tmps s = slot T0 s
 shut : ∀ (i : Nat) (o : Oper), ops[i]? = some o → L i = true → ∀ e ∈ o.after, Region.binds .any e = true → L e.on = true
def Stay (Rs : List (Value → World → Prop)) (W W' : World) : Prop := ∀ p, p ∈ Rs → ∀ v, p v W → p v W'
def RelStepL (P : Program) (ops : List Oper) (T0 : Array Value) (Rs : List (Value → World → Prop)) (J : (Nat → Bool) → World → Prop) (Q : Exit → Act → World → Prop) (i : Nat) (o : Oper) : Prop :=
 ∀ (L : Nat → Bool) (T : Array Value) (W : World), T.size = T0.size → J L W → L i = false → (∀ j, (∃ e ∈ o.after, Region.binds .any e = true ∧ e.on = j) → L j = true) →
  (∀ j d, (∃ e ∈ o.after, Region.binds .any e = true ∧ e.on = j) → (ops[j]?.bind (·.dst)) = some d → (Rs.getD j (fun _ _ => True)) (slot T d) W) →
  (∀ s, (∀ (j : Nat) (o' : Oper), ops[j]? = some o' → o'.dst = some s → i = j ∨ ∃ e ∈ o'.after, Region.binds .any e = true ∧ e.on = i) → slot T s = slot T0 s) →
  ∀ K : Act → World → Prop, (∀ v W', (Rs.getD i (fun _ _ => True)) v W' → J (also L i) W' → Stay Rs W W' → K ((⟨T, []⟩ : Act).put o.dst v) W') →
   if Region.wanted o (yielded ops.toArray T) = true then Oper.wp P o ⟨T, []⟩ W K Q else K ((⟨T, []⟩ : Act).put o.dst undef) W
def RelStepsL (P : Program) (ops : List Oper) (T0 : Array Value) (Rs : List (Value → World → Prop)) (J : (Nat → Bool) → World → Prop) (Q : Exit → Act → World → Prop) : Nat → List Oper → Prop
 | _, [] => True
 | i, o :: rest => RelStepL P ops T0 Rs J Q i o ∧ RelStepsL P ops T0 Rs J Q (i + 1) rest
theorem RelStepsL.at_ {ops : List Oper} {T0 : Array Value} {Rs : List (Value → World → Prop)} {J : (Nat → Bool) → World → Prop} : ∀ {l : List Oper} {i : Nat}, RelStepsL P ops T0 Rs J Q i l → ∀ (j : Nat) (o : Oper), l[j]? = some o → RelStepL P ops T0 Rs J Q (i + j) o
 | [], _, _, j, o, h => by simp at h
 | x :: l, i, hs, 0, o, h => by simp at h; subst h; exact hs.1
 | x :: l, i, hs, j + 1, o, h => by
  have := RelStepsL.at_ hs.2 j o (by simpa using h)
  rwa [show i + 1 + j = i + (j + 1) by omega] at this
section ints
variable {P : Program} {o : Oper} {a : Act} {W : World} {K : Act → World → Prop} {Q : Exit → Act → World → Prop} {t ty : TypeId} {x y : Operand} {k k' : IntKind} {m n : Int}
theorem wp_move (ho : o.op = .move x) (hx : a.eval x = v) (hk : Hid (K (a.put o.dst v) W)) : o.wp P a W K Q := by
 unfold Oper.wp execOp
 simp only [ho, hx]
 exact hk.out
theorem wp_assign (ho : o.op = .assign x) (hx : a.eval x = v) (hk : Hid (K (a.put o.dst v) W)) : o.wp P a W K Q := by
 unfold Oper.wp execOp
 simp only [ho, hx]
 exact hk.out
theorem wp_ld {g of : Nat} {d : TypeDesc} (ho : o.op = .load t x) (hx : a.eval x = .pointer (some ⟨g, of, none⟩)) (hu : P.underlying t = some d) (hd : (match d with | .struct _ | .array _ _ => false | _ => true) = true) (hc : W.cell? ⟨g, of, none⟩ = some v) (hk : Hid (K (a.put o.dst v) W)) : o.wp P a W K Q := by
 have e : (loadVar t ⟨g, of, none⟩).run P W = .ok v W := by
  unfold loadVar isAgg
  cases d <;> simp [run_underlying hu, hc] at hd ⊢
 unfold Oper.wp execOp
 simp [ho, hx, Instr.loadAt, Instr.sureAddr, e]
 exact hk.out
theorem bytes_eq (s u : ByteArray) : (s.toList == u.toList) = decide (s = u) := by
 rw [Bool.eq_iff_iff]; simp [ByteArray.toList_eq]
 exact ⟨fun h => ByteArray.ext h, fun h => by rw [h]⟩
def callable (fn : Func) : Bool := !(fn.name == "runtime.NumGoroutine") && fn.body.isSome
theorem wp_call {f : FuncId} {fn : Func} {xs : Array Operand} {tys : Array TypeId} (ho : o.op = .call { callee := .value (.func f), args := xs, argTypes := tys }) (hf : P.funcs[f]? = some fn) (hc : callable fn = true) (hv : xs.map a.eval = vs)
 (h : Calls P f vs W (fun e w' => ∃ v, e = .returned v ∧ K (a.put o.dst v) w')) : o.wp P a W K Q := by
 simp only [callable, Bool.and_eq_true, Bool.not_eq_true', Option.isSome_iff_exists] at hc
 obtain ⟨h1, c, h2⟩ := hc
 unfold Oper.wp execOp
 have e : (do let d ← resolve a.eval { callee := .value (.func f), args := xs, argTypes := tys } o.type; invoke d.target d.args : Sem Next).run P W = .ok (.enter f vs) W := by
  have h1' : ¬ fn.name = "runtime.NumGoroutine" := by simpa using h1
  simp [resolve, Act.eval, Deferred.ofValue, invoke, callFunc, hf, h1', h2, hv]
 simp only [ho]
 rw [e]
 exact h.mono (fun e w' ⟨v, he, hk⟩ => by subst he; exact hk)
end ints
section ways
variable {P : Program} {Q : Exit → Act → World → Prop} {a : Act} {w : World} {K : Act → World → Prop} {id : Nat}
theorem then_normal (h : K a w) : Exit.then K Q .normal a w := h
theorem then_ret (h : Q .ret a w) : Exit.then K Q .ret a w := h
theorem enter {f : FuncId} {fn : Func} {c : Code} {args : Array Value} {R : Ending → World → Prop} (N : Nat) (l : List (Nat × Value)) (hf : P.funcs[f]? = some fn) (hb : fn.body = some c)
 (hN : args.size + (fn.ntmps - args.size) = N) (hl : (l.map fun p => args[p.1]?) = l.map fun p => some p.2)
 {L : List (Nat × Obj)} {X : List Xt} (hS : Sx w L X w) (h : ∀ T W, Fr N ⟨T, []⟩ l → Sx w L X W → c.wp P (bodyPost P fn R) ⟨T, []⟩ W) : Calls P f args w R :=
 calls_of_wp hf hb (h _ w ⟨by simpa using hN, rfl, fun p hp => by
  have h1 := List.map_inj_left.1 hl p hp
  have hlt : p.1 < args.size := (Array.getElem?_eq_some_iff.1 h1).1
  simp only [slot, Array.getD_eq_getD_getElem?]
  rw [Array.getElem?_append_left hlt, h1]; rfl⟩ hS)
theorem results_t1 {fn : Func} {p : Nat} (h : fn.results = #[.tmp p]) (hp : T[p]?.getD undef = v) : (results fn T).run P w = .ok v w := by
 simp [results, h, hp]
end ways
section short
variable {P : Program} {ops : Array Oper} {rest : List Oper} {Q : Exit → Act → World → Prop} {o : Oper} {N : Nat} {T : Array Value} {W : World} {l : List (Nat × Value)}
theorem so_p (hF : Fr N ⟨T, []⟩ l) {d : Nat} (v : Value) (hop : ∀ K : Act → World → Prop, Hid (K ((⟨T, []⟩ : Act).put o.dst v) W) → o.wp P ⟨T, []⟩ W K Q)
 (k : ∀ T', Fr N ⟨T', []⟩ ((d, v) :: l) → wpList P ops Q rest ⟨T', []⟩ W) (hw : Region.wanted o (yielded ops T) = true := by exact wanted_none rfl _)
 (hd : o.dst = some d := by rfl) (hdN : d < N := by decide) (hl : (l.all fun p => p.1 != d) = true := by rfl) : wpList P ops Q (o :: rest) ⟨T, []⟩ W := so_pure hF hd hw hdN hl v hop k
theorem so_mv (hF : Fr N ⟨T, []⟩ l) (i : Nat) {s d : Nat} (k : ∀ T', Fr N ⟨T', []⟩ ((d, v) :: l) → wpList P ops Q rest ⟨T', []⟩ W) (hw : Region.wanted o (yielded ops T) = true := by exact wanted_none rfl _)
 (ho : o.op = .move (.tmp s) := by rfl) (hi : l[i]? = some (s, v) := by rfl) (hd : o.dst = some d := by rfl) (hdN : d < N := by decide) (hl : (l.all fun p => p.1 != d) = true := by rfl) : wpList P ops Q (o :: rest) ⟨T, []⟩ W :=
 so_pure hF hd hw hdN hl v (fun _ hK => wp_move ho (hF.op i hi) hK) k
theorem so_as (hF : Fr N ⟨T, []⟩ l) (i : Nat) {s d : Nat} (k : ∀ T', Fr N ⟨T', []⟩ ((d, v) :: l) → wpList P ops Q rest ⟨T', []⟩ W) (hw : Region.wanted o (yielded ops T) = true := by exact wanted_none rfl _)
 (ho : o.op = .assign (.tmp s) := by rfl) (hi : l[i]? = some (s, v) := by rfl) (hd : o.dst = some d := by rfl) (hdN : d < N := by decide) (hl : (l.all fun p => p.1 != d) = true := by rfl) : wpList P ops Q (o :: rest) ⟨T, []⟩ W :=
 so_pure hF hd hw hdN hl v (fun _ hK => wp_assign ho (hF.op i hi) hK) k
variable {lo : List Oper} {T0 : Array Value} {Rs : List (Value → World → Prop)} {J : (Nat → Bool) → World → Prop} {i : Nat}
end short
def look : List (Nat × Value) → Nat → Option Value
 | [], _ => none
 | (a, v) :: F, k => bif Nat.beq a k then some v else look F k
def opd (F : List (Nat × Value)) (T : Array Value) : Operand → Value
 | .tmp k => match look F k with
  | some v => v
  | none => T.getD k undef
 | .const v => v
 | .global g => .pointer (some ⟨g, 0, none⟩)
 | .func f => .func (.func f) #[] #[]
structure Fq (N : Nat) (T : Array Value) (F : List (Nat × Value)) : Prop where
 size : T.size = N
 known : ∀ k v, look F k = some v → T.getD k undef = v
theorem opd_eq {N : Nat} (h : Fq N T F) : (⟨T, []⟩ : Act).eval = opd F T := by
 funext x
 cases x with
 | tmp k =>
  show T.getD k undef = _
  simp only [opd]
  cases e : look F k with
  | none => rfl
  | some v => exact h.known k v e
 | const v => rfl
 | global g => rfl
 | func f => rfl
def symR {α : Type} (P : Program) (cs : Array Value) (ty : TypeId) : Sem α → Option (α × List Nat)
 | .pure a => some (a, [])
 | .program k => symR P cs ty (k P)
 | .mark _ k => symR P cs ty k
 | .load _ a k => match a.spot, cs[a.off]? with
  | none, some v => (symR P cs ty (k v)).map fun p => (p.1, a.block :: p.2)
  | _, _ => none
 | .shape r k => (symR P cs ty (k (some (ty, cs.size)))).map fun p => (p.1, r :: p.2)
 | _ => none
theorem symR_run {α : Type} {cs : Array Value} {ty : TypeId} {fr : Nat × Nat} {s : Sem α} : ∀ {x : α} {l : List Nat}, symR P cs ty s = some (x, l) → (∀ b, b ∈ l → b = g) → (l = [] ∨ W.heap[g]? = some (.cells cs ty fr)) → s.run P W = .ok x W := by
 induction s with
 | pure a => intro x l h _ _; simp [symR] at h; rw [h.1]; rfl
 | program k ih => intro x l h h1 h2; exact ih P h h1 h2
 | mark m k ih => intro x l h h1 h2; exact ih h h1 h2
 | load m a k ih =>
  intro x l h h1 h2
  simp only [symR] at h
  split at h
  ·rename_i v e1 e2
   cases e3 : symR P cs ty (k v) with
   | none => rw [e3] at h; cases h
   | some p =>
    rw [e3] at h
    simp only [Option.map_some, Option.some.injEq, Prod.mk.injEq] at h
    obtain ⟨rfl, rfl⟩ := h
    have hg := h1 a.block (List.mem_cons_self ..)
    have hr : W.heap[g]? = some (.cells cs ty fr) := h2.resolve_left (by simp)
    have hc : W.cell? a = some v := by
     unfold World.cell?; rw [hg, hr]; simp [e1, e2]
    show Sem.run P (.load m a k) W = _
    simp only [Sem.run, hc]
    exact ih v e3 (fun b hb => h1 b (List.mem_cons_of_mem _ hb)) (Or.inr hr)
  ·cases h
 | shape r k ih =>
  intro x l h h1 h2
  simp only [symR] at h
  cases e3 : symR P cs ty (k (some (ty, cs.size))) with
  | none => rw [e3] at h; cases h
  | some p =>
   rw [e3] at h
   simp only [Option.map_some, Option.some.injEq, Prod.mk.injEq] at h
   obtain ⟨rfl, rfl⟩ := h
   have hg := h1 r (List.mem_cons_self ..)
   have hr : W.heap[g]? = some (.cells cs ty fr) := h2.resolve_left (by simp)
   have hc : W.shape? r = some (ty, cs.size) := by unfold World.shape?; rw [hg, hr]
   show Sem.run P (.shape r k) W = _
   simp only [Sem.run, hc]
   exact ih _ e3 (fun b hb => h1 b (List.mem_cons_of_mem _ hb)) (Or.inr hr)
 | store m a v k ih => intro x l h; cases v <;> cases h
 | _ => intro x l h; cases h
def plainV : Value → Bool
 | .agg _ | .tuple _ => false
 | _ => true
def symW {α : Type} (P : Program) (ty : TypeId) : Sem α → Array Value → Option (α × Array Value × List Nat)
 | .pure a, cs => some (a, cs, [])
 | .program k, cs => symW P ty (k P) cs
 | .mark _ k, cs => symW P ty k cs
 | .load _ a k, cs => match a.spot, cs[a.off]? with
  | none, some v => (symW P ty (k v) cs).map fun p => (p.1, p.2.1, a.block :: p.2.2)
  | _, _ => none
 | .shape r k, cs => (symW P ty (k (some (ty, cs.size))) cs).map fun p => (p.1, p.2.1, r :: p.2.2)
 | .store _ a v k, cs => match a.spot, cs[a.off]?, plainV v with
  | none, some _, true => (symW P ty k (cs.setIfInBounds a.off v)).map fun p => (p.1, p.2.1, a.block :: p.2.2)
  | _, _, _ => none
 | _, _ => none
structure OnlyAt (g : Nat) (W W' : World) : Prop where
 os : W'.os = W.os
 tape : W'.tape = W.tape
 output : W'.output = W.output
 size : W'.heap.size = W.heap.size
 other : ∀ b, b ≠ g → W'.heap[b]? = W.heap[b]?
theorem OnlyAt.refl (g : Nat) (W : World) : OnlyAt g W W := ⟨rfl, rfl, rfl, rfl, fun _ _ => rfl⟩
theorem OnlyAt.trans {W W1 W2 : World} (h : OnlyAt g W W1) (k : OnlyAt g W1 W2) : OnlyAt g W W2 :=
 ⟨k.os.trans h.os, k.tape.trans h.tape, k.output.trans h.output, k.size.trans h.size, fun b hb => (k.other b hb).trans (h.other b hb)⟩
theorem OnlyAt.setCell (g o : Nat) (W : World) (v : Value) : OnlyAt g W (W.setCell ⟨g, o, none⟩ v) :=
 ⟨rfl, rfl, rfl, by simp [World.setCell], fun b hb => heap_setCell_other W ⟨g, o, none⟩ b v hb⟩
theorem symW_run {α : Type} {ty : TypeId} {s : Sem α} : ∀ {W : World} {cs cs' : Array Value} {x : α} {l : List Nat}, symW P ty s cs = some (x, cs', l) → (∀ b, b ∈ l → b = g) → W.heap[g]? = some (.cells cs ty (0, 0)) → ∃ W', s.run P W = .ok x W' ∧ OnlyAt g W W' ∧ W'.heap[g]? = some (.cells cs' ty (0, 0)) := by
 induction s with
 | pure a => intro W cs cs' x l h _ hr; simp [symW] at h; obtain ⟨rfl, rfl, -⟩ := h; exact ⟨W, rfl, .refl _ _, hr⟩
 | program k ih => intro W cs cs' x l h h1 hr; exact ih P (by simpa [symW] using h) h1 hr
 | mark m k ih => intro W cs cs' x l h h1 hr; exact ih (by simpa [symW] using h) h1 hr
 | load m a k ih =>
  intro W cs cs' x l h h1 hr
  simp only [symW] at h
  split at h
  ·rename_i v e1 e2
   cases e3 : symW P ty (k v) cs with
   | none => rw [e3] at h; cases h
   | some p =>
    rw [e3] at h
    simp only [Option.map_some, Option.some.injEq, Prod.mk.injEq] at h
    obtain ⟨rfl, rfl, rfl⟩ := h
    have hg := h1 a.block (List.mem_cons_self ..)
    have hc : W.cell? a = some v := by
     unfold World.cell?; rw [hg, hr]; simp [e1, e2]
    simp only [Sem.run, hc]
    exact ih v e3 (fun b hb => h1 b (List.mem_cons_of_mem _ hb)) hr
  ·cases h
 | shape r k ih =>
  intro W cs cs' x l h h1 hr
  simp only [symW] at h
  cases e3 : symW P ty (k (some (ty, cs.size))) cs with
  | none => rw [e3] at h; cases h
  | some p =>
   rw [e3] at h
   simp only [Option.map_some, Option.some.injEq, Prod.mk.injEq] at h
   obtain ⟨rfl, rfl, rfl⟩ := h
   have hg := h1 r (List.mem_cons_self ..)
   have hc : W.shape? r = some (ty, cs.size) := by unfold World.shape?; rw [hg, hr]
   simp only [Sem.run, hc]
   exact ih _ e3 (fun b hb => h1 b (List.mem_cons_of_mem _ hb)) hr
 | store m a v k ih =>
  intro W cs cs' x l h h1 hr
  simp only [symW] at h
  split at h
  ·rename_i u e1 e2 hp
   cases e3 : symW P ty k (cs.setIfInBounds a.off v) with
   | none => rw [e3] at h; cases h
   | some p =>
    rw [e3] at h
    simp only [Option.map_some, Option.some.injEq, Prod.mk.injEq] at h
    obtain ⟨rfl, rfl, rfl⟩ := h
    have hg := h1 a.block (List.mem_cons_self ..)
    obtain ⟨ab, ao, asp⟩ := a
    simp only at hg e1 e2 e3
    subst hg; subst e1
    have hc : W.cell? ⟨ab, ao, none⟩ = some u := (cell_of_row _ _ _ _ _ _ hr).trans e2
    have hz : W.frozen? ⟨ab, ao, none⟩ = false := frozen_of_row W ab ao _ _ hr
    obtain ⟨W', r1, r2, r3⟩ := ih (W := W.setCell ⟨ab, ao, none⟩ v) e3 (fun b hb => h1 b (List.mem_cons_of_mem _ hb)) (heap_setCell_same W ab ao cs ty v hr)
    refine ⟨W', ?_, (OnlyAt.setCell ab ao W v).trans r2, r3⟩
    rw [← r1]
    cases v <;> first | (simp only [Sem.run, hc, hz]; rfl) | cases hp
  ·cases h
 | _ => intro W cs cs' x l h; simp [symW] at h
def symN {α : Type} (P : Program) (n : Nat) : Sem α → Option (α × Obj)
 | .program k => symN P n (k P)
 | .mark _ k => symN P n k
 | .new o k => match symR P #[] 0 (k n) with
  | some (x, []) => some (x, o)
  | _ => none
 | _ => none
theorem symN_run {α : Type} {s : Sem α} : ∀ {x : α} {o : Obj}, symN P W.heap.size s = some (x, o) → s.run P W = .ok x (W.alloc o) := by
 induction s with
 | program k ih => intro x o h; exact ih P h
 | mark m k ih => intro x o h; exact ih h
 | new o' k ih =>
  intro x o h
  simp only [symN] at h
  split at h
  ·rename_i x' e
   cases h
   exact symR_run (W := W.alloc o') (g := 0) (fr := (0, 0)) e (fun _ h => by cases h) (Or.inl rfl)
  ·cases h
 | store m a v k ih => intro x o h; cases v <;> cases h
 | _ => intro x o h; cases h
noncomputable def rops (f : Func) (r : Nat) : List Oper := match rgn f r with
 | .region _ ops _ => ops.toList
 | _ => []
noncomputable def rdrawn (f : Func) (r : Nat) : Option Bool := match rgn f r with
 | .region _ _ d => some d
 | _ => none
def wpSeq (P : Program) (l : List Oper) (Q : Exit → Act → World → Prop) : List Oper → Act → World → Prop
 | [], a, w => Q .normal a w
 | o :: rest, a, w => if Region.wanted o (yielded l.toArray a.tmps) = true then o.wp P a w (wpSeq P l Q rest) Q else wpSeq P l Q rest (a.put o.dst undef) w
theorem wpSeq_list {l : List Oper} : ∀ {rest : List Oper} {a : Act} {w : World}, wpSeq P l Q rest a w → wpList P l.toArray Q rest a w
 | [], _, _, h => h
 | o :: rest, a, w, h => by
  unfold wpSeq at h
  unfold wpList
  split
  ·rename_i hw; rw [if_pos hw] at h
   exact .inl (Oper.wp_mono (fun _ _ h => wpSeq_list h) h)
  ·rename_i hw; rw [if_neg hw] at h
   exact wpSeq_list h
theorem wpSeq_step {l : List Oper} {rest : List Oper} {o : Oper} {a : Act}
 (h : ∀ K : Act → World → Prop, (∀ a w, wpSeq P l Q rest a w → K a w) → if Region.wanted o (yielded l.toArray a.tmps) = true then o.wp P a w K Q else K (a.put o.dst undef) w) : wpSeq P l Q (o :: rest) a w := by
 have := h _ (fun _ _ h => h)
 unfold wpSeq
 split
 ·rename_i hw; rw [if_pos hw] at this; exact this
 ·rename_i hw; rw [if_neg hw] at this; exact this
theorem rgn_plain {r : Nat} {a : Act} (hd : rdrawn f r = some false) (h : wpSeq P (rops f r) Q (rops f r) a W) : (rgn f r).wp P Q a W := by
 unfold rdrawn at hd; unfold rops at h
 split at hd
 ·rename_i e
  simp only [Option.some.injEq] at hd; subst hd
  rw [e] at h ⊢
  exact wp_region_lit (wpSeq_list (by simpa using h))
 ·cases hd
def wantF (F : List (Nat × Value)) (l : List Oper) (o : Oper) : Option Bool := match o.guard with
 | none => some true
 | some (j, b) => match (l[j]?).bind (·.dst) with
  | none => some false
  | some d => match look F d with
   | none => none
   | some (.bool c) => some (c == b)
   | some _ => some false
theorem wantF_ok {N : Nat} (hF : Fq N T F) {l : List Oper} {o : Oper} {b : Bool} (h : wantF F l o = some b) (hN : ∀ o', o' ∈ l → ∀ d, o'.dst = some d → d < N) : Region.wanted o (yielded l.toArray T) = b := by
 unfold wantF at h
 unfold Region.wanted
 split at h
 ·simp_all
 ·rename_i j w e
  rw [e]
  simp only
  unfold yielded
  rw [List.getElem?_toArray]
  split at h
  ·rename_i e2; rw [e2]; simp at h; subst h; rfl
  ·rename_i d e2
   rw [e2]
   have hd : d < T.size := by
    cases e3 : l[j]? with
    | none => rw [e3] at e2; cases e2
    | some o' => rw [e3] at e2; rw [hF.size]; exact hN o' (List.mem_of_getElem? e3) d e2
   simp only [Option.bind_some]
   split at h
   ·cases h
   ·rename_i c e4
    have := hF.known _ _ e4
    rw [Array.getD_eq_getD_getElem?, Array.getElem?_eq_getElem hd, Option.getD_some] at this
    rw [Array.getElem?_eq_getElem hd, this]
    simp at h; subst h
    cases c <;> cases w <;> rfl
   ·rename_i v hv e4
    have := hF.known _ _ e4
    rw [Array.getD_eq_getD_getElem?, Array.getElem?_eq_getElem hd, Option.getD_some] at this
    rw [Array.getElem?_eq_getElem hd, this]
    simp at h; subst h
    cases v <;> first | rfl | exact absurd rfl (hv _)
def eqB (P : Program) : Nat → TypeId → Value → Value → Option Bool
 | 0, _, _, _ => none
 | d + 1, t, x, y => match P.underlying t, x, y with
  | some .bool, .bool a, .bool b => some (a == b)
  | some (.int _), .int k a, .int k' b => if k = k' then some (a == b) else none
  | some .string, .string a, .string b => some (a == b)
  | some (.struct _), .agg xs, .agg ys => match P.stoodInHeld t with
   | true => none
   | false => (P.fieldsOf t).toList.foldr (fun f acc => match acc, symR P #[] 0 (part f.type xs f.offset), symR P #[] 0 (part f.type ys f.offset), f.name == "_" with
    | some r, some (a, []), some (b, []), false => (eqB P d f.type a b).map fun q => (q && r)
    | _, _, _, _ => none) (some true)
  | some (.array n e), .agg xs, .agg ys => match P.info? e with
   | none => none
   | some _ => (List.range n).foldr (fun i acc => match acc, symR P #[] 0 (part e xs (i * P.cellsOf e)), symR P #[] 0 (part e ys (i * P.cellsOf e)) with
    | some r, some (a, []), some (b, []) => (eqB P d e a b).map fun q => (q && r)
    | _, _, _ => none) (some true)
  | _, _, _ => none
theorem sym0_run {α : Type} {s : Sem α} {x : α} (h : symR P #[] 0 s = some (x, [])) : s.run P W = .ok x W := symR_run (fr := (0, 0)) (g := 0) h (fun _ h => by cases h) (Or.inl rfl)
theorem underlying_struct {t : TypeId} {fs : Array Field} (h : P.underlying t = some (.struct fs)) : P.underlying t = some (.struct (P.fieldsOf t)) := by
 unfold Program.fieldsOf; rw [h]
theorem eqB_run : ∀ {d : Nat} {t : TypeId} {x y : Value} {b : Bool}, eqB P d t x y = some b → (Op.equalIn d t x y).run P W = .ok b W
 | 0, _, _, _, _, h => by cases h
 | d + 1, t, x, y, b, h => by
  unfold eqB at h
  split at h
  ·rename_i hu
   cases h
   simp only [Op.equalIn, Sem.run_bind, run_underlying hu, Result.andThen_ok]; rfl
  ·rename_i k a k' b' hu
   split at h
   ·rename_i hk
    cases h
    simp only [Op.equalIn, Sem.run_bind, run_underlying hu, Result.andThen_ok, hk, if_true]; rfl
   ·cases h
  ·rename_i a b' hu
   cases h
   simp only [Op.equalIn, Sem.run_bind, run_underlying hu, Result.andThen_ok]
   rw [beq_toListBytes]; rfl
  ·rename_i xs ys hu
   split at h
   ·cases h
   ·rename_i hst
    rw [run_equalIn_struct W d t xs ys (underlying_struct hu) hst]
    generalize (P.fieldsOf t).toList = fs at h
    clear hu hst
    induction fs generalizing b with
    | nil => cases h; rfl
    | cons f fs ih =>
     simp only [List.foldr_cons] at h
     split at h
     ·rename_i r a b1 e1 e2 e3 e4
      cases e5 : eqB P d f.type a b1 with
      | none => rw [e5] at h; cases h
      | some q =>
       rw [e5] at h
       cases h
       have hn : f.name ≠ "_" := by simpa using e4
       simp only [Op.eqFields, hn, ne_eq, not_false_eq_true, if_true, Sem.run_bind, sym0_run e2, sym0_run e3, eqB_run e5, Result.andThen_ok]
       cases q with
       | false => rfl
       | true => simpa using ih _ e1
     ·cases h
  ·rename_i n e xs ys hu
   split at h
   ·cases h
   ·rename_i i hi
    rw [run_equalIn_array W d xs ys hu hi]
    generalize List.range n = is at h
    clear hu hi
    induction is generalizing b with
    | nil => cases h; rfl
    | cons j is ih =>
     simp only [List.foldr_cons] at h
     split at h
     ·rename_i r a b1 e1 e2 e3
      cases e5 : eqB P d e a b1 with
      | none => rw [e5] at h; cases h
      | some q =>
       rw [e5] at h
       cases h
       simp only [Op.eqItems, Sem.run_bind, sym0_run e2, sym0_run e3, eqB_run e5, Result.andThen_ok]
       cases q with
       | false => rfl
       | true => simpa using ih _ e1
     ·cases h
  ·cases h
def aggEq (P : Program) (ρ : Operand → Value) (o : Oper) : Option Value := match o.op with
 | .binOp op t x y _ => match ρ x, ρ y with
  | .agg xs, .agg ys => match P.eqGuardType P.depth t with
   | true => none
   | false => match op with
    | .eql => (eqB P 10000 t (.agg xs) (.agg ys)).map .bool
    | .neq => (eqB P 10000 t (.agg xs) (.agg ys)).map fun b => .bool (!b)
    | _ => none
  | _, _ => none
 | _ => none
theorem aggEq_run {ρ : Operand → Value} {o : Oper} (h : aggEq P ρ o = some v) : (execOp ρ o).run P W = .ok (.value v) W := by
 unfold aggEq at h
 split at h
 ·rename_i op t x y ty ho
  split at h
  ·rename_i xs ys hx hy
   split at h
   ·cases h
   ·rename_i hgd
    split at h
    ·cases e : eqB P 10000 t (.agg xs) (.agg ys) with
     | none => rw [e] at h; cases h
     | some b =>
      rw [e] at h; cases h
      have er : (Op.equal t (.agg xs) (.agg ys)).run P W = .ok b W := eqB_run e
      unfold execOp
      simp [ho, hx, hy, eqGuard, binOp, hgd, er]
    ·cases e : eqB P 10000 t (.agg xs) (.agg ys) with
     | none => rw [e] at h; cases h
     | some b =>
      rw [e] at h; cases h
      have er : (Op.equal t (.agg xs) (.agg ys)).run P W = .ok b W := eqB_run e
      unfold execOp
      simp [ho, hx, hy, eqGuard, binOp, hgd, er]
    ·cases h
  ·cases h
 ·cases h
def gAt (L : List (Nat × Obj)) (j : Nat) : Nat := match L[j]? with
 | some (g, _) => g
 | _ => 0
def oneR (P : Program) (ρ : Operand → Value) (L : List (Nat × Obj)) (j : Nat) (o : Oper) : Option (Value × List Nat) :=
 match L[j]? with
 | some (_, .cells cs ty _) => match symR P cs ty (execOp ρ o) with
  | some (.value v, l) => some (v, l)
  | _ => none
 | _ => match symR P #[] 0 (execOp ρ o) with
  | some (.value v, []) => some (v, [])
  | _ => none
def oneV (P : Program) (F : List (Nat × Value)) (T : Array Value) (L : List (Nat × Obj)) (j : Nat) (o : Oper) : Option (Value × List Nat) :=
 match aggEq P (opd F T) o with
 | some v => some (v, [])
 | none => oneR P (opd F T) L j o
theorem oneR_run {ρ : Operand → Value} {j : Nat} {o : Oper} {bl : List Nat} (hS : Sx w L X W) (h : oneR P ρ L j o = some (v, bl)) (hl : bl = bl.map fun _ => gAt L j) : (execOp ρ o).run P W = .ok (.value v) W := by
 have hb : ∀ b, b ∈ bl → b = gAt L j := fun b hb => by
  rw [hl] at hb
  obtain ⟨_, _, h⟩ := List.mem_map.1 hb
  exact h.symm
 unfold oneR at h
 unfold gAt at hb
 split at h
 ·rename_i g cs ty fr e2
  rw [e2] at hb
  split at h
  ·rename_i v' l' e
   cases h
   exact symR_run (fr := fr) e hb (Or.inr (hS.rows _ (List.mem_of_getElem? e2)))
  ·cases h
 ·split at h
  ·rename_i v' e
   cases h
   exact symR_run (fr := (0, 0)) (g := 0) e (fun b hb => by cases hb) (Or.inl rfl)
  ·cases h
def evs (P : Program) (L : List (Nat × Obj)) (l0 : List Oper) : Array Value → List (Nat × Value) → List Nat → List Oper → Option (List (Nat × Value) × List Nat × List Nat × List Nat)
 | _, F, _, [] => some (F, [], [], [])
 | T, F, hs, o :: os => match o.dst, wantF F l0 o with
  | some d, some false => (evs P L l0 (T.setIfInBounds d undef) ((d, undef) :: F) hs.tail os).map fun p => (p.1, d :: p.2.1, p.2.2)
  | some d, some true => match oneV P F T L (hs.headD 0) o with
   | some (v, l) => (evs P L l0 (T.setIfInBounds d v) ((d, v) :: F) hs.tail os).map fun p => (p.1, d :: p.2.1, l ++ p.2.2.1, l.map (fun _ => gAt L (hs.headD 0)) ++ p.2.2.2)
   | none => none
  | _, _ => none
theorem oneV_run {N : Nat} {j : Nat} {o : Oper} {l : List Nat} (hF : Fq N T F) (hS : Sx w L X W) (h : oneV P F T L j o = some (v, l)) (hl : l = l.map fun _ => gAt L j) :
 (execOp (⟨T, []⟩ : Act).eval o).run P W = .ok (.value v) W := by
 rw [opd_eq hF]
 unfold oneV at h
 split at h
 ·rename_i v' e
  cases h
  exact aggEq_run e
 ·exact oneR_run hS h hl
theorem Fq.put {N : Nat} (h : Fq N T F) (d : Nat) (v : Value) (hd : d < N) : Fq N (T.setIfInBounds d v) ((d, v) :: F) :=
 ⟨by simpa using h.size, fun k u hk => by
  have hd' : d < T.size := by rw [h.size]; exact hd
  simp only [look] at hk
  rw [Array.getD_eq_getD_getElem?, Array.getElem?_setIfInBounds]
  cases e : Nat.beq d k with
  | true =>
   rw [e] at hk
   have : d = k := Nat.eq_of_beq_eq_true e
   subst this
   simp at hk; subst hk
   simp [hd']
  | false =>
   rw [e] at hk
   have : d ≠ k := fun e2 => by subst e2; simp at e
   rw [if_neg this, ← Array.getD_eq_getD_getElem?]
   exact h.known k u hk⟩
def dstsOk (N : Nat) (l : List Oper) : Bool := l.all fun o => match o.dst with
 | some d => decide (d < N)
 | none => true
theorem dstsOk_lt {N : Nat} {l : List Oper} (h : dstsOk N l = true) : ∀ o, o ∈ l → ∀ d, o.dst = some d → d < N := fun o ho d hd => by
 have := List.all_eq_true.1 h o ho
 rw [hd] at this
 exact of_decide_eq_true this
theorem evs_run {N : Nat} {l0 : List Oper} (hS : Sx w L X W) (hN : ∀ o, o ∈ l0 → ∀ d, o.dst = some d → d < N) : ∀ {os rest : List Oper} {F F1 : List (Nat × Value)} {T : Array Value} {hs ds l g : List Nat},
 (∀ o, o ∈ os → o ∈ l0) → Fq N T F → evs P L l0 T F hs os = some (F1, ds, l, g) → l = g → (∀ T', (∀ k, k ∉ ds → T'.getD k undef = T.getD k undef) → Fq N T' F1 → wpSeq P l0 Q rest ⟨T', []⟩ W) → wpSeq P l0 Q (os ++ rest) ⟨T, []⟩ W
 | [], rest, F, F1, T, hs, ds, l, g, _, hF, h, _, k => by
  simp only [evs, Option.some.injEq, Prod.mk.injEq] at h
  obtain ⟨rfl, -⟩ := h
  exact k T (fun _ _ => rfl) hF
 | o :: os, rest, F, F1, T, hs, ds, l, g, hin, hF, h, hlg, k => by
  have hin' : ∀ o, o ∈ os → o ∈ l0 := fun x hx => hin x (List.mem_cons_of_mem _ hx)
  have other : ∀ (d : Nat) (v : Value) (ds2 : List Nat) (T' : Array Value), (∀ k, k ∉ ds2 → T'.getD k undef = (T.setIfInBounds d v).getD k undef) → ∀ k, k ∉ d :: ds2 → T'.getD k undef = T.getD k undef := by
   intro d v ds2 T' h k hk
   rw [h k (fun e => hk (List.mem_cons_of_mem _ e)), Array.getD_eq_getD_getElem?, Array.getElem?_setIfInBounds, if_neg (fun e => hk (by rw [e]; exact List.mem_cons_self ..)), ← Array.getD_eq_getD_getElem?]
  simp only [evs] at h
  refine wpSeq_step fun K hK => ?_
  split at h
  ·rename_i d e1 e2
   have hd := hN o (hin o (List.mem_cons_self ..)) d e1
   rw [if_neg (by rw [wantF_ok hF e2 hN]; decide), e1]
   cases e3 : evs P L l0 (T.setIfInBounds d undef) ((d, undef) :: F) hs.tail os with
   | none => rw [e3] at h; cases h
   | some p =>
    rw [e3] at h
    obtain ⟨p1, p2, p3, p4⟩ := p
    simp only [Option.map_some, Option.some.injEq, Prod.mk.injEq] at h
    obtain ⟨rfl, rfl, rfl, rfl⟩ := h
    refine hK _ _ (evs_run hS hN hin' (hF.put d undef hd) e3 hlg (fun T' h1 h2 => k T' (other d undef p2 T' h1) h2))
  ·rename_i d e1 e2
   have hd := hN o (hin o (List.mem_cons_self ..)) d e1
   rw [if_pos (wantF_ok hF e2 hN)]
   split at h
   ·rename_i v l1 e4
    cases e3 : evs P L l0 (T.setIfInBounds d v) ((d, v) :: F) hs.tail os with
    | none => rw [e3] at h; cases h
    | some p =>
     rw [e3] at h
     obtain ⟨p1, p2, p3, p4⟩ := p
     simp only [Option.map_some, Option.some.injEq, Prod.mk.injEq] at h
     obtain ⟨rfl, rfl, rfl, rfl⟩ := h
     obtain ⟨h1, h2⟩ := List.append_inj hlg (by simp)
     unfold Oper.wp
     rw [oneV_run hF hS e4 h1]
     show K ((⟨T, []⟩ : Act).put o.dst v) W
     rw [e1]
     exact hK _ _ (evs_run hS hN hin' (hF.put d v hd) e3 h2 (fun T' h1 h2 => k T' (other d v p2 T' h1) h2))
   ·cases h
  ·cases h
def At (P : Program) (f : Func) (r i : Nat) (Q : Exit → Act → World → Prop) (N : Nat) (F : List (Nat × Value)) (w : World) (L : List (Nat × Obj)) (X : List Xt) : Prop :=
 dstsOk N (rops f r) = true → ∀ T W, Fq N T F → Sx w L X W → wpSeq P (rops f r) Q ((rops f r).drop i) ⟨T, []⟩ W
def Cd (P : Program) (c : Code) (Q : Exit → Act → World → Prop) (N : Nat) (F : List (Nat × Value)) (w : World) (L : List (Nat × Obj)) (X : List Xt) : Prop :=
 ∀ T W, Fq N T F → Sx w L X W → c.wp P Q ⟨T, []⟩ W
section walk
variable {P : Program} {f : Func} {r i N : Nat} {Q : Exit → Act → World → Prop} {F : List (Nat × Value)} {w : World} {L : List (Nat × Obj)} {X : List Xt}
noncomputable def ev (P : Program) (f : Func) (r i n : Nat) (L : List (Nat × Obj)) (F : List (Nat × Value)) (hs : List Nat) (T : Array Value) := evs P L (rops f r) T F hs (((rops f r).drop i).take n)
def lone (F : List (Nat × Value)) (new : List (Nat × Value)) (ds : List Nat) : Bool := ds.all fun d => match look F d with
 | none => true
 | some _ => (look new d).isSome
noncomputable def runL (P : Program) (f : Func) (r i n : Nat) (L : List (Nat × Obj)) (F : List (Nat × Value)) (hs : List Nat) (new : List (Nat × Value)) (T : Array Value) : Option (List (Option Value) × List Nat × Bool) :=
 match ev P f r i n L F hs T with
 | some (F1, ds, l, _) => some (new.map (fun p => look F1 p.1), l, lone F new ds)
 | none => none
noncomputable def runR (P : Program) (f : Func) (r i n : Nat) (L : List (Nat × Obj)) (F : List (Nat × Value)) (hs : List Nat) (new : List (Nat × Value)) (T : Array Value) : Option (List (Option Value) × List Nat × Bool) :=
 match ev P f r i n L F hs T with
 | some (_, _, _, g) => some (new.map (fun p => some p.2), g, true)
 | none => some ([], [], true)
theorem look_app (A B : List (Nat × Value)) (k : Nat) : look (A ++ B) k = match look A k with | some v => some v | none => look B k := by
 induction A with
 | nil => rfl
 | cons p A ih =>
  obtain ⟨a, v⟩ := p
  simp only [List.cons_append, look]
  cases e : Nat.beq a k with
  | true => rfl
  | false => simpa using ih
theorem look_mem : ∀ (A : List (Nat × Value)) (k : Nat) (v : Value), look A k = some v → (k, v) ∈ A
 | [], _, _, h => by cases h
 | (a, u) :: A, k, v, h => by
  simp only [look] at h
  cases e : Nat.beq a k with
  | true =>
   rw [e] at h
   have : a = k := Nat.eq_of_beq_eq_true e
   subst this
   simp at h; subst h
   exact List.mem_cons_self ..
  | false => rw [e] at h; exact List.mem_cons_of_mem _ (look_mem A k v h)
theorem Fq.after {T T' : Array Value} {F1 new : List (Nat × Value)} (hF : Fq N T F) (hT : ∀ k, k ∉ ds → T'.getD k undef = T.getD k undef) (h1 : Fq N T' F1) (hn : new.map (fun p => look F1 p.1) = new.map (fun p => some p.2)) (hl : lone F new ds = true) : Fq N T' (new ++ F) :=
 ⟨h1.size, fun k v hk => by
  rw [look_app] at hk
  cases e : look new k with
  | some u =>
   rw [e] at hk
   simp only [Option.some.injEq] at hk
   subst hk
   exact h1.known k u (List.map_inj_left.1 hn _ (look_mem _ _ _ e))
  | none =>
   rw [e] at hk
   simp only at hk
   by_cases hd : k ∈ ds
   ·have := List.all_eq_true.1 hl k hd
    rw [hk, e] at this; cases this
   ·rw [hT k hd]; exact hF.known k v hk⟩
theorem ev_run {F1 : List (Nat × Value)} {ds l g : List Nat} {n : Nat} {hs : List Nat} (hN : dstsOk N (rops f r) = true) (hF : Fq N T F) (hS : Sx w L X W) (h : ev P f r i n L F hs T = some (F1, ds, l, g)) (hl : l = g)
 (k : ∀ T', (∀ k, k ∉ ds → T'.getD k undef = T.getD k undef) → Fq N T' F1 → wpSeq P (rops f r) Q ((rops f r).drop (i + n)) ⟨T', []⟩ W) : wpSeq P (rops f r) Q ((rops f r).drop i) ⟨T, []⟩ W := by
 rw [← List.take_append_drop n ((rops f r).drop i), List.drop_drop]
 exact evs_run hS (dstsOk_lt hN) (fun o ho => List.mem_of_mem_drop (List.mem_of_mem_take ho)) hF h hl k
theorem At.run (n : Nat) (hs : List Nat) (new : List (Nat × Value)) (k : At P f r (i + n) Q N (new ++ F) w L X)
 (hk : ∀ T, runL P f r i n L F hs new T = runR P f r i n L F hs new T := by intro T; kernel_rfl) : At P f r i Q N F w L X := by
 intro hN T W hF hS
 have h := hk T
 unfold runL runR at h
 cases e : ev P f r i n L F hs T with
 | none => rw [e] at h; cases h
 | some q =>
  obtain ⟨F1, ds, l, g⟩ := q
  rw [e] at h
  simp only [Option.some.injEq, Prod.mk.injEq] at h
  obtain ⟨h1, h2, h3⟩ := h
  exact ev_run hN hF hS e h2 (fun T' hT' h4 => k hN T' W (hF.after hT' h4 h1 h3) hS)
theorem At.ar (n : Nat) (hs : List Nat) (d : Nat) (v v' : Value) (hv : v = v') (k : At P f r (i + n) Q N ((d, v') :: F) w L X)
 (hk : ∀ T, runL P f r i n L F hs [(d, v)] T = runR P f r i n L F hs [(d, v)] T := by intro T; kernel_rfl) : At P f r i Q N F w L X := by
 subst hv
 exact At.run n hs [(d, v)] k hk
def callableF (P : Program) (f : FuncId) : Bool := match P.funcs[f]? with
 | some fn => callable fn
 | none => false
def callOf (ρ : Operand → Value) (o : Oper) : Option (FuncId × Array Value) := match o.op with
 | .call c => match c.callee with
  | .value (.func f) => some (f, c.args.map ρ)
  | _ => none
 | _ => none
noncomputable def opL (P : Program) (f : Func) (r i n : Nat) (L : List (Nat × Obj)) (F : List (Nat × Value)) (hs : List Nat) (T : Array Value) {β : Type} (b : List (Nat × Value) → Oper → Option β) : Option (β × List Nat × Bool × Option Bool) :=
 match ev P f r i n L F hs T, (rops f r)[i + n]? with
 | some (F1, ds, l, _), some o => match b F1 o with
  | some x => some (x, l, lone F [] ds, wantF F1 (rops f r) o)
  | none => none
 | _, _ => none
noncomputable def opE (P : Program) (f : Func) (r i n : Nat) (L : List (Nat × Obj)) (F : List (Nat × Value)) (hs : List Nat) (T : Array Value) {β : Type} (b : List (Nat × Value) → Oper → Option β) : Option (β × List Nat × Bool × Option Bool) :=
 match ev P f r i n L F hs T, (rops f r)[i + n]? with
 | some (F1, _, _, g), some o => match b F1 o with
  | some x => some (x, g, true, some true)
  | none => none
 | _, _ => none
noncomputable def opR (P : Program) (f : Func) (r i n : Nat) (L : List (Nat × Obj)) (F : List (Nat × Value)) (hs : List Nat) (T : Array Value) {β : Type} (x : β) : Option (β × List Nat × Bool × Option Bool) :=
 match ev P f r i n L F hs T with
 | some (_, _, _, g) => some (x, g, true, some true)
 | none => some (x, [], true, none)
theorem op_core {n : Nat} {hs : List Nat} (hN : dstsOk N (rops f r) = true) (hF : Fq N T F) (hS : Sx w L X W) {F1 : List (Nat × Value)} {ds l g : List Nat} {o : Oper} (e : ev P f r i n L F hs T = some (F1, ds, l, g)) (e2 : (rops f r)[i + n]? = some o) (hlg : l = g) (hl : lone F [] ds = true) (hw : wantF F1 (rops f r) o = some true)
 (k : ∀ T', Fq N T' F → Fq N T' F1 → Region.wanted o (yielded (rops f r).toArray T') = true → (∀ d, o.dst = some d → d < N) → wpSeq P (rops f r) Q (o :: (rops f r).drop (i + n + 1)) ⟨T', []⟩ W) : wpSeq P (rops f r) Q ((rops f r).drop i) ⟨T, []⟩ W := by
 refine ev_run hN hF hS e hlg (fun T' hT' h4 => ?_)
 have hd : (rops f r).drop (i + n) = o :: (rops f r).drop (i + n + 1) := by
  obtain ⟨h1, h2⟩ := List.getElem?_eq_some_iff.1 e2
  rw [List.drop_eq_getElem_cons h1, h2]
 rw [hd]
 exact k T' (hF.after (new := []) hT' h4 rfl hl) h4 (wantF_ok h4 hw (dstsOk_lt hN)) (fun d hd => dstsOk_lt hN o (List.mem_of_getElem? e2) d hd)
theorem op_run {β : Type} {b : Array Value → List (Nat × Value) → Oper → Option β} {x : β} {n : Nat} {hs : List Nat} (hN : dstsOk N (rops f r) = true) (hF : Fq N T F) (hS : Sx w L X W) (hk : ∀ T T', opL P f r i n L F hs T (b T') = opR P f r i n L F hs T x)
 (k : ∀ T' F1 o, Fq N T' F → Fq N T' F1 → b T' F1 o = some x → Region.wanted o (yielded (rops f r).toArray T') = true → (∀ d, o.dst = some d → d < N) → wpSeq P (rops f r) Q (o :: (rops f r).drop (i + n + 1)) ⟨T', []⟩ W) : wpSeq P (rops f r) Q ((rops f r).drop i) ⟨T, []⟩ W := by
 have h := fun T' => hk T T'
 unfold opL opR at h
 cases e : ev P f r i n L F hs T with
 | none => have := h #[]; rw [e] at this; cases e2 : (rops f r)[i + n]? <;> rw [e2] at this <;> cases this
 | some q =>
  obtain ⟨F1, ds, l, g⟩ := q
  rw [e] at h
  cases e2 : (rops f r)[i + n]? with
  | none => have := h #[]; rw [e2] at this; cases this
  | some o =>
   rw [e2] at h
   have hin : ∀ T', b T' F1 o = some x ∧ l = g ∧ lone F [] ds = true ∧ wantF F1 (rops f r) o = some true := fun T' => by
    have h1 := h T'
    simp only at h1
    cases e3 : b T' F1 o with
    | none => rw [e3] at h1; cases h1
    | some y =>
     rw [e3] at h1
     simp only [Option.some.injEq, Prod.mk.injEq] at h1
     exact ⟨congrArg some h1.1, h1.2.1, h1.2.2.1, h1.2.2.2⟩
   exact op_core hN hF hS e e2 (hin #[]).2.1 (hin #[]).2.2.1 (hin #[]).2.2.2 (fun T' h1 h2 h3 h4 => k T' F1 o h1 h2 (hin T').1 h3 h4)
theorem op_run2 {β : Type} {b b' : Array Value → List (Nat × Value) → Oper → Option β} {n : Nat} {hs : List Nat} (hN : dstsOk N (rops f r) = true) (hF : Fq N T F) (hS : Sx w L X W) (hs1 : ∀ T T', (opL P f r i n L F hs T (b T')).isSome = true) (hk : ∀ T T', opL P f r i n L F hs T (b T') = opE P f r i n L F hs T (b' T'))
 (k : ∀ T' F1 o y, Fq N T' F → Fq N T' F1 → b T' F1 o = some y → b' T' F1 o = some y → Region.wanted o (yielded (rops f r).toArray T') = true → (∀ d, o.dst = some d → d < N) → wpSeq P (rops f r) Q (o :: (rops f r).drop (i + n + 1)) ⟨T', []⟩ W) : wpSeq P (rops f r) Q ((rops f r).drop i) ⟨T, []⟩ W := by
 have h := fun T' => hk T T'
 have h0 := fun T' => hs1 T T'
 unfold opL at h0
 unfold opL opE at h
 cases e : ev P f r i n L F hs T with
 | none => have := h0 #[]; rw [e] at this; cases e2 : (rops f r)[i + n]? <;> rw [e2] at this <;> cases this
 | some q =>
  obtain ⟨F1, ds, l, g⟩ := q
  rw [e] at h h0
  cases e2 : (rops f r)[i + n]? with
  | none => have := h0 #[]; rw [e2] at this; cases this
  | some o =>
   rw [e2] at h h0
   have hin : ∀ T', (∃ y, b T' F1 o = some y ∧ b' T' F1 o = some y) ∧ l = g ∧ lone F [] ds = true ∧ wantF F1 (rops f r) o = some true := fun T' => by
    have h1 := h T'
    have h2 := h0 T'
    simp only at h1 h2
    cases e3 : b T' F1 o with
    | none => rw [e3] at h2; cases h2
    | some y =>
     rw [e3] at h1
     cases e4 : b' T' F1 o with
     | none => rw [e4] at h1; cases h1
     | some y' =>
      rw [e4] at h1
      simp only [Option.some.injEq, Prod.mk.injEq] at h1
      exact ⟨⟨y, rfl, congrArg some h1.1.symm⟩, h1.2.1, h1.2.2.1, h1.2.2.2⟩
   refine op_core hN hF hS e e2 (hin #[]).2.1 (hin #[]).2.2.1 (hin #[]).2.2.2 (fun T' h1 h2 h3 h4 => ?_)
   obtain ⟨y, h5, h6⟩ := (hin T').1
   exact k T' F1 o y h1 h2 h5 h6 h3 h4
def callB (P : Program) (T : Array Value) (F : List (Nat × Value)) (o : Oper) : Option (Nat × FuncId × Array Value × Bool) := match o.dst, callOf (opd F T) o with
 | some d, some (f, vs) => some (d, f, vs, callableF P f)
 | _, _ => none
theorem call_wp {F1 : List (Nat × Value)} {o : Oper} {d : Nat} (hF1 : Fq N T F1) (hb : callB P T F1 o = some (d, fid, vs, true))
 (h : Calls P fid vs W (fun e w' => ∃ v, e = .returned v ∧ K ⟨T.setIfInBounds d v, []⟩ w')) : o.wp P ⟨T, []⟩ W K Q := by
 unfold callB at hb
 split at hb
 ·rename_i d' f' vs' e1 e2
  simp only [Option.some.injEq, Prod.mk.injEq] at hb
  obtain ⟨rfl, rfl, rfl, hc⟩ := hb
  unfold callOf at e2
  split at e2
  ·rename_i c ho
   obtain ⟨callee, args, argTypes⟩ := c
   simp only at e2
   split at e2
   ·rename_i f2
    simp only [Option.some.injEq, Prod.mk.injEq] at e2
    obtain ⟨rfl, rfl⟩ := e2
    unfold callableF at hc
    split at hc
    ·rename_i fn hfn
     refine wp_call ho hfn hc (by rw [opd_eq hF1]) ?_
     rw [e1]; exact h
    ·cases hc
   ·cases e2
  ·cases e2
 ·cases hb
theorem At.call (n : Nat) (hs : List Nat) (d : Nat) (h : ∀ W, Sx w L X W → Calls P fid vs W (fun e w' => e = .returned v ∧ Below W.heap.size W w')) (k : At P f r (i + n + 1) Q N ((d, v) :: F) w L X)
 (hk : ∀ T T', opL P f r i n L F hs T (callB P T') = opR P f r i n L F hs T (d, fid, vs, true) := by intro T T'; kernel_rfl) : At P f r i Q N F w L X := by
 intro hN T W hF hS
 refine op_run hN hF hS hk (fun T' F1 o hF' hF1 hb hw hdN => ?_)
 refine wpSeq_step fun K hK => ?_
 rw [if_pos hw]
 have hd : d < N := hdN d (by unfold callB at hb; split at hb <;> simp_all)
 refine call_wp hF1 hb ((h W hS).mono ?_)
 rintro e w' ⟨rfl, hbl⟩
 exact ⟨v, rfl, hK _ _ (k hN _ w' (hF'.put d v hd) (hS.keep hbl))⟩
theorem At.callX {ι : Type} (n : Nat) (hs : List Nat) (d : Nat) {V : ι → Value} {L' : ι → List (Nat × Obj)} {X' : ι → List Xt} (h : ∀ W, Sx w L X W → Calls P fid vs W (fun e w' => ∃ y, e = .returned (V y) ∧ Sx w (L' y) (X' y) w')) (k : ∀ y, At P f r (i + n + 1) Q N ((d, V y) :: F) w (L' y) (X' y))
 (hk : ∀ T T', opL P f r i n L F hs T (callB P T') = opR P f r i n L F hs T (d, fid, vs, true) := by intro T T'; kernel_rfl) : At P f r i Q N F w L X := by
 intro hN T W hF hS
 refine op_run hN hF hS hk (fun T' F1 o hF' hF1 hb hw hdN => ?_)
 refine wpSeq_step fun K hK => ?_
 rw [if_pos hw]
 have hd : d < N := hdN d (by unfold callB at hb; split at hb <;> simp_all)
 refine call_wp hF1 hb ((h W hS).mono ?_)
 rintro e w' ⟨y, rfl, hS'⟩
 exact ⟨_, rfl, hK _ _ (k y hN _ w' (hF'.put d _ hd) hS')⟩
def newB (P : Program) (g : Nat) (T : Array Value) (F : List (Nat × Value)) (o : Oper) : Option (Nat × Value × Obj) := match o.dst, symN P g (execOp (opd F T) o) with
 | some d, some (.value v, ob) => some (d, v, ob)
 | _, _ => none
theorem At.new' (n : Nat) (hs : List Nat) (d : Nat) (V : Nat → Value) (ob : Obj) (k : ∀ g, w.heap.size ≤ g → At P f r (i + n + 1) Q N ((d, V g) :: F) w ((g, ob) :: L) X)
 (hk : ∀ g T T', opL P f r i n L F hs T (newB P g T') = opR P f r i n L F hs T (d, V g, ob)) : At P f r i Q N F w L X := by
 intro hN T W hF hS
 refine op_run hN hF hS (hk W.heap.size) (fun T' F1 o hF' hF1 hb hw hdN => ?_)
 refine wpSeq_step fun K hK => ?_
 rw [if_pos hw]
 unfold newB at hb
 split at hb
 ·rename_i d' v' ob' e1 e2
  simp only [Option.some.injEq, Prod.mk.injEq] at hb
  obtain ⟨rfl, rfl, rfl⟩ := hb
  unfold Oper.wp
  rw [opd_eq hF1, symN_run e2]
  show K ((⟨T', []⟩ : Act).put o.dst (V W.heap.size)) _
  rw [e1]
  exact hK _ _ (k W.heap.size hS.below.size hN _ _ (hF'.put _ _ (hdN _ e1)) (hS.alloc _))
 ·cases hb
@[reducible] def pt (g : Nat) : Value := .pointer (some ⟨g, 0, none⟩)
@[reducible] def po (g o : Nat) : Value := .pointer (some ⟨g, o, none⟩)
theorem At.new (n : Nat) (hs : List Nat) (d : Nat) (cs : Array Value) (ty : TypeId) (k : ∀ g, w.heap.size ≤ g → At P f r (i + n + 1) Q N ((d, pt g) :: F) w (ro g cs ty :: L) X)
 (hk : ∀ g T T', opL P f r i n L F hs T (newB P g T') = opR P f r i n L F hs T (d, pt g, .cells cs ty (0, 0)) := by intro g T T'; kernel_rfl) : At P f r i Q N F w L X :=
 At.new' n hs d pt _ k hk
theorem At.sli (n : Nat) (hs : List Nat) (d len : Nat) (cs : Array Value) (ty : TypeId) (k : ∀ g, w.heap.size ≤ g → At P f r (i + n + 1) Q N ((d, .slice (some ⟨g, 0, none⟩) len len) :: F) w (ro g cs ty :: L) X)
 (hk : ∀ g T T', opL P f r i n L F hs T (newB P g T') = opR P f r i n L F hs T (d, .slice (some ⟨g, 0, none⟩) len len, .cells cs ty (0, 0)) := by intro g T T'; kernel_rfl) : At P f r i Q N F w L X :=
 At.new' n hs d _ _ k hk
def setC (L : List (Nat × Obj)) (j : Nat) (cs : Array Value) : List (Nat × Obj) := match L[j]? with
 | some (g, .cells _ ty fr) => L.set j (g, .cells cs ty fr)
 | _ => L
def stB (P : Program) (L : List (Nat × Obj)) (j : Nat) (T : Array Value) (F : List (Nat × Value)) (o : Oper) : Option (Array Value × List Nat) := match o.dst, L[j]? with
 | none, some (_, .cells cs ty (0, 0)) => match symW P ty (execOp (opd F T) o) cs with
  | some (.skip, cs', l) => some (cs', l)
  | _ => none
 | _, _ => none
theorem Sx.only {W W' : World} (h : Sx w L X W) (j : Nat) {o o' : Obj} (hj : L[j]? = some (g, o)) (hg : w.heap.size ≤ g) (ho : OnlyAt g W W') (hn : W'.heap[g]? = some o') : Sx w (L.set j (g, o')) X W' :=
 h.write j hj o' (h.below.trans ⟨ho.os, ho.tape, ho.output, Nat.le_of_eq ho.size.symm, fun b hb => ho.other b (by omega)⟩) (Nat.le_of_eq ho.size.symm) (fun b hb _ => ho.other b hb) hn
theorem At.st (n : Nat) (hs : List Nat) (j : Nat) (cs : Array Value) (hg : w.heap.size ≤ gAt L j) (k : At P f r (i + n + 1) Q N F w (setC L j cs) X)
 (hk : ∀ T T', opL P f r i n L F hs T (stB P L j T') = opE P f r i n L F hs T (fun F o => (stB P L j T' F o).map fun q => (cs, q.2.map fun _ => gAt L j)) := by intro T T'; kernel_rfl)
 (h1 : ∀ T T', (opL P f r i n L F hs T (stB P L j T')).isSome = true := by intro T T'; kernel_rfl) : At P f r i Q N F w L X := by
 intro hN T W hF hS
 refine op_run2 hN hF hS h1 hk (fun T' F1 o y hF' hF1 hb hb' hw hdN => ?_)
 refine wpSeq_step fun K hK => ?_
 rw [if_pos hw]
 rw [hb] at hb'
 simp only [Option.map_some, Option.some.injEq] at hb'
 unfold stB at hb
 split at hb
 ·rename_i g cs0 ty e1 e2
  split at hb
  ·rename_i cs' l e3
   cases hb
   simp only [Prod.mk.injEq] at hb'
   obtain ⟨rfl, hl⟩ := hb'
   have hgj : gAt L j = g := by unfold gAt; rw [e2]
   obtain ⟨W', r1, r2, r3⟩ := symW_run (W := W) e3 (fun b hb => by
    rw [← hl] at hb
    obtain ⟨_, _, h⟩ := List.mem_map.1 hb
    exact h.symm.trans hgj) (hS.rows _ (List.mem_of_getElem? e2))
   unfold Oper.wp
   rw [opd_eq hF1, r1]
   show K ((⟨T', []⟩ : Act).put o.dst undef) _
   rw [e1]
   refine hK _ _ (k hN _ _ hF' ?_)
   unfold setC
   rw [e2]
   exact hS.only j e2 (hgj ▸ hg) r2 r3
  ·cases hb
 ·cases hb
theorem At.fin (k : ∀ T W, Fq N T F → Sx w L X W → Q .normal ⟨T, []⟩ W) (h : (rops f r).drop i = [] := by kernel_rfl) : At P f r i Q N F w L X := by
 intro _ T W hF hS
 rw [h]
 exact k T W hF hS
theorem At.nx {c : Code} (k : Cd P c Q N F w L X) (h : (rops f r).drop i = [] := by kernel_rfl) : At P f r i (Exit.then (c.wp P Q) Q) N F w L X := At.fin (fun T W hF hS => k T W hF hS) h
theorem At.as {L' : List (Nat × Obj)} {X' : List Xt} (h : ∀ W, Sx w L X W → Sx w L' X' W) (k : At P f r i Q N F w L' X') : At P f r i Q N F w L X := fun hN T W hF hS => k hN T W hF (h W hS)
theorem Cd.as {c : Code} {L' : List (Nat × Obj)} {X' : List Xt} (h : ∀ W, Sx w L X W → Sx w L' X' W) (k : Cd P c Q N F w L' X') : Cd P c Q N F w L X := fun T W hF hS => k T W hF (h W hS)
theorem At.fact {p : Prop} (h : ∀ W, Sx w L X W → p) (k : p → At P f r i Q N F w L X) : At P f r i Q N F w L X := fun hN T W hF hS => k (h W hS) hN T W hF hS
theorem Cd.fact {c : Code} {p : Prop} (h : ∀ W, Sx w L X W → p) (k : p → Cd P c Q N F w L X) : Cd P c Q N F w L X := fun T W hF hS => k (h W hS) T W hF hS
theorem Cd.rg (k : At P f r 0 Q N F w L X) (h : rdrawn f r = some false := by kernel_rfl) (hN : dstsOk N (rops f r) = true := by kernel_rfl) : Cd P (rgn f r) Q N F w L X := fun T W hF hS => rgn_plain h (k hN T W hF hS)
theorem Cd.seq {a b : Code} (k : Cd P a (Exit.then (b.wp P Q) Q) N F w L X) : Cd P (.seq a b) Q N F w L X := fun T W hF hS => wp_seq (k T W hF hS)
theorem Cd.sr {c : Code} (k : At P f r 0 (Exit.then (c.wp P Q) Q) N F w L X) (h : rdrawn f r = some false := by kernel_rfl) (hN : dstsOk N (rops f r) = true := by kernel_rfl) : Cd P (.seq (rgn f r) c) Q N F w L X := .seq (.rg k h hN)
theorem eval_known {j : Nat} (hF : Fq N T F) (h : look F j = some v) : (⟨T, []⟩ : Act).eval (.tmp j) = v := hF.known _ _ h
theorem Cd.ct {a b : Code} {j : Nat} (k : Cd P a Q N F w L X) (h : look F j = some (.bool true) := by kernel_rfl) : Cd P (.cond (.tmp j) a b) Q N F w L X := fun T W hF hS => wp_cond_true (eval_known hF h) (k T W hF hS)
theorem Cd.cf {a b : Code} {j : Nat} (k : Cd P b Q N F w L X) (h : look F j = some (.bool false) := by kernel_rfl) : Cd P (.cond (.tmp j) a b) Q N F w L X := fun T W hF hS => wp_cond_false (eval_known hF h) (k T W hF hS)
theorem Cd.sk (k : ∀ T W, Fq N T F → Sx w L X W → Q .normal ⟨T, []⟩ W) : Cd P .skip Q N F w L X := fun T W hF hS => wp_skip (k T W hF hS)
theorem Cd.blk {c : Code} {id : Nat} (k : Cd P c (Exit.inBlock id Q) N F w L X) : Cd P (.block id c) Q N F w L X := fun T W hF hS => wp_block (k T W hF hS)
theorem Cd.ex {id : Nat} (k : ∀ T W, Fq N T F → Sx w L X W → Q (.exit id) ⟨T, []⟩ W) : Cd P (.exit id) Q N F w L X := fun T W hF hS => wp_exit (k T W hF hS)
theorem At.eqv (j : Nat) (v v' : Value) (h : v = v') (k : At P f r i Q N ((j, v') :: F) w L X) (hj : look F j = some v := by kernel_rfl) : At P f r i Q N F w L X := by
 intro hN T W hF hS
 refine k hN T W ⟨hF.size, fun a u ha => ?_⟩ hS
 simp only [look] at ha
 cases e : Nat.beq j a with
 | true => rw [e] at ha; simp at ha; subst ha; subst h; rw [← Nat.eq_of_beq_eq_true e]; exact hF.known _ _ hj
 | false => rw [e] at ha; exact hF.known _ _ ha
theorem Cd.eqv {c : Code} (j : Nat) (v v' : Value) (h : v = v') (k : Cd P c Q N ((j, v') :: F) w L X) (hj : look F j = some v := by kernel_rfl) : Cd P c Q N F w L X := by
 intro T W hF hS
 refine k T W ⟨hF.size, fun a u ha => ?_⟩ hS
 simp only [look] at ha
 cases e : Nat.beq j a with
 | true => rw [e] at ha; simp at ha; subst ha; subst h; rw [← Nat.eq_of_beq_eq_true e]; exact hF.known _ _ hj
 | false => rw [e] at ha; exact hF.known _ _ ha
theorem At.sp (j : Nat) (b : Bool) (k1 : b = true → At P f r i Q N ((j, .bool true) :: F) w L X) (k2 : b = false → At P f r i Q N ((j, .bool false) :: F) w L X) (hj : look F j = some (.bool b) := by kernel_rfl) : At P f r i Q N F w L X := by
 rcases bft b with h | h
 ·exact At.eqv j (.bool b) (.bool true) (congrArg _ h) (k1 h) hj
 ·exact At.eqv j (.bool b) (.bool false) (congrArg _ h) (k2 h) hj
theorem Cd.sp {c : Code} (j : Nat) (b : Bool) (k1 : b = true → Cd P c Q N ((j, .bool true) :: F) w L X) (k2 : b = false → Cd P c Q N ((j, .bool false) :: F) w L X) (hj : look F j = some (.bool b) := by kernel_rfl) : Cd P c Q N F w L X := by
 rcases bft b with h | h
 ·exact Cd.eqv j (.bool b) (.bool true) (congrArg _ h) (k1 h) hj
 ·exact Cd.eqv j (.bool b) (.bool false) (congrArg _ h) (k2 h) hj
theorem Cd.sh {c : Code} (h : Cd P c Q N F w L X) : ∀ T W, Fq N T F → Sx w L X W → c.wp P Q ⟨T, []⟩ W := h
def again {ι : Type} (m : ι → Nat) (Fi : ι → List (Nat × Value)) (w : World) (Li : ι → List (Nat × Obj)) (Xi : ι → List Xt) (N : Nat) (i : ι) (a : Act) (W : World) : Prop := ∃ j, m j < m i ∧ ∃ T, a = ⟨T, []⟩ ∧ Fq N T (Fi j) ∧ Sx w (Li j) (Xi j) W
theorem Fq.sub {F' : List (Nat × Value)} (h : Fq N T F) (hk : F'.map (fun p => look F p.1) = F'.map (fun p => some p.2)) : Fq N T F' :=
 ⟨h.size, fun k v hv => h.known k v (List.map_inj_left.1 hk _ (look_mem _ _ _ hv))⟩
theorem Cd.loop {c : Code} {ι : Type} (m : ι → Nat) (Fi : ι → List (Nat × Value)) (Li : ι → List (Nat × Obj)) (Xi : ι → List Xt) (i0 : ι) (hS0 : ∀ W, Sx w L X W → Sx w (Li i0) (Xi i0) W) (step : ∀ i, Cd P c (Exit.then (again m Fi w Li Xi N i) Q) N (Fi i) w (Li i) (Xi i))
 (hF0 : (Fi i0).map (fun p => look F p.1) = (Fi i0).map (fun p => some p.2) := by kernel_rfl) : Cd P (.loop c) Q N F w L X := by
 intro T W hF hS
 refine wp_loop_ghost (fun n a W => ∃ i, n = m i ∧ ∃ T, a = ⟨T, []⟩ ∧ Fq N T (Fi i) ∧ Sx w (Li i) (Xi i) W) (m i0) ⟨i0, rfl, T, rfl, hF.sub hF0, hS0 W hS⟩ ?_
 rintro n a W ⟨i, rfl, T, rfl, hF, hS⟩
 refine wp_mono (step i T W hF hS) ?_
 intro e a' W' h
 cases e with
 | normal =>
  obtain ⟨j, hlt, T', ha, h1, h2⟩ := h
  exact ⟨m j, hlt, j, rfl, T', ha, h1, h2⟩
 | _ => exact h
theorem again_of {ι : Type} {m : ι → Nat} {Fi : ι → List (Nat × Value)} {Li : ι → List (Nat × Obj)} {Xi : ι → List Xt} {i : ι} (j : ι) (hlt : m j < m i) (hS : ∀ W, Sx w L X W → Sx w (Li j) (Xi j) W) (hk : (Fi j).map (fun p => look F p.1) = (Fi j).map (fun p => some p.2) := by kernel_rfl) : ∀ T W, Fq N T F → Sx w L X W → Exit.then (again m Fi w Li Xi N i) Q .normal ⟨T, []⟩ W :=
 fun T W hF h => ⟨j, hlt, T, rfl, hF.sub hk, hS W h⟩
def binB (T : Array Value) (F : List (Nat × Value)) (o : Oper) : Option (Nat × Bool × BinOp × Value × Value) := match o.dst, o.op with
 | some d, .binOp op _ x y _ => some (d, (match op with | .eql | .neq => false | _ => true), op, opd F T x, opd F T y)
 | _, _ => none
theorem At.bin (n : Nat) (hs : List Nat) (d : Nat) (op : BinOp) (x y v : Value) (hv : ∀ t W, (binOp op t x y).run P W = .ok v W) (k : At P f r (i + n + 1) Q N ((d, v) :: F) w L X)
 (hk : ∀ T T', opL P f r i n L F hs T (binB T') = opR P f r i n L F hs T (d, true, op, x, y) := by intro T T'; kernel_rfl) : At P f r i Q N F w L X := by
 intro hN T W hF hS
 refine op_run hN hF hS hk (fun T' F1 o hF' hF1 hb hw hdN => ?_)
 refine wpSeq_step fun K hK => ?_
 rw [if_pos hw]
 unfold binB at hb
 split at hb
 ·rename_i d' op' t x' y' ty e1 e2
  simp only [Option.some.injEq, Prod.mk.injEq] at hb
  obtain ⟨rfl, hop, rfl, rfl, rfl⟩ := hb
  have hg : (eqGuard op' t x' y' (opd F1 T' x') (opd F1 T' y')).run P W = .ok () W := by
   unfold eqGuard
   cases op' <;> first | rfl | cases hop
  unfold Oper.wp
  rw [opd_eq hF1]
  unfold execOp
  simp only [e2, Sem.run_bind, hg, Result.andThen_ok, hv]
  show K ((⟨T', []⟩ : Act).put o.dst v) W
  rw [e1]
  exact hK _ _ (k hN _ W (hF'.put _ v (hdN _ e1)) hS)
 ·cases hb
def ixB (P : Program) (T : Array Value) (F : List (Nat × Value)) (o : Oper) : Option (Nat × Option Nat × Nat × Value × Value) := match o.dst, o.op with
 | some d, .indexAddr t x y => match P.underlying t with
  | some (.array len e) => match symR P #[] 0 (sizeOf e) with
   | some (s, []) => some (d, some len, s, opd F T x, opd F T y)
   | _ => none
  | some (.slice e) => match symR P #[] 0 (sizeOf e) with
   | some (s, []) => some (d, none, s, opd F T x, opd F T y)
   | _ => none
  | _ => none
 | _, _ => none
theorem At.ixa (n : Nat) (hs : List Nat) (d len s g o : Nat) (k' : IntKind) (m : Nat) (hm : m < len) (k : At P f r (i + n + 1) Q N ((d, po g (o + m * s)) :: F) w L X)
 (hk : ∀ T T', opL P f r i n L F hs T (ixB P T') = opR P f r i n L F hs T (d, some len, s, po g o, .int k' (m : Int)) := by intro T T'; kernel_rfl) : At P f r i Q N F w L X := by
 intro hN T W hF hS
 refine op_run hN hF hS hk (fun T' F1 op hF' hF1 hb hw hdN => ?_)
 refine wpSeq_step fun K hK => ?_
 rw [if_pos hw]
 unfold ixB at hb
 split at hb
 ·rename_i d' t x' y' e1 e2
  split at hb
  ·rename_i len' e hu
   split at hb
   ·rename_i s' e3
    simp only [Option.some.injEq, Prod.mk.injEq] at hb
    obtain ⟨rfl, rfl, rfl, hx, hy⟩ := hb
    have hadd : (⟨g, o, none⟩ : Addr).add (m * s') = ⟨g, o + m * s', none⟩ := by unfold Addr.add; split <;> simp_all
    unfold Oper.wp
    rw [opd_eq hF1]
    unfold execOp
    simp [e2, hx, hy, Instr.indexAt, asIntOf, run_underlying hu, sym0_run e3, Instr.sureAddr, hm, hadd]
    show K ((⟨T', []⟩ : Act).put op.dst _) W
    rw [e1]
    exact hK _ _ (k hN _ W (hF'.put _ _ (hdN _ e1)) hS)
   ·cases hb
  ·split at hb
   ·simp at hb
   ·cases hb
  ·cases hb
 ·cases hb
theorem At.ixs (n : Nat) (hs : List Nat) (d s g o l c : Nat) (k' : IntKind) (m : Nat) (hm : m < l) (k : At P f r (i + n + 1) Q N ((d, po g (o + m * s)) :: F) w L X)
 (hk : ∀ T T', opL P f r i n L F hs T (ixB P T') = opR P f r i n L F hs T (d, none, s, .slice (some ⟨g, o, none⟩) l c, .int k' (m : Int)) := by intro T T'; kernel_rfl) : At P f r i Q N F w L X := by
 intro hN T W hF hS
 refine op_run hN hF hS hk (fun T' F1 op hF' hF1 hb hw hdN => ?_)
 refine wpSeq_step fun K hK => ?_
 rw [if_pos hw]
 unfold ixB at hb
 split at hb
 ·rename_i d' t x' y' e1 e2
  split at hb
  ·split at hb
   ·simp at hb
   ·cases hb
  ·rename_i e hu
   split at hb
   ·rename_i s' e3
    simp only [Option.some.injEq, Prod.mk.injEq] at hb
    obtain ⟨rfl, -, rfl, hx, hy⟩ := hb
    have hadd : (⟨g, o, none⟩ : Addr).add (m * s') = ⟨g, o + m * s', none⟩ := by unfold Addr.add; split <;> simp_all
    unfold Oper.wp
    rw [opd_eq hF1]
    unfold execOp
    simp [e2, hx, hy, Instr.indexAt, asIntOf, run_underlying hu, sym0_run e3, hm, hadd]
    show K ((⟨T', []⟩ : Act).put op.dst _) W
    rw [e1]
    exact hK _ _ (k hN _ W (hF'.put _ _ (hdN _ e1)) hS)
   ·cases hb
  ·cases hb
 ·cases hb
def ldB (P : Program) (T : Array Value) (F : List (Nat × Value)) (o : Oper) : Option (Nat × Value × Bool) := match o.dst, o.op with
 | some d, .load t x => match P.underlying t with
  | some dd => some (d, opd F T x, match dd with | .struct _ | .array _ _ => false | _ => true)
  | none => none
 | _, _ => none
theorem At.ld (n : Nat) (hs : List Nat) (d g o : Nat) (v : Value) (hc : ∀ W, Sx w L X W → W.cell? ⟨g, o, none⟩ = some v) (k : At P f r (i + n + 1) Q N ((d, v) :: F) w L X)
 (hk : ∀ T T', opL P f r i n L F hs T (ldB P T') = opR P f r i n L F hs T (d, po g o, true) := by intro T T'; kernel_rfl) : At P f r i Q N F w L X := by
 intro hN T W hF hS
 refine op_run hN hF hS hk (fun T' F1 op hF' hF1 hb hw hdN => ?_)
 refine wpSeq_step fun K hK => ?_
 rw [if_pos hw]
 unfold ldB at hb
 split at hb
 ·rename_i d' t x' e1 e2
  split at hb
  ·rename_i dd hu
   simp only [Option.some.injEq, Prod.mk.injEq] at hb
   obtain ⟨rfl, hx, hdd⟩ := hb
   refine wp_ld e2 ((congrFun (opd_eq hF1) x').trans hx) hu (by cases dd <;> exact hdd) (hc W hS) ?_
   rw [e1]
   exact hK _ _ (k hN _ W (hF'.put _ v (hdN _ e1)) hS)
  ·cases hb
 ·cases hb
theorem run_shr {k k' : IntKind} {m : Int} {n : Nat} (t : TypeId) (W : World) : (binOp .shr t (.int k m) (.int k' (n : Int))).run P W = .ok (.int k (m.fdiv (2 ^ min n k.bits))) W := by
 simp [binOp, Op.shift]; omega
def joined {ι : Type} (F0 : ι → List (Nat × Value)) (w : World) (L0 : ι → List (Nat × Obj)) (X0 : ι → List Xt) (N : Nat) (a : Act) (W : World) : Prop := ∃ i, ∃ T, a = ⟨T, []⟩ ∧ Fq N T (F0 i) ∧ Sx w (L0 i) (X0 i) W
theorem Cd.seqj {a b : Code} {ι : Type} (F0 : ι → List (Nat × Value)) (L0 : ι → List (Nat × Obj)) (X0 : ι → List Xt) (rest : ∀ i, Cd P b Q N (F0 i) w (L0 i) (X0 i)) (arm : Cd P a (Exit.then (joined F0 w L0 X0 N) Q) N F w L X) : Cd P (.seq a b) Q N F w L X := by
 intro T W hF hS
 refine wp_seq (wp_mono (arm T W hF hS) ?_)
 intro e a' W' h
 cases e with
 | normal =>
  obtain ⟨i, T', rfl, h1, h2⟩ := h
  exact rest i T' W' h1 h2
 | _ => exact h
theorem join_of {ι : Type} {F0 : ι → List (Nat × Value)} {L0 : ι → List (Nat × Obj)} {X0 : ι → List Xt} (i : ι) (hS : ∀ W, Sx w L X W → Sx w (L0 i) (X0 i) W) (hk : (F0 i).map (fun p => look F p.1) = (F0 i).map (fun p => some p.2) := by kernel_rfl) : ∀ T W, Fq N T F → Sx w L X W → Exit.then (joined F0 w L0 X0 N) Q .normal ⟨T, []⟩ W :=
 fun T W hF h => ⟨i, T, rfl, hF.sub hk, hS W h⟩
def resOne (P : Program) (F : List (Nat × Value)) (L : List (Nat × Obj)) (j : Nat) : ResultVar → Option (Value × List Nat × List Nat)
 | .tmp t => (look F t).map fun v => (v, [], [])
 | .cell a t => match look F a, L[j]? with
  | some v, some (g, .cells cs ty _) => match symR P cs ty (do loadVar t (← asAddr v)) with
   | some (x, l) => some (x, l, l.map fun _ => g)
   | none => none
  | _, _ => none
def resAll (P : Program) (F : List (Nat × Value)) (L : List (Nat × Obj)) : List Nat → List ResultVar → Option (List Value × List Nat × List Nat)
 | _, [] => some ([], [], [])
 | hs, x :: xs => match resOne P F L (hs.headD 0) x, resAll P F L hs.tail xs with
  | some (v, l, g), some (vs, l2, g2) => some (v :: vs, l ++ l2, g ++ g2)
  | _, _ => none
def resSem (T : Array Value) : ResultVar → Sem Value
 | .tmp t => pure (T.getD t undef)
 | .cell a t => do loadVar t (← asAddr (T.getD a undef))
theorem resOne_run {j : Nat} {x : ResultVar} {l g : List Nat} (hF : Fq N T F) (hS : Sx w L X W) (h : resOne P F L j x = some (v, l, g)) (hl : l = g) :
 Sem.run P (resSem T x) W = .ok v W := by
 cases x with
 | tmp t =>
  simp only [resOne] at h
  cases e : look F t with
  | none => rw [e] at h; cases h
  | some u => rw [e] at h; cases h; simp only [resSem]; rw [hF.known _ _ e]; rfl
 | cell a t =>
  simp only [resOne] at h
  split at h
  ·rename_i u gg cs ty fr e1 e2
   split at h
   ·rename_i x' l' e3
    cases h
    simp only [resSem]
    rw [hF.known _ _ e1]
    exact symR_run (fr := fr) e3 (fun b hb => by
     rw [hl] at hb
     obtain ⟨_, _, h⟩ := List.mem_map.1 hb
     exact h.symm) (Or.inr (hS.rows _ (List.mem_of_getElem? e2)))
   ·cases h
  ·cases h
theorem resAll_len {xs : List ResultVar} : ∀ {hs : List Nat} {vs : List Value} {l g : List Nat}, resAll P F L hs xs = some (vs, l, g) → l.length = g.length := by
 induction xs with
 | nil => intro hs vs l g h; cases h; rfl
 | cons x xs ih =>
  intro hs vs l g h
  simp only [resAll] at h
  split at h
  ·rename_i v l1 g1 vs2 l2 g2 e1 e2
   cases h
   have h2 := ih e2
   have h1 : l1.length = g1.length := by
    cases x with
    | tmp t => simp only [resOne] at e1; cases e : look F t <;> rw [e] at e1 <;> cases e1; rfl
    | cell a t =>
     simp only [resOne] at e1
     split at e1
     ·split at e1
      ·cases e1; simp
      ·cases e1
     ·cases e1
   simp [h1, h2]
  ·cases h
theorem resAll_run (hF : Fq N T F) (hS : Sx w L X W) : ∀ {xs : List ResultVar} {hs : List Nat} {vs : List Value} {l g : List Nat}, resAll P F L hs xs = some (vs, l, g) → l = g →
 Sem.run P (xs.mapM (resSem T)) W = .ok vs W
 | [], hs, vs, l, g, h, _ => by cases h; rfl
 | x :: xs, hs, vs, l, g, h, hl => by
  simp only [resAll] at h
  split at h
  ·rename_i v l1 g1 vs2 l2 g2 e1 e2
   cases h
   have hlen := resAll_len e2
   obtain ⟨h1, h2⟩ := List.append_inj' hl hlen
   rw [List.mapM_cons]
   simp only [Sem.run_bind, resOne_run hF hS e1 h1, Result.andThen_ok, resAll_run hF hS e2 h2]
   rfl
  ·cases h
def oneOf : List Value → Value
 | [v] => v
 | vs => .tuple vs.toArray
theorem results_run {fn : Func} {hs : List Nat} {vs : List Value} {l g : List Nat} (hF : Fq N T F) (hS : Sx w L X W) (h : resAll P F L hs fn.results.toList = some (vs, l, g)) (hl : l = g) : (results fn T).run P W = .ok (oneOf vs) W := by
 have e : results fn T = (do let vs ← fn.results.mapM (resSem T); pure (if h : vs.size = 1 then vs[0] else .tuple vs)) := by
  unfold results
  congr 1
 rw [e, Sem.run_bind, Array.mapM_eq_mapM_toList, map_eq_pure_bind, Sem.run_bind, resAll_run hF hS h hl]
 simp only [Result.andThen_ok, Sem.run_pure]
 congr 1
 match vs with
 | [] => rfl
 | [v] => rfl
 | v :: u :: vs => simp [oneOf]
theorem r0 {fn : Func} {R : Ending → World → Prop} : ∀ a w, bodyPost P fn R .ret a w → bodyPost P fn R .ret a w := fun _ _ h => h
theorem rt {B : Act → World → Prop} (h : ∀ a w, B a w → Q .ret a w) : ∀ a w, B a w → Exit.then K Q .ret a w := h
theorem rb {B : Act → World → Prop} {id : Nat} (h : ∀ a w, B a w → Q .ret a w) : ∀ a w, B a w → Exit.inBlock id Q .ret a w := h
theorem Cd.rv {fn : Func} {R : Ending → World → Prop} (hQ : ∀ a w, bodyPost P fn R .ret a w → Q .ret a w) (hs : List Nat) (v : Value) (h : ∀ W, Sx w L X W → R (.returned v) W)
 (hk : (resAll P F L hs fn.results.toList).map (fun q => (oneOf q.1, q.2.1)) = (resAll P F L hs fn.results.toList).map (fun q => (v, q.2.2)) := by kernel_rfl) (hs1 : (resAll P F L hs fn.results.toList).isSome = true := by kernel_rfl) : Cd P .ret Q N F w L X := by
 intro T W hF hS
 refine wp_ret (hQ _ _ ?_)
 cases e : resAll P F L hs fn.results.toList with
 | none => rw [e] at hs1; cases hs1
 | some q =>
  obtain ⟨vs, l, g⟩ := q
  rw [e] at hk
  simp only [Option.map_some, Option.some.injEq, Prod.mk.injEq] at hk
  obtain ⟨h1, h2⟩ := hk
  exact ⟨rfl, _, results_run hF hS e h2, h1 ▸ h W hS⟩
theorem enterQ {fn : Func} {args : Array Value} {R : Ending → World → Prop} (N : Nat) (K : (Nat → Code) → Code) (hS : Sx w L X w) (hf : P.funcs[fid]? = some fn) (k : Cd P (K (rgn fn)) (bodyPost P fn R) N (args.toList.zipIdx.map fun p => (p.2, p.1)) w L X)
 (hb : fn.body = some (K (rgn fn)) := by kernel_rfl) (hN : args.size + (fn.ntmps - args.size) = N := by kernel_rfl) : Calls P fid args w R :=
 calls_of_wp hf hb (k _ w ⟨by rw [← hN]; simp, fun j v hj => by
  have hm := look_mem _ _ _ hj
  obtain ⟨p, hp, he⟩ := List.mem_map.1 hm
  cases he
  obtain ⟨h1, h2, h3⟩ := List.mem_zipIdx hp
  simp only [Nat.sub_zero] at h3
  have h2 : p.2 < args.size := by simpa using h2
  rw [Array.getD_eq_getD_getElem?, Array.getElem?_append_left h2, h3]
  simp [h2]⟩ hS)
end walk
structure Lt where
 a : Option Addr
 n : Nat
 c : Nat
 p : Option Addr × Nat × Nat
 q : Option Addr × Nat × Nat
@[reducible] def lt0 (a : Option Addr) (n c : Nat) : Lt := ⟨a, n, c, (none, 0, 0), (none, 0, 0)⟩
@[reducible] def Lt.s2 (y : Lt) : Lt := lt0 y.p.1 y.p.2.1 y.p.2.2
@[reducible] def Lt.s3 (y : Lt) : Lt := lt0 y.q.1 y.q.2.1 y.q.2.2
@[reducible] def Lt.sl (y : Lt) : Value := .slice y.a y.n y.c
def upd (u : Nat → Lt) (m : Nat) (y : Lt) : Nat → Lt := fun k => bif Nat.beq k m then y else u k
theorem upd_same (u : Nat → Lt) (m : Nat) (y : Lt) : upd u m y m = y := by simp [upd]
structure Mk where
 sl : Option Nat
 cs : Array Value
 ty : TypeId
def Mk.val (A : Mk) (g : Nat) : Value := match A.sl with
 | none => .pointer (some ⟨g, 0, none⟩)
 | some n => .slice (some ⟨g, 0, none⟩) n n
@[reducible] def Mk.row (A : Mk) : Obj := .cells A.cs A.ty (0, 0)
def waits (o : Oper) (j : Nat) : Bool := o.after.toList.any fun e => Region.binds .any e && Nat.beq e.on j
theorem waits_of {o : Oper} {j : Nat} (h : waits o j = true) : ∃ e ∈ o.after, Region.binds .any e = true ∧ e.on = j := by
 obtain ⟨e, he, h2⟩ := List.any_eq_true.1 h
 rw [Bool.and_eq_true] at h2
 exact ⟨e, by simpa using he, h2.1, Nat.eq_of_beq_eq_true h2.2⟩
theorem of_waits {o : Oper} {j : Nat} {e : Edge} (he : e ∈ o.after) (hb : Region.binds .any e = true) (hj : e.on = j) : waits o j = true :=
 List.any_eq_true.2 ⟨e, by simpa using he, by rw [Bool.and_eq_true]; exact ⟨hb, by rw [hj]; simp⟩⟩
def writer (l : List Oper) (k : Nat) : Option Nat := (List.range l.length).find? fun j => match l[j]? with
 | some o => match o.dst with
  | some d => Nat.beq d k
  | none => false
 | none => false
def lookD (E F : List (Nat × Value)) (l : List Oper) (i : Nat) (o : Oper) (k : Nat) : Option Value := match writer l k with
 | none => look F k
 | some j => match waits o j with
  | true => look E j
  | false => match Nat.beq j i || (match l[j]? with | some oj => waits oj i | none => false) with
   | true => look F k
   | false => none
def opdD (E F : List (Nat × Value)) (l : List Oper) (i : Nat) (o : Oper) (T : Array Value) : Operand → Value
 | .tmp k => match lookD E F l i o k with
  | some v => v
  | none => T.getD k undef
 | .const v => v
 | .global g => .pointer (some ⟨g, 0, none⟩)
 | .func f => .func (.func f) #[] #[]
def wantD (E : List (Nat × Value)) (o : Oper) : Option Bool := match o.guard with
 | none => some true
 | some (j, b) => match waits o j, look E j with
  | true, some (.bool c) => some (c == b)
  | true, some _ => some false
  | _, _ => none
def oneD (P : Program) (ρ : Operand → Value) (L : List (Nat × Obj)) (j : Nat) (o : Oper) : Option (Value × List Nat) :=
 match aggEq P ρ o with
 | some v => some (v, [])
 | none => oneR P ρ L j o
def devs (P : Program) (L : List (Nat × Obj)) (F : List (Nat × Value)) (l : List Oper) (cs : List (Nat × Value)) : List Nat → Nat → List (Nat × Value) → List Oper → List (Nat × Value)
 | _, _, E, [] => E
 | hs, i, E, o :: os => match wantD E o with
  | some true => match look cs i with
   | some v => devs P L F l cs hs.tail (i + 1) ((i, v) :: E) os
   | none => match oneD P (opdD E F l i o #[]) L (hs.headD 0) o with
    | some (v, _) => devs P L F l cs hs.tail (i + 1) ((i, v) :: E) os
    | none => E
  | some false => devs P L F l cs hs.tail (i + 1) ((i, undef) :: E) os
  | none => E
structure Dw where
 ks : List (Nat × Value)
 As : List (Nat × Mk)
 Rs : List (Nat × (Lt → Value) × (Lt → World → Prop))
 es : List (Nat × Value × Value)
def Dw.cs (D : Dw) (u : Nat → Lt) : List (Nat × Value) := D.ks ++ D.As.map (fun p => (p.1, p.2.val (u p.1).n)) ++ D.Rs.map (fun p => (p.1, p.2.1 (u p.1))) ++ D.es.map (fun p => (p.1, p.2.2))
def lookL {β : Type} : List (Nat × β) → Nat → Option β
 | [], _ => none
 | (a, v) :: l, k => bif Nat.beq a k then some v else lookL l k
noncomputable def Dw.E (D : Dw) (P : Program) (L : List (Nat × Obj)) (F : List (Nat × Value)) (l : List Oper) (n1 : Nat) (hs : List Nat) (u : Nat → Lt) : List (Nat × Value) := devs P L F l (D.cs u) hs 0 [] (l.take n1)
def masks : List Nat → List Oper → List Nat
 | acc, [] => acc
 | acc, o :: os => masks (acc ++ [o.after.toList.foldl (fun b e => bif Region.binds .any e then (b ||| (1 <<< e.on)) ||| acc.getD e.on 0 else b) 0]) os
def leans (l : List Oper) (i m : Nat) : Bool := Nat.testBit ((masks [] l).getD i 0) m
section masks
variable {l : List Oper}
def Shut (l : List Oper) (D : Nat → Bool) : Prop := ∀ k ok, l[k]? = some ok → D k = true → ∀ j, waits ok j = true → D j = true
def Good (l : List Oper) (k b : Nat) : Prop := ∀ D, Shut l D → (∀ o j, l[k]? = some o → waits o j = true → D j = true) → ∀ m, Nat.testBit b m = true → D m = true
theorem fold_good {acc : List Nat} {o : Oper} {D : Nat → Bool} (hD : Shut l D) (ha : ∀ k, k < acc.length → Good l k (acc.getD k 0)) : ∀ (es : List Edge) (b : Nat), (∀ e, e ∈ es → Region.binds .any e = true → D e.on = true) → (∀ m, Nat.testBit b m = true → D m = true) →
 ∀ m, Nat.testBit (es.foldl (fun b e => bif Region.binds .any e then (b ||| (1 <<< e.on)) ||| acc.getD e.on 0 else b) b) m = true → D m = true
 | [], b, _, hb => hb
 | e :: es, b, he, hb => by
  refine fold_good (o := o) hD ha es _ (fun e' h => he e' (List.mem_cons_of_mem _ h)) (fun m hm => ?_)
  simp only at hm
  cases hbd : Region.binds .any e with
  | false => rw [hbd] at hm; exact hb m hm
  | true =>
   rw [hbd] at hm
   simp only [cond_true, Nat.testBit_or, Bool.or_eq_true] at hm
   have h1 := he e (List.mem_cons_self ..) hbd
   rcases hm with (hm | hm) | hm
   ·exact hb m hm
   ·rw [Nat.testBit_shiftLeft] at hm
    simp only [Bool.and_eq_true, decide_eq_true_eq] at hm
    have : m = e.on := by
     have h2 := hm.2
     rw [Nat.testBit_one_eq_true_iff_self_eq_zero] at h2
     omega
    rw [this]; exact h1
   ·by_cases hlt : e.on < acc.length
    ·exact ha e.on hlt D hD (fun o j ho hw => hD _ _ ho h1 j hw) m hm
    ·rw [List.getD_eq_getElem?_getD, List.getElem?_eq_none (by omega)] at hm
     simp at hm
theorem masks_good : ∀ (os : List Oper) (acc : List Nat), l.drop acc.length = os → (∀ k, k < acc.length → Good l k (acc.getD k 0)) → ∀ k, Good l k ((masks acc os).getD k 0)
 | [], acc, _, ha, k => by
  by_cases hlt : k < acc.length
  ·exact ha k hlt
  ·intro D _ _ m hm
   simp only [masks] at hm
   rw [List.getD_eq_getElem?_getD, List.getElem?_eq_none (by omega)] at hm
   simp at hm
 | o :: os, acc, hd, ha, k => by
  simp only [masks]
  have hlen : acc.length < l.length := by
   have h1 := congrArg List.length hd
   simp at h1; omega
  have ho : l[acc.length]? = some o := by
   have := List.drop_eq_getElem_cons hlen
   rw [hd] at this
   rw [List.getElem?_eq_getElem hlen]
   exact congrArg some (List.cons.inj this).1.symm
  refine masks_good os _ ?_ ?_ k
  ·rw [List.length_append, List.length_singleton, ← List.drop_drop, hd]; rfl
  ·intro j hj
   rw [List.length_append, List.length_singleton] at hj
   rw [List.getD_eq_getElem?_getD]
   by_cases hlt : j < acc.length
   ·rw [List.getElem?_append_left hlt, ← List.getD_eq_getElem?_getD]; exact ha j hlt
   ·have : j = acc.length := by omega
    subst this
    rw [List.getElem?_append_right (Nat.le_refl _)]
    simp only [Nat.sub_self, List.getElem?_cons_zero, Option.getD_some]
    intro D hD hw m hm
    refine fold_good (o := o) hD ha o.after.toList 0 (fun e he hb => hw o e.on ho (of_waits (by simpa using he) hb rfl)) (fun m hm => by simp at hm) m hm
theorem leans_in {D : Nat → Bool} {i m : Nat} (hD : Shut l D) (hi : ∀ o j, l[i]? = some o → waits o j = true → D j = true) (h : leans l i m = true) : D m = true :=
 masks_good l [] rfl (fun k hk => by cases hk) i D hD hi m h
end masks
section drawn
variable {P : Program} {l : List Oper} {N n1 : Nat} {F : List (Nat × Value)} {w W0 : World} {L : List (Nat × Obj)} {X : List Xt} {D : Dw} {E : (Nat → Lt) → List (Nat × Value)} {T0 : Array Value} {Q : Exit → Act → World → Prop}
structure GInv (l : List Oper) (N n1 : Nat) (w W0 : World) (L : List (Nat × Obj)) (X : List Xt) (D : Dw) (E : (Nat → Lt) → List (Nat × Value)) (T0 : Array Value) (u : Nat → Lt) (Ld : Nat → Bool) (T : Array Value) (W : World) : Prop where
 size : T.size = N
 sx : Sx w L X W
 big : W0.heap.size ≤ W.heap.size
 val : ∀ i o d v, i < n1 → l[i]? = some o → Ld i = true → o.dst = some d → look (E u) i = some v → T.getD d undef = v
 rest : ∀ s, (∀ (i : Nat) o, l[i]? = some o → o.dst = some s → Ld i = false) → T.getD s undef = T0.getD s undef
 al : ∀ m A, lookL D.As m = some A → Ld m = true → W0.heap.size ≤ (u m).n ∧ W.heap[(u m).n]? = some A.row
 dis : ∀ m m' A A', lookL D.As m = some A → lookL D.As m' = some A' → Ld m = true → Ld m' = true → m ≠ m' → (u m).n ≠ (u m').n
 rs : ∀ m R, lookL D.Rs m = some R → Ld m = true → R.2 (u m) W
theorem writer_none {k : Nat} (h : writer l k = none) : ∀ (i : Nat) o, l[i]? = some o → o.dst ≠ some k := by
 intro i o ho hd
 have := List.find?_eq_none.1 h i (List.mem_range.2 (List.getElem?_eq_some_iff.1 ho).1)
 rw [ho] at this
 simp [hd] at this
theorem writer_some {k j : Nat} (h : writer l k = some j) : ∃ o, l[j]? = some o ∧ o.dst = some k := by
 have := List.find?_some h
 split at this
 ·rename_i o ho
  split at this
  ·rename_i d hd
   exact ⟨o, ho, hd.trans (congrArg some (Nat.eq_of_beq_eq_true this))⟩
  ·cases this
 ·cases this
structure Plain (l : List Oper) (N : Nat) : Prop where
 back : ∀ (i : Nat) o j, l[i]? = some o → waits o j = true → j < i
 lt : ∀ (i : Nat) o d, l[i]? = some o → o.dst = some d → d < N
 one : ∀ (i j : Nat) o o' d, l[i]? = some o → l[j]? = some o' → o.dst = some d → o'.dst = some d → i = j
theorem plain_of (h : relOps N l = true) : Plain l N := by
 have look : ∀ (i : Nat) (o : Oper), l[i]? = some o → (∀ e ∈ o.after, Region.binds .any e = true → e.on < i) ∧ (∀ d, o.dst = some d → d < N ∧ ∀ j o', j < i → l[j]? = some o' → o'.dst ≠ some d) := by
  intro i o ho
  have hi : i < l.length := (List.getElem?_eq_some_iff.1 ho).1
  have h1 := List.all_eq_true.1 h i (List.mem_range.2 hi)
  rw [ho, Bool.and_eq_true] at h1
  refine ⟨fun e he hbd => ?_, fun d hd => ?_⟩
  ·have h2 := Array.all_eq_true_iff_forall_mem.1 h1.1 e he
   rw [hbd] at h2
   simpa using h2
  ·have h2 := h1.2
   rw [hd] at h2
   simp only [Bool.and_eq_true, decide_eq_true_eq] at h2
   refine ⟨h2.1, fun j o' hj ho' => ?_⟩
   have h3 := List.all_eq_true.1 h2.2 j (List.mem_range.2 hj)
   rw [ho'] at h3
   simpa using h3
 refine ⟨fun i o j ho hw => ?_, fun i o d ho hd => ((look i o ho).2 d hd).1, fun i j o o' d h1 h2 h3 h4 => ?_⟩
 ·obtain ⟨e, he, hb, rfl⟩ := waits_of hw
  exact (look i o ho).1 e he hb
 ·rcases Nat.lt_trichotomy i j with h | h | h
  ·exact absurd h3 ((look j o' h2).2 d h4 |>.2 i o h h1)
  ·exact h
  ·exact absurd h4 ((look i o h1).2 d h3 |>.2 j o' h h2)
theorem GInv.eval {u : Nat → Lt} {Ld : Nat → Bool} (hp : Plain l N) (hF : Fq N T0 F) (h : GInv l N n1 w W0 L X D E T0 u Ld T W) (hs : Shut l Ld) {i : Nat} {o : Oper} (ho : l[i]? = some o) (hi : i < n1) (hL : Ld i = false) (hd : ∀ j, waits o j = true → Ld j = true) :
 (⟨T, []⟩ : Act).eval = opdD (E u) F l i o T := by
 funext x
 cases x with
 | tmp k =>
  show T.getD k undef = _
  simp only [opdD]
  cases e : lookD (E u) F l i o k with
  | none => rfl
  | some v =>
   simp only
   unfold lookD at e
   split at e
   ·rename_i e1
    rw [h.rest k (fun i o ho hd => absurd hd (writer_none e1 i o ho))]
    exact hF.known k v e
   ·rename_i j e1
    obtain ⟨oj, hj, hjd⟩ := writer_some e1
    split at e
    ·rename_i e2
     exact h.val j oj k v (Nat.lt_trans (hp.back i o j ho e2) hi) hj (hd j e2) hjd e
    ·split at e
     ·rename_i e3
      have hLj : Ld j = false := by
       rw [Bool.or_eq_true] at e3
       rcases e3 with e3 | e3
       ·rw [Nat.eq_of_beq_eq_true e3]; exact hL
       ·rw [hj] at e3
        cases hLj : Ld j with
        | false => rfl
        | true => rw [hs j oj hj hLj i e3] at hL; cases hL
      rw [h.rest k (fun i' o' ho' hd' => by rw [hp.one i' j o' oj k ho' hj hd' hjd]; exact hLj)]
      exact hF.known k v e
     ·cases e
 | const v => rfl
 | global g => rfl
 | func f => rfl
theorem GInv.want {u : Nat → Lt} {Ld : Nat → Bool} (hp : Plain l N) (h : GInv l N n1 w W0 L X D E T0 u Ld T W) {i : Nat} {o : Oper} (ho : l[i]? = some o) (hi : i < n1) (hd : ∀ j, waits o j = true → Ld j = true) {b : Bool} (hw : wantD (E u) o = some b) (hdst : ∀ (j : Nat) oj, l[j]? = some oj → j < n1 → oj.dst.isSome = true) :
 Region.wanted o (yielded l.toArray T) = b := by
 unfold wantD at hw
 unfold Region.wanted
 split at hw
 ·rename_i e; rw [e]; simp_all
 ·rename_i j w' e
  rw [e]
  simp only
  have key : ∀ v, waits o j = true → look (E u) j = some v → ∃ d, d < T.size ∧ ((l.toArray[j]?).bind (·.dst)) = some d ∧ T[d]? = some v := by
   intro v hwt hl
   have hji := hp.back i o j ho hwt
   have hjl : j < l.length := Nat.lt_trans hji (List.getElem?_eq_some_iff.1 ho).1
   have hoj : l[j]? = some l[j] := List.getElem?_eq_getElem hjl
   have := hdst j _ hoj (Nat.lt_trans hji hi)
   obtain ⟨d, hdd⟩ := Option.isSome_iff_exists.1 this
   have hlt : d < T.size := by rw [h.size]; exact hp.lt j _ d hoj hdd
   refine ⟨d, hlt, by simp [hjl, hdd], ?_⟩
   have hv := h.val j _ d v (Nat.lt_trans hji hi) hoj (hd j hwt) hdd hl
   rw [Array.getD_eq_getD_getElem?, Array.getElem?_eq_getElem hlt, Option.getD_some] at hv
   rw [Array.getElem?_eq_getElem hlt, hv]
  unfold yielded
  split at hw
  ·rename_i c e1 e2
   obtain ⟨d, -, h1, h2⟩ := key _ e1 e2
   rw [h1]
   simp only [Option.bind_some, h2]
   simp at hw; subst hw
   cases c <;> cases w' <;> rfl
  ·rename_i v hne e1 e2
   obtain ⟨d, -, h1, h2⟩ := key _ e1 e2
   rw [h1]
   simp only [Option.bind_some, h2]
   simp at hw; subst hw
   cases v <;> first | rfl | exact absurd rfl (hne _)
  ·cases hw
def Dw.Stays (D : Dw) : Prop := ∀ m R, lookL D.Rs m = some R → ∀ y W W', Below W.heap.size W W' → R.2 y W → R.2 y W'
theorem also_ne {Ld : Nat → Bool} {i j : Nat} (h : j ≠ i) : also Ld i j = Ld j := by simp [also, h]
theorem GInv.next {u u' : Nat → Lt} {Ld : Nat → Bool} {W W' : World} (hp : Plain l N) (hst : D.Stays) (h : GInv l N n1 w W0 L X D E T0 u Ld T W) (hb : Below W.heap.size W W') {i d : Nat} {o : Oper} (ho : l[i]? = some o) (hL : Ld i = false) (hd : o.dst = some d)
 (hu : ∀ m, m ≠ i → u' m = u m) (hE : ∀ j, j < n1 → Ld j = true → look (E u') j = look (E u) j) (hv : look (E u') i = some v)
 (hA : ∀ A, lookL D.As i = some A → W0.heap.size ≤ (u' i).n ∧ W'.heap[(u' i).n]? = some A.row ∧ ∀ m A', lookL D.As m = some A' → Ld m = true → (u m).n ≠ (u' i).n) (hR : ∀ R, lookL D.Rs i = some R → R.2 (u' i) W') :
 GInv l N n1 w W0 L X D E T0 u' (also Ld i) (T.setIfInBounds d v) W' := by
 have ne : ∀ {m}, Ld m = true → m ≠ i := fun hm e => by rw [e, hL] at hm; cases hm
 have old : ∀ {m}, also Ld i m = true → m ≠ i → Ld m = true := fun hm e => by rwa [also_ne e] at hm
 have hdT : d < T.size := by rw [h.size]; exact hp.lt i o d ho hd
 have gs : ∀ s, s ≠ d → (T.setIfInBounds d v).getD s undef = T.getD s undef := fun s hs => by
  rw [Array.getD_eq_getD_getElem?, Array.getElem?_setIfInBounds, if_neg (Ne.symm hs), ← Array.getD_eq_getD_getElem?]
 refine ⟨by simpa using h.size, h.sx.keep hb, Nat.le_trans h.big hb.size, fun j oj dj vj hj hoj hLj hdj hvj => ?_, fun s hno => ?_, fun m A hm hLm => ?_, fun m m' A A' hm hm' hLm hLm' hne => ?_, fun m R hm hLm => ?_⟩
 ·by_cases e : j = i
  ·subst e
   rw [ho] at hoj; cases hoj
   rw [hd] at hdj; cases hdj
   rw [hv] at hvj; cases hvj
   rw [Array.getD_eq_getD_getElem?, Array.getElem?_setIfInBounds, if_pos rfl, if_pos hdT]; rfl
  ·have hLj' := old hLj e
   rw [gs dj (fun e2 => e (hp.one j i oj o d hoj ho (e2 ▸ hdj) hd))]
   exact h.val j oj dj vj hj hoj hLj' hdj (by rw [← hE j hj hLj']; exact hvj)
 ·have hsd : s ≠ d := fun e => by
   have := hno i o ho (e ▸ hd)
   simp [also] at this
  rw [gs s hsd]
  exact h.rest s (fun j oj hoj hdj => by have := hno j oj hoj hdj; simp [also] at this; exact this.2)
 ·by_cases e : m = i
  ·subst e; obtain ⟨h1, h2, -⟩ := hA A hm; exact ⟨h1, h2⟩
  ·obtain ⟨h1, h2⟩ := h.al m A hm (old hLm e)
   rw [hu m e]
   exact ⟨h1, (hb.block _ (lt_of_block h2)).trans h2⟩
 ·by_cases e : m = i
  ·subst e
   have hne' : m' ≠ m := Ne.symm hne
   rw [hu m' hne']
   exact Ne.symm ((hA A hm).2.2 m' A' hm' (old hLm' hne'))
  ·by_cases e' : m' = i
   ·subst e'
    rw [hu m e]
    exact (hA A' hm').2.2 m A hm (old hLm e)
   ·rw [hu m e, hu m' e']
    exact h.dis m m' A A' hm hm' (old hLm e) (old hLm' e') hne
 ·by_cases e : m = i
  ·subst e; exact hR R hm
  ·rw [hu m e]
   exact hst m R hm _ W W' hb (h.rs m R hm (old hLm e))
def semOp : Op → Bool
 | .slice .. | .sliceToArrayPointer .. | .load .. | .convert .. | .binOp .. | .makeSlice .. | .indexAddr .. | .index .. => true
 | .call c => match c.callee with
  | .builtin _ => true
  | _ => false
 | _ => false
theorem exec_same {o : Oper} {ρ ρ' : Operand → Value} (h : semOp o.op = true) (he : o.op.operands.toList.map ρ = o.op.operands.toList.map ρ') : execOp ρ o = execOp ρ' o := by
 have hm : ∀ x, x ∈ o.op.operands.toList → ρ x = ρ' x := List.map_inj_left.1 he
 unfold execOp
 cases e : o.op <;> rw [e] at h <;> first | cases h | skip
 all_goals rw [e] at hm
 case load t x => simp only; rw [hm x (by simp [Op.operands])]
 case binOp op t x y t' => simp only; rw [hm x (by simp [Op.operands]), hm y (by simp [Op.operands])]
 case convert s d x => simp only; rw [hm x (by simp [Op.operands])]
 case indexAddr t x ix => simp only; rw [hm x (by simp [Op.operands]), hm ix (by simp [Op.operands])]
 case sliceToArrayPointer d x => simp only; rw [hm x (by simp [Op.operands])]
 case index t x ix => simp only; rw [hm x (by simp [Op.operands]), hm ix (by simp [Op.operands])]
 case makeSlice t l c => simp only; rw [hm l (by simp [Op.operands]), hm c (by simp [Op.operands])]
 case slice t x l hh m =>
  simp only
  rw [hm x (by simp [Op.operands])]
  have e1 : l.map ρ = l.map ρ' := by cases l with
   | none => rfl
   | some y => simp only [Option.map_some]; rw [hm y (by simp [Op.operands])]
  have e2 : hh.map ρ = hh.map ρ' := by cases hh with
   | none => rfl
   | some y => simp only [Option.map_some]; rw [hm y (by simp [Op.operands])]
  have e3 : m.map ρ = m.map ρ' := by cases m with
   | none => rfl
   | some y => simp only [Option.map_some]; rw [hm y (by simp [Op.operands])]
  rw [e1, e2, e3]
 case call c =>
  obtain ⟨callee, args, argTypes⟩ := c
  unfold semOp at h
  simp only at h
  split at h
  ·simp only
   have : args.map ρ = args.map ρ' := by
    apply Array.map_congr_left
    intro x hx
    exact hm x (by simp [Op.operands, Call.operands]; exact hx)
   simp only [resolve, this]
  ·cases h
def Dw.Hs (D : Dw) (l : List Oper) (i : Nat) (u : Nat → Lt) (W : World) : Prop :=
 (∀ m A, lookL D.As m = some A → leans l i m = true → W.heap[(u m).n]? = some (A.row)) ∧ ∀ m R, lookL D.Rs m = some R → leans l i m = true → R.2 (u m) W
def Dw.post (D : Dw) (i : Nat) (W : World) : Ending → World → Prop := match look D.ks i with
 | some v => fun e w' => e = .returned v ∧ Below W.heap.size W w'
 | none => match lookL D.Rs i with
  | some R => fun e w' => ∃ y : Lt, e = .returned (R.1 y) ∧ R.2 y w' ∧ Below W.heap.size W w'
  | none => fun _ _ => False
def Dw.ob (D : Dw) (P : Program) (E : (Nat → Lt) → List (Nat × Value)) (F : List (Nat × Value)) (l : List Oper) (i : Nat) (o : Oper) : (Nat → Lt) → World → Prop := fun u W => match callOf (opdD (E u) F l i o #[]) o with
 | some (fid, vs) => Calls P fid vs W (D.post i W)
 | none => ∃ e w', D.post i W e w' ∧ ∃ v, e = .returned v ∧ (execOp (opdD (E u) F l i o #[]) o).run P W = .ok (.value v) w'
inductive Pf (w : World) (L : List (Nat × Obj)) (X : List Xt) (Hs : Nat → (Nat → Lt) → World → Prop) : List (Nat × ((Nat → Lt) → World → Prop)) → Prop
 | nil : Pf w L X Hs []
 | cons (i : Nat) {C : (Nat → Lt) → World → Prop} {l : List (Nat × ((Nat → Lt) → World → Prop))} (h : ∀ u W, Sx w L X W → Hs i u W → C u W) (t : Pf w L X Hs l) : Pf w L X Hs ((i, C) :: l)
theorem Pf.at {Hs : Nat → (Nat → Lt) → World → Prop} {l : List (Nat × ((Nat → Lt) → World → Prop))} (h : Pf w L X Hs l) {i : Nat} {C : (Nat → Lt) → World → Prop} (hm : (i, C) ∈ l) : ∀ u W, Sx w L X W → Hs i u W → C u W := by
 induction h with
 | nil => cases hm
 | cons j h t ih =>
  rcases List.mem_cons.1 hm with e | e
  ·cases e; exact h
  ·exact ih e
def Dw.isCall (D : Dw) (i : Nat) : Bool := (lookL D.As i).isNone && ((look D.ks i).isSome || (lookL D.Rs i).isSome)
def Dw.obs (D : Dw) (P : Program) (E : (Nat → Lt) → List (Nat × Value)) (F : List (Nat × Value)) (l : List Oper) : Nat → List Oper → List (Nat × ((Nat → Lt) → World → Prop))
 | _, [] => []
 | i, o :: os => bif D.isCall i then (i, D.ob P E F l i o) :: D.obs P E F l (i + 1) os else D.obs P E F l (i + 1) os
theorem Dw.obs_mem : ∀ {os : List Oper} {k i : Nat} {o : Oper}, os[i]? = some o → D.isCall (k + i) = true → (k + i, D.ob P E F l (k + i) o) ∈ D.obs P E F l k os
 | [], _, _, _, h, _ => by simp at h
 | x :: os, k, 0, o, h, hc => by
  simp at h; subst h
  simp only [Dw.obs]
  rw [Nat.add_zero] at hc ⊢
  rw [hc]; exact List.mem_cons_self ..
 | x :: os, k, i + 1, o, h, hc => by
  have h' : os[i]? = some o := by simpa using h
  have e : k + (i + 1) = k + 1 + i := by omega
  rw [e] at hc ⊢
  simp only [Dw.obs]
  have := Dw.obs_mem (k := k + 1) h' hc
  cases D.isCall k with
  | true => exact List.mem_cons_of_mem _ this
  | false => exact this
def Dw.res (D : Dw) (u : Nat → Lt) (i : Nat) : Option Value := match look D.ks i with
 | some v => some v
 | none => (lookL D.Rs i).map fun R => R.1 (u i)
def Dw.stL (D : Dw) (P : Program) (L : List (Nat × Obj)) (F : List (Nat × Value)) (l : List Oper) (hs : List Nat) (E : List (Nat × Value)) (g : Nat) (T : Array Value) (i : Nat) (o : Oper) : Option (List (Option Value) × List Nat × Option Obj × Bool) :=
 match wantD E o with
 | none => none
 | some false => some ([look E i], [], none, o.dst.isSome && ((lookL D.As i).isNone && (lookL D.Rs i).isNone))
 | some true => match lookL D.As i with
  | some _ => match symN P g (execOp (opdD E F l i o T) o) with
   | some (.value v, ob) => some ([some v, look E i], [], some ob, o.dst.isSome && (lookL D.Rs i).isNone)
   | _ => none
  | none => match D.isCall i with
   | true => match callOf (opdD E F l i o T) o with
    | some (fid, vs) => some (look E i :: vs.toList.map some, [fid], none, callableF P fid && (o.dst.isSome && ((look D.ks i).isNone || (lookL D.Rs i).isNone)))
    | none => some (look E i :: o.op.operands.toList.map (fun x => some (opdD E F l i o T x)), [], none, semOp o.op && (o.dst.isSome && ((look D.ks i).isNone || (lookL D.Rs i).isNone)))
   | false => match oneD P (opdD E F l i o T) L (hs.getD i 0) o with
    | some (v, bl) => match lookL D.es i with
     | some _ => some ([some v, look E i], bl, none, o.dst.isSome)
     | none => some ([some v], bl, none, o.dst.isSome)
    | none => none
def Dw.stR (D : Dw) (P : Program) (L : List (Nat × Obj)) (F : List (Nat × Value)) (l : List Oper) (hs : List Nat) (E : List (Nat × Value)) (u : Nat → Lt) (g : Nat) (T : Array Value) (i : Nat) (o : Oper) : Option (List (Option Value) × List Nat × Option Obj × Bool) :=
 match wantD E o with
 | none => some ([], [], none, true)
 | some false => some ([some undef], [], none, true)
 | some true => match lookL D.As i with
  | some A => some ([some (A.val g), some (A.val (u i).n)], [], some A.row, true)
  | none => match D.isCall i with
   | true => match callOf (opdD E F l i o #[]) o with
    | some (fid, vs) => some (D.res u i :: vs.toList.map some, [fid], none, true)
    | none => some (D.res u i :: o.op.operands.toList.map (fun x => some (opdD E F l i o #[] x)), [], none, true)
   | false => match oneD P (opdD E F l i o T) L (hs.getD i 0) o with
    | some (_, bl) => match lookL D.es i with
     | some q => some ([some q.1, some q.2], bl.map (fun _ => gAt L (hs.getD i 0)), none, true)
     | none => some ([look E i], bl.map (fun _ => gAt L (hs.getD i 0)), none, true)
    | none => some ([], [], none, true)
def mapI {β : Type} (h : Nat → Oper → β) : Nat → List Oper → List β
 | _, [] => []
 | i, o :: os => h i o :: mapI h (i + 1) os
theorem mapI_at {β : Type} {h h' : Nat → Oper → β} : ∀ {os : List Oper} {k i : Nat} {o : Oper}, mapI h k os = mapI h' k os → os[i]? = some o → h (k + i) o = h' (k + i) o
 | [], _, _, _, _, ho => by simp at ho
 | x :: os, k, 0, o, he, ho => by
  simp at ho; subst ho
  exact (List.cons.inj he).1
 | x :: os, k, i + 1, o, he, ho => by
  have := mapI_at (k := k + 1) (List.cons.inj he).2 (by simpa using ho : os[i]? = some o)
  rwa [show k + 1 + i = k + (i + 1) by omega] at this
theorem oneD_run {ρ : Operand → Value} {j : Nat} {o : Oper} {bl : List Nat} (hS : Sx w L X W) (h : oneD P ρ L j o = some (v, bl)) (hl : bl = bl.map fun _ => gAt L j) : (execOp ρ o).run P W = .ok (.value v) W := by
 unfold oneD at h
 split at h
 ·rename_i v' e
  cases h
  exact aggEq_run e
 ·exact oneR_run hS h hl
structure Dw.Ok (D : Dw) (P : Program) (L : List (Nat × Obj)) (F : List (Nat × Value)) (l : List Oper) (n1 : Nat) (hs : List Nat) (E : (Nat → Lt) → List (Nat × Value)) : Prop where
 steps : ∀ u g T, mapI (D.stL P L F l hs (E u) g T) 0 (l.take n1) = mapI (D.stR P L F l hs (E u) u g T) 0 (l.take n1)
 ind : ∀ u m y, (lookL D.As m).isSome = true ∨ (lookL D.Rs m).isSome = true → ∀ j, j < n1 → j ≠ m → leans l j m = false → look (E (upd u m y)) j = look (E u) j
 eqs : ∀ i q, lookL D.es i = some q → q.1 = q.2
theorem Dw.st_off {hs : List Nat} {E : List (Nat × Value)} {u : Nat → Lt} {i : Nat} {o : Oper} (h : D.stL P L F l hs E g T i o = D.stR P L F l hs E u g T i o) (hw : wantD E o = some false) : o.dst.isSome = true ∧ look E i = some undef ∧ lookL D.As i = none ∧ lookL D.Rs i = none := by
 unfold Dw.stL Dw.stR at h
 rw [hw] at h
 simp only [Option.some.injEq, Prod.mk.injEq, List.cons.injEq, and_true, true_and, Bool.and_eq_true, Option.isNone_iff_eq_none] at h
 exact ⟨h.2.1, h.1, h.2.2⟩
theorem Dw.st_al {hs : List Nat} {E : List (Nat × Value)} {u : Nat → Lt} {i : Nat} {o : Oper} (h : D.stL P L F l hs E g T i o = D.stR P L F l hs E u g T i o) (hw : wantD E o = some true) {A : Mk} (hA : lookL D.As i = some A) :
 o.dst.isSome = true ∧ symN P g (execOp (opdD E F l i o T) o) = some (.value (A.val g), A.row) ∧ look E i = some (A.val (u i).n) ∧ lookL D.Rs i = none := by
 unfold Dw.stL Dw.stR at h
 rw [hw] at h
 simp only [hA] at h
 split at h
 ·rename_i v ob e1
  simp only [Option.some.injEq, Prod.mk.injEq, List.cons.injEq, and_true, true_and, Bool.and_eq_true, Option.isNone_iff_eq_none] at h
  obtain ⟨⟨rfl, h2⟩, rfl, h4, h5⟩ := h
  exact ⟨h4, e1, h2, h5⟩
 ·cases h
theorem Dw.st_call {hs : List Nat} {E : List (Nat × Value)} {u : Nat → Lt} {i : Nat} {o : Oper} (h : D.stL P L F l hs E g T i o = D.stR P L F l hs E u g T i o) (hw : wantD E o = some true) (hC : D.isCall i = true) :
 o.dst.isSome = true ∧ look E i = D.res u i ∧ (look D.ks i = none ∨ lookL D.Rs i = none) ∧ ((∃ fid vs, callOf (opdD E F l i o T) o = some (fid, vs) ∧ callOf (opdD E F l i o #[]) o = some (fid, vs) ∧ callableF P fid = true) ∨ (callOf (opdD E F l i o #[]) o = none ∧ semOp o.op = true ∧ o.op.operands.toList.map (opdD E F l i o T) = o.op.operands.toList.map (opdD E F l i o #[]))) := by
 have hA : lookL D.As i = none := by
  unfold Dw.isCall at hC
  simp only [Bool.and_eq_true, Option.isNone_iff_eq_none] at hC
  exact hC.1
 unfold Dw.stL Dw.stR at h
 rw [hw] at h
 simp only [hA, hC] at h
 cases e : callOf (opdD E F l i o T) o with
 | none =>
  cases e2 : callOf (opdD E F l i o #[]) o with
  | some q2 => rw [e, e2] at h; simp only [Option.some.injEq, Prod.mk.injEq] at h; cases h.2.1
  | none =>
   rw [e, e2] at h
   simp only [Option.some.injEq, Prod.mk.injEq, List.cons.injEq, true_and, Bool.and_eq_true, Bool.or_eq_true, Option.isNone_iff_eq_none] at h
   obtain ⟨⟨h1, h2⟩, h3, h4, h5⟩ := h
   refine ⟨h4, h1, h5, Or.inr ⟨rfl, h3, List.map_inj_left.2 fun x hx => ?_⟩⟩
   exact Option.some.inj (List.map_inj_left.1 h2 x hx)
 | some q =>
  cases e2 : callOf (opdD E F l i o #[]) o with
  | none => rw [e, e2] at h; simp only [Option.some.injEq, Prod.mk.injEq] at h; cases h.2.1
  | some q2 =>
   obtain ⟨fid, vs⟩ := q
   obtain ⟨fid2, vs2⟩ := q2
   rw [e, e2] at h
   simp only [Option.some.injEq, Prod.mk.injEq, List.cons.injEq, and_true, true_and, Bool.and_eq_true, Bool.or_eq_true, Option.isNone_iff_eq_none] at h
   obtain ⟨⟨h1, h2⟩, rfl, h3, h4, h5⟩ := h
   have : vs = vs2 := by
    apply Array.toList_inj.1
    exact (List.map_inj_right (fun _ _ h => Option.some.inj h)).1 h2
   subst this
   exact ⟨h4, h1, h5, Or.inl ⟨_, _, rfl, rfl, h3⟩⟩
def Dw.Eqs (D : Dw) : Prop := ∀ i q, lookL D.es i = some q → q.1 = q.2
theorem Dw.st_one {hs : List Nat} {E : List (Nat × Value)} {u : Nat → Lt} {i : Nat} {o : Oper} (he : D.Eqs) (h : D.stL P L F l hs E g T i o = D.stR P L F l hs E u g T i o) (hw : wantD E o = some true) (hA : lookL D.As i = none) (hC : D.isCall i = false) :
 o.dst.isSome = true ∧ ∃ v bl, oneD P (opdD E F l i o T) L (hs.getD i 0) o = some (v, bl) ∧ look E i = some v ∧ (bl = bl.map fun _ => gAt L (hs.getD i 0)) ∧ lookL D.Rs i = none := by
 have hR : lookL D.Rs i = none := by
  unfold Dw.isCall at hC
  rw [hA] at hC
  simp at hC
  exact hC.2
 unfold Dw.stL Dw.stR at h
 rw [hw] at h
 simp only [hA, hC] at h
 cases e : oneD P (opdD E F l i o T) L (hs.getD i 0) o with
 | none => rw [e] at h; cases h
 | some q =>
  obtain ⟨v, bl⟩ := q
  rw [e] at h
  simp only at h
  cases e2 : lookL D.es i with
  | none =>
   rw [e2] at h
   simp only [Option.some.injEq, Prod.mk.injEq, List.cons.injEq, and_true, true_and] at h
   exact ⟨h.2.2, v, bl, rfl, h.1.symm, h.2.1, hR⟩
  | some q =>
   rw [e2] at h
   simp only [Option.some.injEq, Prod.mk.injEq, List.cons.injEq, and_true, true_and] at h
   exact ⟨h.2.2, v, bl, rfl, by rw [h.1.2, h.1.1, he i q e2], h.2.1, hR⟩
theorem Dw.st_want {hs : List Nat} {E : List (Nat × Value)} {u : Nat → Lt} {i : Nat} {o : Oper} (h : D.stL P L F l hs E g T i o = D.stR P L F l hs E u g T i o) : wantD E o ≠ none := fun e => by
 unfold Dw.stL Dw.stR at h
 rw [e] at h; cases h
theorem Dw.st_dst {hs : List Nat} {E : List (Nat × Value)} {u : Nat → Lt} {i : Nat} {o : Oper} (he : D.Eqs) (h : D.stL P L F l hs E g T i o = D.stR P L F l hs E u g T i o) : o.dst.isSome = true := by
 cases hw : wantD E o with
 | none => exact absurd hw (Dw.st_want h)
 | some b =>
  cases b with
  | false => exact (Dw.st_off h hw).1
  | true =>
   cases hA : lookL D.As i with
   | some A => exact (Dw.st_al h hw hA).1
   | none =>
    cases hC : D.isCall i with
    | true => exact (Dw.st_call h hw hC).1
    | false => exact (Dw.st_one he h hw hA hC).1
theorem call_wpD {ρ : Operand → Value} {o : Oper} {d : Nat} (hρ : (⟨T, []⟩ : Act).eval = ρ) (hb : callOf ρ o = some (fid, vs)) (hc : callableF P fid = true) (hd : o.dst = some d)
 (h : Calls P fid vs W (fun e w' => ∃ v, e = .returned v ∧ K ⟨T.setIfInBounds d v, []⟩ w')) : o.wp P ⟨T, []⟩ W K Q := by
 unfold callOf at hb
 split at hb
 ·rename_i c ho
  obtain ⟨callee, args, argTypes⟩ := c
  simp only at hb
  split at hb
  ·rename_i f2
   simp only [Option.some.injEq, Prod.mk.injEq] at hb
   obtain ⟨rfl, rfl⟩ := hb
   unfold callableF at hc
   split at hc
   ·rename_i fn hfn
    refine wp_call ho hfn hc (by rw [hρ]) ?_
    rw [hd]; exact h
   ·cases hc
  ·cases hb
 ·cases hb
theorem Dw.step (hp : Plain l N) (hst : D.Stays) (hF : Fq N T0 F) {hs : List Nat} (hok : D.Ok P L F l n1 hs E) (hpf : Pf w L X (D.Hs l) (D.obs P E F l 0 (l.take n1))) {u : Nat → Lt} {Ld : Nat → Bool} (h : GInv l N n1 w W0 L X D E T0 u Ld T W) (hsh : Shut l Ld)
 {i : Nat} {o : Oper} (ho : l[i]? = some o) (hi : i < n1) (hL : Ld i = false) (hd : ∀ j, waits o j = true → Ld j = true) (K : Act → World → Prop) (hK : ∀ u' T' W', GInv l N n1 w W0 L X D E T0 u' (also Ld i) T' W' → K ⟨T', []⟩ W') :
 if Region.wanted o (yielded l.toArray T) = true then o.wp P ⟨T, []⟩ W K Q else K ((⟨T, []⟩ : Act).put o.dst undef) W := by
 have hat : ∀ (u : Nat → Lt) g T (j : Nat) oj, l[j]? = some oj → j < n1 → D.stL P L F l hs (E u) g T j oj = D.stR P L F l hs (E u) u g T j oj := fun u g T j oj hj hjn => by
  have := mapI_at (i := j) (hok.steps u g T) (by rw [List.getElem?_take_of_lt hjn]; exact hj)
  rwa [Nat.zero_add] at this
 have hdst : ∀ (j : Nat) oj, l[j]? = some oj → j < n1 → oj.dst.isSome = true := fun j oj hj hjn => Dw.st_dst hok.eqs (hat u 0 #[] j oj hj hjn)
 obtain ⟨d, hdd⟩ := Option.isSome_iff_exists.1 (hdst i o ho hi)
 have hev := h.eval hp hF hsh ho hi hL hd
 have same : ∀ j, j < n1 → Ld j = true → look (E u) j = look (E u) j := fun _ _ _ => rfl
 have hstep := hat u W.heap.size T i o ho hi
 have hput : ∀ v, (⟨T, []⟩ : Act).put o.dst v = ⟨T.setIfInBounds d v, []⟩ := fun v => by rw [hdd]; rfl
 have shutd : ∀ m, leans l i m = true → Ld m = true := fun m hm => leans_in hsh (fun o' j ho' hw => by rw [ho] at ho'; cases ho'; exact hd j hw) hm
 have indep : ∀ y, ((lookL D.As i).isSome = true ∨ (lookL D.Rs i).isSome = true) → ∀ j, j < n1 → Ld j = true → look (E (upd u i y)) j = look (E u) j := fun y hl j hj hLj => by
  refine hok.ind u i y hl j hj (fun e => by rw [e, hL] at hLj; cases hLj) ?_
  cases e : leans l j i with
  | false => rfl
  | true => rw [leans_in hsh (fun o' k ho' hw => hsh j o' ho' hLj k hw) e] at hL; cases hL
 have wsame : ∀ y, ((lookL D.As i).isSome = true ∨ (lookL D.Rs i).isSome = true) → wantD (E (upd u i y)) o = wantD (E u) o := fun y hl => by
  unfold wantD
  cases hg : o.guard with
  | none => rfl
  | some q =>
   obtain ⟨j, b⟩ := q
   simp only
   cases hw : waits o j with
   | false => rfl
   | true => rw [indep y hl j (Nat.lt_trans (hp.back i o j ho hw) hi) (hd j hw)]
 have ud : ∀ y m, m ≠ i → upd u i y m = u m := fun y m hm => by
  unfold upd
  cases e : Nat.beq m i with
  | true => exact absurd (Nat.eq_of_beq_eq_true e) hm
  | false => rfl
 cases e0 : wantD (E u) o with
 | none => exact absurd e0 (Dw.st_want hstep)
 | some b =>
  cases b with
  | false =>
   rw [if_neg (by rw [h.want hp ho hi hd e0 hdst]; decide), hput]
   obtain ⟨-, h1, h2, h3⟩ := Dw.st_off hstep e0
   exact hK u _ _ (h.next hp hst (Below.refl _ _) ho hL hdd (fun _ _ => rfl) same h1 (fun A hA => by rw [h2] at hA; cases hA) (fun R hR => by rw [h3] at hR; cases hR))
  | true =>
   rw [if_pos (h.want hp ho hi hd e0 hdst)]
   cases eA : lookL D.As i with
   | some A =>
    obtain ⟨-, h1, -, h3⟩ := Dw.st_al hstep e0 eA
    have hl : (lookL D.As i).isSome = true ∨ (lookL D.Rs i).isSome = true := Or.inl (by rw [eA]; rfl)
    unfold Oper.wp
    rw [hev, symN_run h1]
    show K ((⟨T, []⟩ : Act).put o.dst _) _
    rw [hput]
    have hb : Below W.heap.size W (W.alloc A.row) := (Below.refl _ _).alloc (Nat.le_refl _) _
    have h2 := (Dw.st_al (hat (upd u i (lt0 none W.heap.size 0)) 0 #[] i o ho hi) ((wsame _ hl).trans e0) eA).2.2.1
    rw [upd_same] at h2
    refine hK (upd u i (lt0 none W.heap.size 0)) _ _ (h.next hp hst hb ho hL hdd (ud _) (indep _ hl) h2 (fun A' hA' => ?_) (fun R hR => by rw [h3] at hR; cases hR))
    rw [eA] at hA'; cases hA'
    rw [upd_same]
    exact ⟨h.big, lastH W _ _ rfl, fun m A' hm hLm => by have := lt_of_block (h.al m A' hm hLm).2; simp only; omega⟩
   | none =>
    cases eC : D.isCall i with
    | true =>
     obtain ⟨-, h1, h6, hway⟩ := Dw.st_call hstep e0 eC
     have hob := hpf.at (Dw.obs_mem (k := 0) (i := i) (o := o) (by rw [List.getElem?_take_of_lt hi]; exact ho) (by rw [Nat.zero_add]; exact eC)) u W h.sx (by
      rw [Nat.zero_add]
      exact ⟨fun m A hm hle => (h.al m A hm (shutd m hle)).2, fun m R hm hle => h.rs m R hm (shutd m hle)⟩)
     rw [Nat.zero_add] at hob
     unfold Dw.ob at hob
     have fin : ∀ e w', D.post i W e w' → ∃ v, e = .returned v ∧ K ⟨T.setIfInBounds d v, []⟩ w' := by
      intro e w' hpost
      unfold Dw.post at hpost
      unfold Dw.res at h1
      cases hv : look D.ks i with
      | some v =>
       rw [hv] at hpost h1
       obtain ⟨rfl, hb⟩ := hpost
       exact ⟨v, rfl, hK u _ _ (h.next hp hst hb ho hL hdd (fun _ _ => rfl) same h1 (fun A hA => by rw [eA] at hA; cases hA) (fun R hR => by
        rcases h6 with h6 | h6
        ·rw [hv] at h6; cases h6
        ·rw [h6] at hR; cases hR))⟩
      | none =>
       rw [hv] at hpost
       cases hR : lookL D.Rs i with
       | some R =>
        rw [hR] at hpost
        obtain ⟨y, rfl, hy, hb⟩ := hpost
        have hl : (lookL D.As i).isSome = true ∨ (lookL D.Rs i).isSome = true := Or.inr (by rw [hR]; rfl)
        have h5 := (Dw.st_call (hat (upd u i y) 0 #[] i o ho hi) ((wsame _ hl).trans e0) eC).2.1
        unfold Dw.res at h5
        rw [hv, hR, Option.map_some, upd_same] at h5
        refine ⟨_, rfl, hK (upd u i y) _ _ (h.next hp hst hb ho hL hdd (ud _) (indep _ hl) h5 (fun A hA => by rw [eA] at hA; cases hA) (fun R' hR' => ?_))⟩
        rw [hR] at hR'; cases hR'
        rw [upd_same]; exact hy
       | none => rw [hR] at hpost; exact hpost.elim
     rcases hway with ⟨fid, vs, h2, h3, h4⟩ | ⟨h3, h4, h5⟩
     ·rw [h3] at hob
      simp only at hob
      exact call_wpD hev h2 h4 hdd (hob.mono fin)
     ·rw [h3] at hob
      simp only at hob
      obtain ⟨e, w', hpost, v, rfl, hr⟩ := hob
      obtain ⟨v', hv', hk⟩ := fin _ _ hpost
      cases hv'
      unfold Oper.wp
      rw [hev, exec_same h4 h5, hr]
      show K ((⟨T, []⟩ : Act).put o.dst v) w'
      rw [hput]; exact hk
    | false =>
     obtain ⟨-, v, bl, h1, h2, h3, h4⟩ := Dw.st_one hok.eqs hstep e0 eA eC
     unfold Oper.wp
     rw [hev, oneD_run h.sx h1 h3]
     show K ((⟨T, []⟩ : Act).put o.dst v) W
     rw [hput]
     exact hK u _ _ (h.next hp hst (Below.refl _ _) ho hL hdd (fun _ _ => rfl) same h2 (fun A hA => by rw [eA] at hA; cases hA) (fun R hR => by rw [h4] at hR; cases hR))
def tailOk (l : List Oper) (n1 : Nat) : Bool := decide (n1 ≤ l.length) && (List.range l.length).all fun m => decide (m < n1) || (List.range m).all fun j => leans l m j
theorem tail_leans {m j : Nat} {o : Oper} (h : tailOk l n1 = true) (hm : n1 ≤ m) (ho : l[m]? = some o) (hj : j < m) : leans l m j = true := by
 unfold tailOk at h
 rw [Bool.and_eq_true] at h
 have h1 := List.all_eq_true.1 h.2 m (List.mem_range.2 (List.getElem?_eq_some_iff.1 ho).1)
 rw [Bool.or_eq_true, decide_eq_true_eq] at h1
 rcases h1 with h1 | h1
 ·omega
 ·exact List.all_eq_true.1 h1 j (List.mem_range.2 hj)
theorem wp_region_tail {id : Nat} {a : Act} (hm : P.follows .mixedOrders = true) (hp : Plain l N) (htail : tailOk l n1 = true) (hst : D.Stays) (hF : Fq N T0 F) (ha : a = ⟨T0, []⟩) {hs : List Nat} (hok : D.Ok P L F l n1 hs E) (hpf : Pf w L X (D.Hs l) (D.obs P E F l 0 (l.take n1))) (hS : Sx w L X W)
 (fin : ∀ u Ld T W', (∀ i, i < n1 → Ld i = true) → (∀ m, n1 ≤ m → m < l.length → Ld m = false) → GInv l N n1 w W L X D E T0 u Ld T W' → wpSeq P l Q (l.drop n1) ⟨T, []⟩ W') : (Code.region id l.toArray true).wp P Q a W := by
 have hle : n1 ≤ l.length := by
  unfold tailOk at htail
  rw [Bool.and_eq_true, decide_eq_true_eq] at htail
  exact htail.1
 have unf : ∀ {k : Nat} {o : Oper} {a : Act} {W : World}, l[k]? = some o → wpSeq P l Q (l.drop k) a W → (∀ K : Act → World → Prop, (∀ a W, wpSeq P l Q (l.drop (k + 1)) a W → K a W) → if Region.wanted o (yielded l.toArray a.tmps) = true then o.wp P a W K Q else K (a.put o.dst undef) W) := by
  intro k o a W ho h K hK
  obtain ⟨h1, h2⟩ := List.getElem?_eq_some_iff.1 ho
  rw [List.drop_eq_getElem_cons h1, h2] at h
  unfold wpSeq at h
  split
  ·rename_i hw; rw [if_pos hw] at h; exact Oper.wp_mono hK h
  ·rename_i hw; rw [if_neg hw] at h; exact hK _ _ h
 refine wp_region_inv l.length (by simp) hm (fun i o ho e he hb => hp.back i o e.on (by simpa using ho) (of_waits he hb rfl))
  (fun Ld a W' => Shut l Ld ∧ ((a.defers = [] ∧ (∀ m, n1 ≤ m → m < l.length → Ld m = false) ∧ ∃ u, GInv l N n1 w W L X D E T0 u Ld a.tmps W') ∨ ((∀ i, i < n1 → Ld i = true) ∧ ∃ k, n1 < k ∧ (∀ m, n1 ≤ m → m < l.length → (Ld m = true ↔ m < k)) ∧ wpSeq P l Q (l.drop k) a W'))) ?_ ?_ ?_
 ·subst ha
  have h0 : Shut l (fun _ => false) := fun k ok _ h => Bool.noConfusion h
  have h1 : GInv l N n1 w W L X D E T0 (fun _ => lt0 none 0 0) (fun _ => false) T0 W.drew := ⟨hF.size, hS.drew, Nat.le_refl _, fun i o d v _ _ h => Bool.noConfusion h, fun _ _ => rfl, fun _ _ _ h => Bool.noConfusion h, fun _ _ _ _ _ _ h => Bool.noConfusion h, fun _ _ _ h => Bool.noConfusion h⟩
  exact ⟨h0, Or.inl ⟨rfl, fun _ _ _ => rfl, _, h1⟩⟩
 ·intro i o ho Ld a W' hI hf hd
  have ho' : l[i]? = some o := by simpa using ho
  have hil : i < l.length := (List.getElem?_eq_some_iff.1 ho').1
  have hd' : ∀ j, waits o j = true → Ld j = true := fun j hj => by
   obtain ⟨e, he, hb, rfl⟩ := waits_of hj
   exact hd e he hb
  obtain ⟨hsh, hI⟩ := hI
  have hsh' : Shut l (also Ld i) := fun j oj hj hLj m hm => by
   by_cases e : j = i
   ·subst e; rw [ho'] at hj; cases hj
    simp [also, hd' m hm]
   ·rw [also_ne e] at hLj
    simp [also, hsh j oj hj hLj m hm]
  have hall' : ∀ j, n1 ≤ i → j < i → Ld j = true := fun j h1 h2 => leans_in hsh (fun o' k hk hw => by rw [ho'] at hk; cases hk; exact hd' k hw) (tail_leans htail h1 ho' h2)
  rcases hI with ⟨hdef, hno, u, hG⟩ | ⟨hall, k, hk, hkm, hw⟩
  ·obtain ⟨T, ds⟩ := a
   obtain rfl : ds = [] := hdef
   by_cases hi : i < n1
   ·refine Dw.step hp hst hF hok hpf hG hsh ho' hi hf hd' _ (fun u' T' W2 hG' => ⟨hsh', Or.inl ⟨rfl, fun m h1 h2 => ?_, u', hG'⟩⟩)
    rw [also_ne (by omega)]; exact hno m h1 h2
   ·have hin : i = n1 := by
     rcases Nat.lt_or_ge n1 i with h1 | h1
     ·have := hall' n1 (by omega) h1
      rw [hno n1 (Nat.le_refl _) (by omega)] at this; cases this
     ·omega
    subst hin
    have hall : ∀ j, j < i → Ld j = true := fun j hj => hall' j (Nat.le_refl _) hj
    refine unf ho' (fin u Ld T W' hall hno hG) _ (fun a2 W2 h2 => ⟨hsh', Or.inr ⟨fun j hj => by rw [also_ne (by omega)]; exact hall j hj, i + 1, by omega, fun m h1 h3 => ?_, h2⟩⟩)
    by_cases e : m = i
    ·subst e; simp [also]
    ·rw [also_ne e, hno m h1 h3]
     constructor
     ·intro h; cases h
     ·intro h; omega
  ·have hni : n1 ≤ i := by
    rcases Nat.lt_or_ge i n1 with h1 | h1
    ·rw [hall i h1] at hf; cases hf
    ·exact h1
   have hki : i = k := by
    have h1 : ¬ i < k := fun h => by rw [(hkm i hni hil).2 h] at hf; cases hf
    rcases Nat.lt_or_ge k i with h2 | h2
    ·have h3 := (hkm k (by omega) (by omega)).1 (hall' k hni h2)
     omega
    ·omega
   subst hki
   refine unf ho' hw _ (fun a2 W2 h2 => ⟨hsh', Or.inr ⟨fun j hj => by rw [also_ne (by omega)]; exact hall j hj, i + 1, by omega, fun m h1 h3 => ?_, h2⟩⟩)
   by_cases e : m = i
   ·subst e; simp [also]
   ·rw [also_ne e, hkm m h1 h3]; omega
 ·intro Ld a W' hall hI
  rcases hI.2 with ⟨hdef, hno, u, hG⟩ | ⟨-, k, hk, hkm, hw⟩
  ·obtain ⟨T, ds⟩ := a
   obtain rfl : ds = [] := hdef
   have : n1 = l.length := by
    rcases Nat.lt_or_ge n1 l.length with h1 | h1
    ·have := hno n1 (Nat.le_refl _) h1
     rw [hall n1 h1] at this; cases this
    ·omega
   have h := fin u Ld T W' (fun i hi => hall i (by omega)) hno hG
   rw [this, List.drop_length] at h
   exact h
  ·have : l.length ≤ k := by
    rcases Nat.lt_or_ge k l.length with h1 | h1
    ·have := (hkm k (by omega) h1).1 (hall k h1); omega
    ·exact h1
   rw [List.drop_eq_nil_of_le this] at hw
   exact hw
def Dw.rows (D : Dw) (u : Nat → Lt) : List (Nat × Obj) := D.As.map fun p => ((u p.1).n, p.2.row)
def keysOk {β : Type} : List (Nat × β) → Bool
 | [] => true
 | (a, _) :: l => (lookL l a).isNone && keysOk l
theorem keys_look {β : Type} : ∀ {l : List (Nat × β)}, keysOk l = true → ∀ {p : Nat × β}, p ∈ l → lookL l p.1 = some p.2
 | (a, v) :: l, h, p, hp => by
  simp only [keysOk, Bool.and_eq_true, Option.isNone_iff_eq_none] at h
  simp only [lookL]
  rcases List.mem_cons.1 hp with rfl | hp
  ·simp
  ·have h1 := keys_look h.2 hp
   cases e : Nat.beq a p.1 with
   | true => rw [Nat.eq_of_beq_eq_true e, h1] at h; cases h.1
   | false => exact h1
theorem keys_pair {β : Type} : ∀ {l : List (Nat × β)}, keysOk l = true → l.Pairwise fun p q => p.1 ≠ q.1
 | [], _ => List.Pairwise.nil
 | (a, v) :: l, h => by
  simp only [keysOk, Bool.and_eq_true, Option.isNone_iff_eq_none] at h
  refine List.Pairwise.cons (fun q hq e => ?_) (keys_pair h.2)
  have := keys_look h.2 hq
  rw [← e, h.1] at this; cases this
theorem GInv.rows {u : Nat → Lt} {Ld : Nat → Bool} (h : GInv l N n1 w W0 L X D E T0 u Ld T W) (hS0 : Sx w L X W0) (hk : keysOk D.As = true) (hall : ∀ p, p ∈ D.As → Ld p.1 = true) : Sx w (D.rows u ++ L) X W := by
 have hal : ∀ p, p ∈ D.As → W0.heap.size ≤ (u p.1).n ∧ W.heap[(u p.1).n]? = some p.2.row := fun p hp => h.al p.1 p.2 (keys_look hk hp) (hall p hp)
 refine ⟨h.sx.below, fun p hp => ?_, ?_, h.sx.ext, fun p hp q hq => ?_, h.sx.bound, h.sx.excl⟩
 ·rcases List.mem_append.1 hp with hp | hp
  ·obtain ⟨q, hq, rfl⟩ := List.mem_map.1 hp
   exact (hal q hq).2
  ·exact h.sx.rows p hp
 ·refine List.pairwise_append.2 ⟨?_, h.sx.apart, fun p hp q hq e => ?_⟩
  ·rw [Dw.rows, List.pairwise_map]
   refine (keys_pair hk).imp_of_mem (fun {p q} hp hq hne => ?_)
   exact h.dis p.1 q.1 p.2 q.2 (keys_look hk hp) (keys_look hk hq) (hall p hp) (hall q hq) hne
  ·obtain ⟨s, hs, rfl⟩ := List.mem_map.1 hp
   have h1 := (hal s hs).1
   have h2 := lt_of_block (hS0.rows q hq)
   simp only at e; omega
 ·rcases List.mem_append.1 hp with hp | hp
  ·obtain ⟨s, hs, rfl⟩ := List.mem_map.1 hp
   intro hf
   have h1 := (hal s hs).1
   have h2 := hS0.bound q hq _ hf
   simp only at h2; omega
  ·exact h.sx.sep p hp q hq
section drw
variable {f : Func} {r : Nat}
theorem rgn_drawn (hd : rdrawn f r = some true) : ∃ id, rgn f r = .region id (rops f r).toArray true := by
 unfold rdrawn at hd
 unfold rops
 split at hd
 ·rename_i id ops d e
  simp only [Option.some.injEq] at hd; subst hd
  rw [e]
  exact ⟨id, by simp⟩
 ·cases hd
def Dw.letters (D : Dw) : List Nat := D.As.map (·.1) ++ D.Rs.map (·.1)
def indF (l : List Oper) (n1 m : Nat) (E : List (Nat × Value)) : List (Option Value) := (List.range n1).map fun j => match Nat.beq j m || leans l j m with
 | true => none
 | false => look E j
def newF (l : List Oper) (n1 : Nat) (E : List (Nat × Value)) (new : List (Nat × Value)) : List (Option Value) := new.map fun p => match writer l p.1 with
 | some j => match decide (j < n1) with
  | true => look E j
  | false => none
 | none => none
def loneD (l : List Oper) (n1 : Nat) (F new : List (Nat × Value)) : Bool := (l.take n1).all fun o => match o.dst with
 | some d => match look F d with
  | none => true
  | some _ => (look new d).isSome
 | none => true
theorem look_isSome {β : Type} : ∀ {l : List (Nat × β)} {m : Nat}, (lookL l m).isSome = true → m ∈ l.map (·.1)
 | (a, v) :: l, m, h => by
  simp only [lookL] at h
  cases e : Nat.beq a m with
  | true => rw [Nat.eq_of_beq_eq_true e]; exact List.mem_cons_self ..
  | false => rw [e] at h; exact List.mem_cons_of_mem _ (look_isSome h)
theorem Cd.drA (n1 : Nat) (hs : List Nat) (D : Dw) (new : (Nat → Lt) → List (Nat × Value)) {L' : (Nat → Lt) → List (Nat × Obj)} {X' : (Nat → Lt) → List Xt} {Cs : List (Nat × ((Nat → Lt) → World → Prop))}
 (hst : D.Stays) (hes : D.Eqs) (hpf : Pf w L X (D.Hs (rops f r)) Cs) (hX : ∀ u W, Sx w (D.rows u ++ L) X W → (∀ m R, lookL D.Rs m = some R → R.2 (u m) W) → Sx w (L' u) (X' u) W)
 (k : ∀ u, (∀ m A, lookL D.As m = some A → w.heap.size ≤ (u m).n) → At P f r n1 Q N (new u ++ F) w (L' u) (X' u))
 (hm : P.follows .mixedOrders = true) (h1 : ((rdrawn f r).getD false && relOps N (rops f r) && tailOk (rops f r) n1 && dstsOk N (rops f r) && keysOk D.As && D.letters.all (fun m => decide (m < n1))) = true)
 (h2 : ∀ u g T, mapI (D.stL P L F (rops f r) hs (D.E P L F (rops f r) n1 hs u) g T) 0 ((rops f r).take n1) = mapI (D.stR P L F (rops f r) hs (D.E P L F (rops f r) n1 hs u) u g T) 0 ((rops f r).take n1))
 (h3 : ∀ u y, D.letters.map (fun m => indF (rops f r) n1 m (D.E P L F (rops f r) n1 hs (upd u m y))) = D.letters.map (fun m => indF (rops f r) n1 m (D.E P L F (rops f r) n1 hs u)))
 (h4 : ∀ u, (newF (rops f r) n1 (D.E P L F (rops f r) n1 hs u) (new u), loneD (rops f r) n1 F (new u)) = ((new u).map (fun p => some p.2), true))
 (h5 : Cs = D.obs P (D.E P L F (rops f r) n1 hs) F (rops f r) 0 ((rops f r).take n1)) : Cd P (rgn f r) Q N F w L X := by
 intro T W hF hS
 simp only [Bool.and_eq_true] at h1
 obtain ⟨⟨⟨⟨⟨hd, hrel⟩, htail⟩, hN⟩, hk⟩, hlt⟩ := h1
 have hd' : rdrawn f r = some true := by
  cases e : rdrawn f r with
  | none => rw [e] at hd; cases hd
  | some b => rw [e] at hd; cases b <;> first | rfl | cases hd
 obtain ⟨id, he⟩ := rgn_drawn hd'
 rw [he]
 have hp := plain_of hrel
 have hok : D.Ok P L F (rops f r) n1 hs (D.E P L F (rops f r) n1 hs) := ⟨h2, fun u m y hl j hj hne hle => by
  have hm : m ∈ D.letters := by
   unfold Dw.letters
   rcases hl with hl | hl
   ·exact List.mem_append_left _ (look_isSome hl)
   ·exact List.mem_append_right _ (look_isSome hl)
  have h := List.map_inj_left.1 (h3 u y) m hm
  have h' := List.map_inj_left.1 h j (List.mem_range.2 hj)
  rw [hle, Bool.or_false] at h'
  have : Nat.beq j m = false := by
   cases e : Nat.beq j m with
   | true => exact absurd (Nat.eq_of_beq_eq_true e) hne
   | false => rfl
  rw [this] at h'
  exact h', hes⟩
 have hle : n1 ≤ (rops f r).length := by
  unfold tailOk at htail
  rw [Bool.and_eq_true, decide_eq_true_eq] at htail
  exact htail.1
 refine wp_region_tail hm hp htail hst hF rfl hok (h5 ▸ hpf) hS (fun u Ld T' W' hall hno hG => ?_)
 have hlet : ∀ m, m ∈ D.letters → m < n1 := fun m hm => of_decide_eq_true (List.all_eq_true.1 hlt m hm)
 refine k u (fun m A hA => ?_) hN T' W' ⟨hG.size, fun s v hs => ?_⟩ (hX u W' (hG.rows hS hk (fun p hp => hall p.1 (hlet _ (List.mem_append_left _ (List.mem_map_of_mem hp))))) (fun m R hR => hG.rs m R hR (hall m (hlet m (List.mem_append_right _ (look_isSome (by rw [hR]; rfl)))))))
 ·exact Nat.le_trans hS.below.size (hG.al m A hA (hall m (hlet m (List.mem_append_left _ (look_isSome (by rw [hA]; rfl)))))).1
 ·have h4' := h4 u
  simp only [Prod.mk.injEq] at h4'
  obtain ⟨hn, hl⟩ := h4'
  rw [look_app] at hs
  cases e : look (new u) s with
  | some v' =>
   rw [e] at hs
   simp only [Option.some.injEq] at hs
   subst hs
   have h := List.map_inj_left.1 hn _ (look_mem _ _ _ e)
   simp only at h
   split at h
   ·rename_i j ej
    split at h
    ·rename_i hj
     have hj := of_decide_eq_true hj
     obtain ⟨oj, hoj, hdj⟩ := writer_some ej
     exact hG.val j oj s v' hj hoj (hall j hj) hdj h
    ·cases h
   ·cases h
  | none =>
   rw [e] at hs
   simp only at hs
   by_cases hw : ∃ (i : Nat) (o : Oper), (rops f r)[i]? = some o ∧ o.dst = some s ∧ i < n1
   ·obtain ⟨i, o, ho, hdo, hi⟩ := hw
    have := List.all_eq_true.1 hl o (List.mem_of_getElem? (by rw [List.getElem?_take_of_lt hi]; exact ho))
    rw [hdo] at this
    simp only [hs, e] at this
    cases this
   ·rw [hG.rest s (fun i o ho hdo => ?_)]
    ·exact hF.known s v hs
    ·refine hno i ?_ (List.getElem?_eq_some_iff.1 ho).1
     rcases Nat.lt_or_ge i n1 with h5 | h5
     ·exact absurd ⟨i, o, ho, hdo, h5⟩ hw
     ·exact h5
theorem Dw.eqs_nil {ks : List (Nat × Value)} {As : List (Nat × Mk)} {Rs : List (Nat × (Lt → Value) × (Lt → World → Prop))} : Dw.Eqs ⟨ks, As, Rs, []⟩ := fun _ _ h => by cases h
theorem Dw.stays_nil (D : Dw) (h : D.Rs = []) : D.Stays := fun m R hR => by rw [h] at hR; cases hR
theorem Cd.dk (n1 : Nat) (hs : List Nat) (ks : List (Nat × Value)) (new : List (Nat × Value)) {Cs : List (Nat × ((Nat → Lt) → World → Prop))} (hpf : Pf w L X (Dw.Hs ⟨ks, [], [], []⟩ (rops f r)) Cs) (k : At P f r n1 Q N (new ++ F) w L X)
 (hm : P.follows .mixedOrders = true := by kernel_rfl) (h1 : ((rdrawn f r).getD false && relOps N (rops f r) && tailOk (rops f r) n1 && dstsOk N (rops f r) && true && true) = true := by kernel_rfl)
 (h2 : ∀ u g T, mapI (Dw.stL ⟨ks, [], [], []⟩ P L F (rops f r) hs (Dw.E ⟨ks, [], [], []⟩ P L F (rops f r) n1 hs u) g T) 0 ((rops f r).take n1) = mapI (Dw.stR ⟨ks, [], [], []⟩ P L F (rops f r) hs (Dw.E ⟨ks, [], [], []⟩ P L F (rops f r) n1 hs u) u g T) 0 ((rops f r).take n1) := by intro u g T; kernel_rfl)
 (h4 : ∀ u, (newF (rops f r) n1 (Dw.E ⟨ks, [], [], []⟩ P L F (rops f r) n1 hs u) new, loneD (rops f r) n1 F new) = (new.map (fun p => some p.2), true) := by intro u; kernel_rfl)
 (h5 : Cs = Dw.obs ⟨ks, [], [], []⟩ P (Dw.E ⟨ks, [], [], []⟩ P L F (rops f r) n1 hs) F (rops f r) 0 ((rops f r).take n1) := by kernel_rfl) : Cd P (rgn f r) Q N F w L X :=
 Cd.drA n1 hs ⟨ks, [], [], []⟩ (fun _ => new) (L' := fun _ => L) (X' := fun _ => X) (Dw.stays_nil _ rfl) Dw.eqs_nil hpf (fun _ _ h _ => h) (fun _ _ => k) hm h1 h2 (fun _ _ => rfl) h4 h5
theorem Cd.da (n1 : Nat) (hs : List Nat) (ks : List (Nat × Value)) (As : List (Nat × Mk)) (new : (Nat → Lt) → List (Nat × Value)) {Cs : List (Nat × ((Nat → Lt) → World → Prop))} (hpf : Pf w L X (Dw.Hs ⟨ks, As, [], []⟩ (rops f r)) Cs)
 (k : ∀ u, (∀ m A, lookL As m = some A → w.heap.size ≤ (u m).n) → At P f r n1 Q N (new u ++ F) w (Dw.rows ⟨ks, As, [], []⟩ u ++ L) X)
 (hm : P.follows .mixedOrders = true := by kernel_rfl) (h1 : ((rdrawn f r).getD false && relOps N (rops f r) && tailOk (rops f r) n1 && dstsOk N (rops f r) && keysOk As && (Dw.letters ⟨ks, As, [], []⟩).all (fun m => decide (m < n1))) = true := by kernel_rfl)
 (h2 : ∀ u g T, mapI (Dw.stL ⟨ks, As, [], []⟩ P L F (rops f r) hs (Dw.E ⟨ks, As, [], []⟩ P L F (rops f r) n1 hs u) g T) 0 ((rops f r).take n1) = mapI (Dw.stR ⟨ks, As, [], []⟩ P L F (rops f r) hs (Dw.E ⟨ks, As, [], []⟩ P L F (rops f r) n1 hs u) u g T) 0 ((rops f r).take n1) := by intro u g T; kernel_rfl)
 (h3 : ∀ u y, (Dw.letters ⟨ks, As, [], []⟩).map (fun m => indF (rops f r) n1 m (Dw.E ⟨ks, As, [], []⟩ P L F (rops f r) n1 hs (upd u m y))) = (Dw.letters ⟨ks, As, [], []⟩).map (fun m => indF (rops f r) n1 m (Dw.E ⟨ks, As, [], []⟩ P L F (rops f r) n1 hs u)) := by intro u y; kernel_rfl)
 (h4 : ∀ u, (newF (rops f r) n1 (Dw.E ⟨ks, As, [], []⟩ P L F (rops f r) n1 hs u) (new u), loneD (rops f r) n1 F (new u)) = ((new u).map (fun p => some p.2), true) := by intro u; kernel_rfl)
 (h5 : Cs = Dw.obs ⟨ks, As, [], []⟩ P (Dw.E ⟨ks, As, [], []⟩ P L F (rops f r) n1 hs) F (rops f r) 0 ((rops f r).take n1) := by kernel_rfl) : Cd P (rgn f r) Q N F w L X :=
 Cd.drA n1 hs ⟨ks, As, [], []⟩ new (Dw.stays_nil _ rfl) Dw.eqs_nil hpf (fun _ _ h _ => h) k hm h1 h2 h3 h4 h5
theorem Cd.dr (n1 : Nat) (hs : List Nat) (ks : List (Nat × Value)) (As : List (Nat × Mk)) (Rs : List (Nat × (Lt → Value) × (Lt → World → Prop))) (es : List (Nat × Value × Value)) (new : (Nat → Lt) → List (Nat × Value)) (L' : (Nat → Lt) → List (Nat × Obj)) (X' : (Nat → Lt) → List Xt) {Cs : List (Nat × ((Nat → Lt) → World → Prop))}
 (hst : Dw.Stays ⟨ks, As, Rs, es⟩) (hes : Dw.Eqs ⟨ks, As, Rs, es⟩) (hpf : Pf w L X (Dw.Hs ⟨ks, As, Rs, es⟩ (rops f r)) Cs) (hX : ∀ u W, Sx w (Dw.rows ⟨ks, As, Rs, es⟩ u ++ L) X W → (∀ m R, lookL Rs m = some R → R.2 (u m) W) → Sx w (L' u) (X' u) W)
 (k : ∀ u, (∀ m A, lookL As m = some A → w.heap.size ≤ (u m).n) → At P f r n1 Q N (new u ++ F) w (L' u) (X' u))
 (hm : P.follows .mixedOrders = true := by kernel_rfl) (h1 : ((rdrawn f r).getD false && relOps N (rops f r) && tailOk (rops f r) n1 && dstsOk N (rops f r) && keysOk As && (Dw.letters ⟨ks, As, Rs, es⟩).all (fun m => decide (m < n1))) = true := by kernel_rfl)
 (h2 : ∀ u g T, mapI (Dw.stL ⟨ks, As, Rs, es⟩ P L F (rops f r) hs (Dw.E ⟨ks, As, Rs, es⟩ P L F (rops f r) n1 hs u) g T) 0 ((rops f r).take n1) = mapI (Dw.stR ⟨ks, As, Rs, es⟩ P L F (rops f r) hs (Dw.E ⟨ks, As, Rs, es⟩ P L F (rops f r) n1 hs u) u g T) 0 ((rops f r).take n1) := by intro u g T; kernel_rfl)
 (h3 : ∀ u y, (Dw.letters ⟨ks, As, Rs, es⟩).map (fun m => indF (rops f r) n1 m (Dw.E ⟨ks, As, Rs, es⟩ P L F (rops f r) n1 hs (upd u m y))) = (Dw.letters ⟨ks, As, Rs, es⟩).map (fun m => indF (rops f r) n1 m (Dw.E ⟨ks, As, Rs, es⟩ P L F (rops f r) n1 hs u)) := by intro u y; kernel_rfl)
 (h4 : ∀ u, (newF (rops f r) n1 (Dw.E ⟨ks, As, Rs, es⟩ P L F (rops f r) n1 hs u) (new u), loneD (rops f r) n1 F (new u)) = ((new u).map (fun p => some p.2), true) := by intro u; kernel_rfl)
 (h5 : Cs = Dw.obs ⟨ks, As, Rs, es⟩ P (Dw.E ⟨ks, As, Rs, es⟩ P L F (rops f r) n1 hs) F (rops f r) 0 ((rops f r).take n1) := by kernel_rfl) : Cd P (rgn f r) Q N F w L X :=
 Cd.drA n1 hs ⟨ks, As, Rs, es⟩ new hst hes hpf hX k hm h1 h2 h3 h4 h5
theorem stays_cons {ks : List (Nat × Value)} {As : List (Nat × Mk)} {Rs : List (Nat × (Lt → Value) × (Lt → World → Prop))} {es : List (Nat × Value × Value)} {m : Nat} {V : Lt → Value} {R : Lt → World → Prop} (h : ∀ y W W', Below W.heap.size W W' → R y W → R y W') (t : Dw.Stays ⟨ks, As, Rs, es⟩) : Dw.Stays ⟨ks, As, (m, V, R) :: Rs, es⟩ := fun m' R' hR => by
 simp only [lookL] at hR
 cases e : Nat.beq m m' with
 | true => rw [e] at hR; simp at hR; subst hR; exact h
 | false => rw [e] at hR; exact t m' R' hR
theorem eqs_nil {ks : List (Nat × Value)} {As : List (Nat × Mk)} {Rs : List (Nat × (Lt → Value) × (Lt → World → Prop))} : Dw.Eqs ⟨ks, As, Rs, []⟩ := fun _ _ h => by cases h
theorem eqs_cons {ks : List (Nat × Value)} {As : List (Nat × Mk)} {Rs : List (Nat × (Lt → Value) × (Lt → World → Prop))} {es : List (Nat × Value × Value)} {m : Nat} {v v' : Value} (h : v = v') (t : Dw.Eqs ⟨ks, As, Rs, es⟩) : Dw.Eqs ⟨ks, As, Rs, (m, v, v') :: es⟩ := fun i q hq => by
 simp only [lookL] at hq
 cases e : Nat.beq m i with
 | true => rw [e] at hq; simp at hq; subst hq; exact h
 | false => rw [e] at hq; exact t i q hq
theorem stays_nil {ks : List (Nat × Value)} {As : List (Nat × Mk)} {es : List (Nat × Value × Value)} : Dw.Stays ⟨ks, As, [], es⟩ := fun m R hR => by cases hR
end drw
theorem Sx.one {o : Obj} (h : w.heap[g]? = some o) : Sx w [(g, o)] [] w where
 below := Below.refl _ _
 rows := fun p hp => by
  rcases List.mem_cons.1 hp with rfl | hp
  ·exact h
  ·cases hp
 apart := List.pairwise_singleton _ _
 ext := fun _ h => by cases h
 sep := fun _ _ _ h => by cases h
 bound := fun _ h => by cases h
 excl := List.Pairwise.nil
theorem Sx.selX (h : Sx w L X W) (is : List Nat) (hx : (X.all fun q => !q.ex) = true) : Sx w L (is.filterMap fun i => X[i]?) W := by
 have hm : ∀ q, q ∈ (is.filterMap fun i => X[i]?) → q ∈ X := fun q hq => by
  obtain ⟨i, -, hi⟩ := List.mem_filterMap.1 hq
  exact List.mem_of_getElem? hi
 have hn : ∀ q, q ∈ X → q.ex = false := fun q hq => by
  have := List.all_eq_true.1 hx q hq
  simpa using this
 refine ⟨h.below, h.rows, h.apart, fun q hq => h.ext q (hm q hq), fun p hp q hq => h.sep p hp q (hm q hq), fun q hq => h.bound q (hm q hq), ?_⟩
 refine List.pairwise_iff_getElem.2 (fun i j hi hj _ he => ?_)
 rw [hn _ (hm _ (List.getElem_mem hi)), hn _ (hm _ (List.getElem_mem hj))] at he
 cases he
def rowsNot (ty : TypeId) (L : List (Nat × Obj)) : Bool := L.all fun p => match p.2 with
 | .cells _ t _ => !(Nat.beq t ty)
 | _ => false
theorem Sx.addR (h : Sx w L X W) {cs : Array Value} {ty : TypeId} {fr : Nat × Nat} (hg : W.heap[g]? = some (.cells cs ty fr)) (hL : rowsNot ty L = true) (hX : (X.all fun q => !q.ex) = true) : Sx w L (xrow g (.cells cs ty fr) :: X) W :=
 h.addX _ hg (fun p hp e => by
  have h1 := h.rows p hp
  have h2 := List.all_eq_true.1 hL p hp
  have e : p.1 = g := e
  rw [e, hg] at h1
  simp only [Option.some.injEq] at h1
  rw [← h1] at h2
  simp at h2) (fun b hb => by
  have hb : b = g := hb
  rw [hb]; exact lt_of_block hg) (fun q hq hx => by
  have := List.all_eq_true.1 hX q hq
  simp only [xrow, Bool.false_or] at hx
  rw [hx] at this; cases this)
end drawn
def val : List Nat → Nat
 | [] => 0
 | d :: ds => d + 65536 * val ds
def Digs (ds : List Nat) : Prop := ∀ d, d ∈ ds → d < 65536
theorem val_append (a b : List Nat) : val (a ++ b) = val a + 65536 ^ a.length * val b := by
 induction a with
 | nil => simp [val]
 | cons d a ih =>
  simp only [List.cons_append, val, ih, List.length_cons, Nat.pow_succ]
  have e : 65536 ^ a.length * 65536 * val b = 65536 * (65536 ^ a.length * val b) := by rw [Nat.mul_comm (65536 ^ a.length), Nat.mul_assoc]
  rw [e]; omega
theorem val_snoc (a : List Nat) (d : Nat) : val (a ++ [d]) = val a + 65536 ^ a.length * d := by simp [val_append, val]
theorem val_lt (a : List Nat) (h : Digs a) : val a < 65536 ^ a.length := by
 induction a with
 | nil => simp [val]
 | cons d a ih =>
  have h1 := h d (by simp)
  have h2 := ih (fun x hx => h x (by simp [hx]))
  simp only [val, List.length_cons, Nat.pow_succ]; omega
def dg (ds : List Nat) (i : Nat) : Nat := ds.getD i 0
theorem dg_end (ds : List Nat) (i : Nat) (h : ds.length ≤ i) : dg ds i = 0 := by
 unfold dg; rw [List.getD_eq_getElem?_getD, List.getElem?_eq_none h]; rfl
theorem digs_at (a : List Nat) (h : Digs a) (i : Nat) : dg a i < 65536 := by
 unfold dg; rw [List.getD_eq_getElem?_getD]
 cases hi : a[i]? with
 | none => simp
 | some d => exact h d (List.mem_of_getElem? hi)
structure Dg (W : World) (b o : Nat) (ds : List Nat) : Prop where
 lt : b < W.heap.size
 cell : ∀ i, i < ds.length → W.cell? ⟨b, o + i, none⟩ = some (.int .u64 ((dg ds i : Nat) : Int))
theorem Dg.keep {W W' : World} {b o : Nat} (h : Dg W b o ds) (hb : Below W.heap.size W W') : Dg W' b o ds :=
 ⟨Nat.lt_of_lt_of_le h.lt hb.size, fun i hi => (hb.cell (p := ⟨b, o + i, none⟩) h.lt).trans (h.cell i hi)⟩
@[reducible] def sv (b o n c : Nat) : Value := .slice (some ⟨b, o, none⟩) n c
theorem at_c (b o c : Nat) (ds : List Nat) (i : Int) (w : World) (h : Dg w b o ds) (hl : ds.length ≤ 1000000) (h0 : 0 ≤ i) :
 Calls Tryz.prog 99 #[sv b o ds.length c, .int .i64 i] w fun e w' => e = .returned (.int .u64 ((dg ds i.toNat : Nat) : Int)) ∧ w = w' := by
 obtain ⟨k, rfl⟩ := Int.eq_ofNat_of_zero_le h0
 have hd := Lib.hid h
 have hll : (ds.length : Int) ≤ 1000000 := by omega
 by_cases hk : k < ds.length
 ·have hc := hd.out.cell k hk
  have hki : (k : Int) < ds.length := by omega
  clear h
  go_enter Tryz.func99, Tryz.ntmps99
  go_wp2
  go_ret
  exact ⟨rfl, rfl⟩
 ·have hki : ¬ (k : Int) < ds.length := by omega
  have hz : dg ds k = 0 := dg_end ds k (by omega)
  have Hz := Lib.hid hz
  clear h hz
  go_enter Tryz.func99, Tryz.ntmps99
  go_wp2
  go_ret
  refine ⟨?_, rfl⟩
  show _ = Ending.returned (.int .u64 ((dg ds k : Nat) : Int))
  rw [Hz.out]; rfl
def valN (ds : List Nat) : Nat → Nat
 | 0 => 0
 | n + 1 => valN ds n + dg ds n * 65536 ^ n
theorem valN_nil (n : Nat) : valN [] n = 0 := by
 induction n with
 | zero => rfl
 | succ n ih => rw [valN, ih, dg_end [] n (by simp)]; simp
theorem valN_cons (d : Nat) (ds : List Nat) (n : Nat) : valN (d :: ds) (n + 1) = d + 65536 * valN ds n := by
 induction n with
 | zero => simp [valN, dg]
 | succ n ih =>
  rw [valN, ih, valN]
  have e : dg (d :: ds) (n + 1) = dg ds n := by simp [dg]
  rw [e, Nat.mul_add, Nat.pow_succ, Nat.mul_comm (65536 ^ n) 65536, Nat.mul_left_comm (dg ds n), Nat.add_assoc]
theorem valN_eq (ds : List Nat) : ∀ n, ds.length ≤ n → valN ds n = val ds := by
 induction ds with
 | nil => intro n _; rw [valN_nil]; rfl
 | cons d ds ih =>
  intro n hn
  obtain ⟨m, rfl⟩ : ∃ m, n = m + 1 := ⟨n - 1, by simp at hn; omega⟩
  rw [valN_cons, ih m (by simp at hn; omega)]; rfl
theorem valN_lt (ds : List Nat) (h : Digs ds) : ∀ n, valN ds n < 65536 ^ n
 | 0 => by simp [valN]
 | n + 1 => by
  have h1 := digs_at ds h n
  have h2 := valN_lt ds h n
  have h3 := Nat.mul_le_mul_right (65536 ^ n) (show dg ds n ≤ 65535 by omega)
  rw [valN, Nat.pow_succ]; omega
def cmp (x y : Nat) : Int := if x < y then -1 else if y < x then 1 else 0
theorem cmp_lt {x y : Nat} (h : x < y) : cmp x y = -1 := by simp [cmp, h]
theorem cmp_gt {x y : Nat} (h : y < x) : cmp x y = 1 := by unfold cmp; rw [if_neg (by omega), if_pos h]
theorem cmp_eq (x : Nat) : cmp x x = 0 := by simp [cmp]
theorem valN_high (a b : List Nat) (k : Nat) : ∀ n, k ≤ n → (∀ j, k ≤ j → j < n → dg a j = dg b j) → (valN a k < valN b k → valN a n < valN b n) ∧ (valN a k = valN b k → valN a n = valN b n) := by
 intro n
 induction n with
 | zero =>
  intro h _
  obtain rfl : k = 0 := by omega
  exact ⟨fun h => h, fun h => h⟩
 | succ n ih =>
  intro hk h
  by_cases e : k = n + 1
  ·subst e; exact ⟨fun h => h, fun h => h⟩
  ·obtain ⟨h1, h2⟩ := ih (by omega) (fun j hj hl => h j hj (by omega))
   have h3 := h n (by omega) (by omega)
   simp only [valN, h3]
   exact ⟨fun hh => by have := h1 hh; omega, fun hh => by rw [h2 hh]⟩
theorem cmp_step (a b : List Nat) (ha : Digs a) (hb : Digs b) (k n : Nat) (hk : k < n) (hn : a.length ≤ n) (hn' : b.length ≤ n) (h : ∀ j, k < j → j < n → dg a j = dg b j) :
 (dg a k < dg b k → cmp (val a) (val b) = -1) ∧ (dg b k < dg a k → cmp (val a) (val b) = 1) := by
 have ea := valN_eq a n hn; have eb := valN_eq b n hn'
 have la := valN_lt a ha k; have lb := valN_lt b hb k
 constructor
 ·intro hlt
  have h3 := Nat.mul_le_mul_right (65536 ^ k) (show dg a k + 1 ≤ dg b k by omega)
  have := (valN_high a b (k + 1) n (by omega) (fun j hj hl => h j (by omega) hl)).1 (by rw [Nat.add_mul] at h3; simp only [valN]; omega)
  exact cmp_lt (by rw [← ea, ← eb]; exact this)
 ·intro hlt
  have h3 := Nat.mul_le_mul_right (65536 ^ k) (show dg b k + 1 ≤ dg a k by omega)
  have := (valN_high b a (k + 1) n (by omega) (fun j hj hl => (h j (by omega) hl).symm)).1 (by rw [Nat.add_mul] at h3; simp only [valN]; omega)
  exact cmp_gt (by rw [← ea, ← eb]; exact this)
theorem cmp_same (a b : List Nat) (n : Nat) (hn : a.length ≤ n) (hn' : b.length ≤ n) (h : ∀ j, j < n → dg a j = dg b j) : cmp (val a) (val b) = 0 := by
 have := (valN_high a b 0 n (by omega) (fun j _ hl => h j hl)).2 rfl
 rw [← valN_eq a n hn, ← valN_eq b n hn', this, cmp_eq]
theorem compare_c (b1 o1 c1 b2 o2 c2 : Nat) (da db : List Nat) (w : World) (h1 : Dg w b1 o1 da) (h2 : Dg w b2 o2 db) (l1 : da.length ≤ 1000000) (l2 : db.length ≤ 1000000) (g1 : Digs da) (g2 : Digs db) :
 Calls Tryz.prog 98 #[sv b1 o1 da.length c1, sv b2 o2 db.length c2] w fun e w' => e = .returned (.int .i64 (cmp (val da) (val db))) ∧ w = w' := by
 obtain ⟨n, hn, hna, hnb, hnm⟩ : ∃ n : Nat, (n : Int) = max (da.length : Int) db.length ∧ da.length ≤ n ∧ db.length ≤ n ∧ n ≤ 1000000 := ⟨max da.length db.length, by omega, by omega, by omega, by omega⟩
 have hll : (da.length : Int) ≤ 1000000 := by omega
 have hll2 : (db.length : Int) ≤ 1000000 := by omega
 have H1 := Lib.hid h1; have H2 := Lib.hid h2; have G1 := Lib.hid g1; have G2 := Lib.hid g2; have HN := Lib.hid hn
 clear h1 h2 g1 g2 hn
 go_enter Tryz.func98, Tryz.ntmps98
 go_wp2
 go_loop [5] (fun v => ∃ k : Nat, v = .int .i64 ((k : Int) - 1) ∧ k ≤ n ∧ Hid (∀ j, k ≤ j → j < n → dg da j = dg db j)) (fun v => (intOf v + 1).toNat)
 case atStart => exact ⟨n, by rw [HN.out], Nat.le_refl _, fun j h1 h2 => by omega⟩
 case round =>
  obtain ⟨k, rfl, hk, hE⟩ := hrel
  by_cases hk0 : k = 0
  ·subst hk0
   have hfin := Lib.hid (cmp_same da db n hna hnb (fun j hj => hE.out j (by omega) hj))
   go_wp2
   go_ret
   exact ⟨by rw [hfin.out]; rfl, rfl⟩
  ·obtain ⟨m, rfl⟩ : ∃ m, k = m + 1 := ⟨k - 1, by omega⟩
   have em : (((m + 1 : Nat) : Int) - 1) = m := by omega
   rw [em]
   obtain ⟨hs1, hs2⟩ := cmp_step da db G1.out G2.out m n (by omega) hna hnb (fun j h1 h2 => hE.out j (by omega) h2)
   have HS1 := Lib.hid hs1; have HS2 := Lib.hid hs2
   have hm : (m : Int) ≤ 1000000 := by omega
   have hm0 : (0 : Int) ≤ m := by omega
   have A1 := Lib.hid (show Calls Tryz.prog 99 #[sv b1 o1 da.length c1, .int .i64 (m : Int)] w fun e w' => e = .returned (.int .u64 ((dg da m : Nat) : Int)) ∧ w = w' from at_c b1 o1 c1 da (m : Int) w H1.out l1 hm0)
   have A2 := Lib.hid (show Calls Tryz.prog 99 #[sv b2 o2 db.length c2, .int .i64 (m : Int)] w fun e w' => e = .returned (.int .u64 ((dg db m : Nat) : Int)) ∧ w = w' from at_c b2 o2 c2 db (m : Int) w H2.out l2 hm0)
   clear em hk0 hs1 hs2
   by_cases hlt : dg da m < dg db m
   ·have hlt' : (dg da m : Int) < dg db m := by omega
    have hr := Lib.hid (HS1.out hlt)
    go_wp2_with (go_at_call 99; (first | (with_reducible refine A1.out.mono ?_) | (with_reducible refine A2.out.mono ?_)); rintro e w' ⟨rfl, rfl⟩)
    go_ret
    exact ⟨by rw [hr.out]; rfl, rfl⟩
   ·have hlt' : ¬ (dg da m : Int) < dg db m := by omega
    by_cases hgt : dg db m < dg da m
    ·have hgt' : (dg db m : Int) < dg da m := by omega
     have hr := Lib.hid (HS2.out hgt)
     go_wp2_with (go_at_call 99; (first | (with_reducible refine A1.out.mono ?_) | (with_reducible refine A2.out.mono ?_)); rintro e w' ⟨rfl, rfl⟩)
     go_ret
     exact ⟨by rw [hr.out]; rfl, rfl⟩
    ·have hgt' : ¬ (dg db m : Int) < dg da m := by omega
     go_wp2_with (go_at_call 99; (first | (with_reducible refine A1.out.mono ?_) | (with_reducible refine A2.out.mono ?_)); rintro e w' ⟨rfl, rfl⟩)
     go_round
     case rel =>
      refine ⟨m, rfl, by omega, fun j h1 h2 => ?_⟩
      by_cases e : j = m
      ·subst e; omega
      ·exact hE.out j (by omega) h2
     case measure => simp [intOf]
end Go.Proofs.YtbaifchbpnmkpaaGreat
