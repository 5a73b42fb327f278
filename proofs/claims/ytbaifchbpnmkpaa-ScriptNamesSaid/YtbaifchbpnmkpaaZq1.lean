/-
  Texts Ri, Num, Wa, Shelf, Wb, Sh, Ws, Wt, By, Fr, Wm, Eq, Dv, St, Fm, Rw, Rr, Sx, Ha, Hb, Hc, Hd, He, Hf, Hr, Hv, Hw, Hy of the claim, merged. (Printed by shake.py.)
-/
import Derived.Orders
import Derived.RegionTactic
import Derived.Below
import Derived.WalkKit
import Derived.Handy
import Derived.Lib.Hide
import Derived.Test.YtbaifchbpnmkpaaRows
import Derived.WalkSpells
import Derived.WalkLawsBesides
import Derived.Laws.Externs
import Derived.BigRegion
import Derived.Shelf.Spec.BitsCarry
import Derived.Shelf.Strconv.Itoa0
import Derived.Shelf.Bits.Mul64
import Derived.Test.YtbaifchbpnmkpaaProg
import Derived.Lib.BitFns
import Derived.Laws.Bits64b
import Derived.BigQuiet
import Derived.LoopTactic
import Derived.Deep.WholeRow
import Derived.ChangeKeysEq
import Derived.Deep.RegionHeld3
import Derived.Deep.DeepCutAuto
import Derived.Deep.MidRow
import Derived.Deep.LoopGhost
import Derived.LoopN
import Derived.Deep.QuietTactic
import Derived.Laws.Bits64
import Derived.Great.BuildSlice
import Derived.StillTailTactics
import Derived.Deep.AppendSrc
import Derived.Laws.OwnMore
import Derived.Laws.AppendOwn
import Derived.Deep.AppendLies
import Derived.Deep.RegionLaw
import Derived.Deep.CutBlock
import Derived.Great.Walk
import Derived.Lib.ConvBytes
import Derived.Lib.BufferRead
import Derived.Laws.BytesArg
import Derived.Laws.StructEq
import Derived.Outline
import Derived.ProofKit
import Derived.OpenShut
import Derived.Carry
import Derived.Lib.SmallJoins
import Derived.Laws.IdiomArrays
import Derived.Deep.Matrix
namespace Go.Proofs.Ytbaifchbpnmkpaa
open Go.RowKit
/-- One operation more. -/
def also (L : Nat → Bool) (i : Nat) : Nat → Bool := fun j => j == i || L j
theorem wp_region_inv {P : Program} {ops : Array Oper} {Q : Exit → Act → World → Prop} {id : Nat} {a : Act} {w : World} (n : Nat) (hn : ops.size = n) (hm : P.follows .mixedOrders = true)
    (hac : ∀ (i : Nat) (o : Oper), ops[i]? = some o → ∀ e ∈ o.after, Region.binds .any e = true → e.on < i) (I : (Nat → Bool) → Act → World → Prop) (h0 : I (fun _ => false) a w.drew)
    (step : ∀ (i : Nat) (o : Oper), ops[i]? = some o → ∀ L a w, I L a w → L i = false → (∀ e ∈ o.after, Region.binds .any e = true → L e.on = true) →
      if Region.wanted o (yielded ops a.tmps) = true then Oper.wp P o a w (I (also L i)) Q else I (also L i) (a.put o.dst undef) w)
    (fin : ∀ L a w, (∀ i, i < n → L i = true) → I L a w → Q .normal a w) : (Code.region id ops true).wp P Q a w := by
  refine wp_region_any hm ?_
  have key : ∀ (fuel : Nat) (listed : Array Bool) (a : Act) (w : World), listed.size = n → (List.range n).countP (fun i => !listed.getD i false) ≤ fuel → I (fun i => listed.getD i false) a w → wpAny P .any ops Q fuel listed a w := by
    have full : ∀ (listed : Array Bool), listed.size = n → Region.ready .any ops listed = [] → ∀ i, i < n → listed.getD i false = true := by
      intro listed hs hr i
      induction i using Nat.strongRecOn with
      | _ i ih =>
        intro hi
        cases hl : listed.getD i false with
        | true => rfl
        | false =>
          have hmem : i ∈ Region.ready .any ops listed := by
            have hsz : i < ops.size := by omega
            refine mem_ready.2 ⟨?_, ops[i], Array.getElem?_eq_getElem hsz, fun e he hbd => ih _ (hac i _ (Array.getElem?_eq_getElem hsz) e he hbd) (by have := hac i _ (Array.getElem?_eq_getElem hsz) e he hbd; omega)⟩
            rw [Array.getD_eq_getD_getElem?] at hl ⊢
            rw [Array.getElem?_eq_getElem (by omega)] at hl ⊢
            exact hl
          rw [hr] at hmem; cases hmem
    intro fuel
    induction fuel with
    | zero =>
      intro listed a w hs hc hI
      have hall : ∀ i, i < n → listed.getD i false = true := by
        intro i hi
        have := List.countP_eq_zero.1 (Nat.le_zero.1 hc) i (List.mem_range.2 hi)
        simpa using this
      refine ⟨?_, fin _ a w hall hI⟩
      refine List.eq_nil_iff_forall_not_mem.2 fun i hi => ?_
      obtain ⟨h1, o, ho, -⟩ := mem_ready.1 hi
      have hlt : i < n := by have := (Array.getElem?_eq_some_iff.1 ho).1; omega
      have := hall i hlt
      rw [Array.getD_eq_getD_getElem?, Array.getElem?_eq_getElem (by omega)] at this h1
      simp at this h1
      rw [this] at h1; cases h1
    | succ fuel ih =>
      intro listed a w hs hc hI
      refine ⟨fun hr => fin _ a w (full listed hs hr) hI, fun i hi => ?_⟩
      obtain ⟨h1, o, ho, hdep⟩ := mem_ready.1 hi
      have hlt : i < n := by have := (Array.getElem?_eq_some_iff.1 ho).1; omega
      refine wpOp_step ho fun K' hK => ?_
      have hf0 : listed.getD i false = false := by
        rw [Array.getD_eq_getD_getElem?, Array.getElem?_eq_getElem (by omega)] at h1 ⊢; exact h1
      have st := step i o ho _ a w hI hf0 hdep
      have hset : (fun j => (listed.setIfInBounds i true).getD j false) = also (fun j => listed.getD j false) i := by
        funext j
        unfold also
        simp only [Array.getD_eq_getD_getElem?, Array.getElem?_setIfInBounds]
        by_cases e : i = j
        · subst e; simp [hs, hlt]
        · simp [e, show ¬ j = i from fun h => e h.symm]
      have hcount : (List.range n).countP (fun j => !(listed.setIfInBounds i true).getD j false) ≤ fuel := by
        have hf : listed.getD i false = false := by
          rw [Array.getD_eq_getD_getElem?, Array.getElem?_eq_getElem (by omega)] at h1 ⊢; exact h1
        have hlt2 : (List.range n).countP (fun j => !(listed.setIfInBounds i true).getD j false) < (List.range n).countP (fun j => !listed.getD j false) := by
          have h3 := congrFun hset
          simp only [h3]
          clear h3 hset
          have : ∀ l : List Nat, i ∈ l → l.countP (fun j => !also (fun j => listed.getD j false) i j) < l.countP (fun j => !listed.getD j false) := by
            intro l
            induction l with
            | nil => intro h; cases h
            | cons x l ihl =>
              intro h
              have hle : l.countP (fun j => !also (fun j => listed.getD j false) i j) ≤ l.countP (fun j => !listed.getD j false) := List.countP_mono_left fun y _ hy => by simp [also] at hy ⊢; exact hy.2
              by_cases e : x = i
              · subst e
                rw [List.countP_cons, List.countP_cons]; simp only [also, beq_self_eq_true, Bool.true_or, hf]; simp only [Bool.not_true, Bool.false_eq_true, if_false, Bool.not_false, if_true]
                exact Nat.lt_succ_of_le hle
              · have hm2 : i ∈ l := by rcases List.mem_cons.1 h with h | h; exact absurd h.symm e; exact h
                have := ihl hm2
                rw [List.countP_cons, List.countP_cons]
                have e2 : (also (fun j => listed.getD j false) i x) = listed.getD x false := by simp [also, e]
                rw [e2]; omega
          exact this _ (List.mem_range.2 hlt)
        omega
      have goK : ∀ a' w', I (also (fun j => listed.getD j false) i) a' w' → K' a' w' := fun a' w' h => hK a' w' (ih _ a' w' (by simpa using hs) hcount (by rw [hset]; exact h))
      split
      · rename_i hw; rw [if_pos hw] at st; exact Oper.wp_mono goK st
      · rename_i hw; rw [if_neg hw] at st; exact goK _ _ st
  refine key _ _ _ _ (by simp [hn]) ?_ ?_
  · rw [hn]; exact Nat.le_trans (List.countP_le_length) (by simp)
  · have : (fun i => (Array.replicate ops.size false).getD i false) = fun _ => false := by
      funext i
      rw [Array.getD_eq_getD_getElem?, Array.getElem?_replicate]; split <;> rfl
    rw [this]; exact h0
/-- Each edge that binds goes back, and nothing is guarded. -/
def plainOps (ops : List Oper) : Bool := (List.range ops.length).all fun i => match ops[i]? with | some o => o.guard.isNone && o.after.all (fun e => !Region.binds .any e || decide (e.on < i)) | none => true
/-- The steps, one for each operation from number i on. -/
def Steps (P : Program) (I : (Nat → Bool) → Act → World → Prop) (Q : Exit → Act → World → Prop) : Nat → List Oper → Prop
  | _, [] => True
  | i, o :: rest => (∀ L a w, I L a w → L i = false → (∀ e ∈ o.after, Region.binds .any e = true → L e.on = true) → Oper.wp P o a w (I (also L i)) Q) ∧ Steps P I Q (i + 1) rest
theorem Steps.at_ {P : Program} {I : (Nat → Bool) → Act → World → Prop} {Q : Exit → Act → World → Prop} : ∀ {l : List Oper} {i : Nat}, Steps P I Q i l → ∀ (j : Nat) (o : Oper), l[j]? = some o →
    ∀ L a w, I L a w → L (i + j) = false → (∀ e ∈ o.after, Region.binds .any e = true → L e.on = true) → Oper.wp P o a w (I (also L (i + j))) Q
  | [], _, _, j, o, h => by simp at h
  | x :: l, i, hs, 0, o, h => by
    simp at h; subst h
    exact hs.1
  | x :: l, i, hs, j + 1, o, h => by
    have := Steps.at_ hs.2 j o (by simpa using h)
    rw [show i + 1 + j = i + (j + 1) by omega] at this
    exact this
theorem wp_region_steps {P : Program} {l : List Oper} {Q : Exit → Act → World → Prop} {id : Nat} {a : Act} {w : World} (hm : P.follows .mixedOrders = true) (hp : plainOps l = true)
    (I : (Nat → Bool) → Act → World → Prop) (h0 : I (fun _ => false) a w.drew) (step : Steps P I Q 0 l)
    (fin : ∀ L a w, (∀ i, i < l.length → L i = true) → I L a w → Q .normal a w) : (Code.region id l.toArray true).wp P Q a w := by
  have look : ∀ (i : Nat) (o : Oper), l.toArray[i]? = some o → o.guard.isNone = true ∧ ∀ e ∈ o.after, Region.binds .any e = true → e.on < i := by
    intro i o ho
    have ho' : l[i]? = some o := by simpa using ho
    have hi : i < l.length := (List.getElem?_eq_some_iff.1 ho').1
    have h1 := List.all_eq_true.1 hp i (List.mem_range.2 hi)
    rw [ho', Bool.and_eq_true] at h1
    refine ⟨h1.1, fun e he hbd => ?_⟩
    have h2 := Array.all_eq_true_iff_forall_mem.1 h1.2 e he
    rw [hbd] at h2
    simpa using h2
  refine wp_region_inv l.length (by simp) hm (fun i o ho => (look i o ho).2) I h0 (fun i o ho L a w hI hf hd => ?_) fin
  have hg : o.guard = none := by have := (look i o ho).1; simpa using this
  rw [if_pos (by simp [Region.wanted, hg])]
  have := step.at_ i o (by simpa using ho) L a w hI (by rw [Nat.zero_add]; exact hf) hd
  rwa [Nat.zero_add] at this
theorem also_of {L : Nat → Bool} {j k : Nat} (hk : k ≠ j) : also L j k = L k := by simp [also, hk]
theorem also_self {L : Nat → Bool} {j : Nat} : also L j j = true := by simp [also]
end Go.Proofs.Ytbaifchbpnmkpaa
namespace Go.Proofs.Ytbaifchbpnmkpaa
open Go.RowKit
/-- Limb i of a number. -/
def limb (n i : Nat) : Nat := n / 18446744073709551616 ^ i % 18446744073709551616
theorem limb_lt (n i : Nat) : limb n i < 18446744073709551616 := Nat.mod_lt _ (by decide)
theorem limb_bd (n i : Nat) : (0 : Int) ≤ (limb n i : Int) ∧ (limb n i : Int) < 18446744073709551616 := by
  have := limb_lt n i; omega
theorem limb0 (n : Nat) : limb n 0 = n % 18446744073709551616 := by simp [limb]
theorem limb1 (n : Nat) : limb n 1 = n / 18446744073709551616 % 18446744073709551616 := by simp [limb]
theorem limb2 (n : Nat) : limb n 2 = n / 340282366920938463463374607431768211456 % 18446744073709551616 := by simp [limb]
theorem limb3 (n : Nat) : limb n 3 = n / 6277101735386680763835789423207666416102355444464034512896 % 18446744073709551616 := by simp [limb]
/-- 2 to the power of 256. -/
def W256 : Nat := 115792089237316195423570985008687907853269984665640564039457584007913129639936
theorem W256_eq : W256 = 115792089237316195423570985008687907853269984665640564039457584007913129639936 := rfl
theorem W256_pow : W256 = 2 ^ 256 := by decide
/-- A number is its limbs. -/
theorem limbs_sum (n : Nat) (h : n < W256) : n = limb n 0 + 18446744073709551616 * limb n 1 + 340282366920938463463374607431768211456 * limb n 2 + 6277101735386680763835789423207666416102355444464034512896 * limb n 3 := by
  rw [limb0, limb1, limb2, limb3]; rw [W256_eq] at h; omega
/-- The model's value of a number of 256 bits. -/
@[reducible] def wv (n : Nat) : Value := .agg #[.int .u64 (limb n 0 : Nat), .int .u64 (limb n 1 : Nat), .int .u64 (limb n 2 : Nat), .int .u64 (limb n 3 : Nat)]
/-- Four numbers that are a number's limbs. -/
theorem wv_of (z : Nat) (hz : z < W256) (a b c d : Int) (ha : 0 ≤ a ∧ a < 18446744073709551616) (hb : 0 ≤ b ∧ b < 18446744073709551616) (hc : 0 ≤ c ∧ c < 18446744073709551616)
    (h : (z : Int) = a + 18446744073709551616 * b + 340282366920938463463374607431768211456 * c + 6277101735386680763835789423207666416102355444464034512896 * d) :
    Value.agg #[.int .u64 a, .int .u64 b, .int .u64 c, .int .u64 d] = wv z := by
  have e0 : (limb z 0 : Int) = a := by rw [limb0]; rw [W256_eq] at hz; omega
  have e1 : (limb z 1 : Int) = b := by rw [limb1]; rw [W256_eq] at hz; omega
  have e2 : (limb z 2 : Int) = c := by rw [limb2]; rw [W256_eq] at hz; omega
  have e3 : (limb z 3 : Int) = d := by rw [limb3]; rw [W256_eq] at hz; omega
  simp only [wv, e0, e1, e2, e3]
/-- Two numbers with the same limbs are one. -/
theorem limb_ext {x y : Nat} (hx : x < W256) (hy : y < W256) (h0 : limb x 0 = limb y 0) (h1 : limb x 1 = limb y 1) (h2 : limb x 2 = limb y 2) (h3 : limb x 3 = limb y 3) : x = y := by
  rw [limbs_sum x hx, limbs_sum y hy, h0, h1, h2, h3]
theorem heapAt (w : World) (o : Obj) (k : Nat) : (w.alloc o).heap[k]? = if k = w.heap.size then some o else w.heap[k]? := by
  show (w.heap.push o)[k]? = _
  rw [Array.getElem?_push]
/-- One step more. -/
theorem below_step {w W w' : World} (h : Below w.heap.size w W) (hb : Below W.heap.size W w') : Below w.heap.size w w' := h.trans (hb.mono h.size)
/-- What a call that answers a number says. -/
def RetW (w : World) (Q : Nat → Prop) (e : Ending) (w' : World) : Prop := ∃ z, z < W256 ∧ Q z ∧ e = .returned (wv z) ∧ Below w.heap.size w w'
/-- .. and a bool. -/
def RetWB (w : World) (Q : Nat → Bool → Prop) (e : Ending) (w' : World) : Prop := ∃ z b, z < W256 ∧ Q z b ∧ e = .returned (.tuple #[wv z, .bool b]) ∧ Below w.heap.size w w'
/-- Two numbers. -/
def RetWW (w : World) (Q : Nat → Nat → Prop) (e : Ending) (w' : World) : Prop := ∃ y z, y < W256 ∧ z < W256 ∧ Q y z ∧ e = .returned (.tuple #[wv y, wv z]) ∧ Below w.heap.size w w'
/-- A bool. -/
def RetB (w : World) (b : Bool) (e : Ending) (w' : World) : Prop := e = .returned (.bool b) ∧ Below w.heap.size w w'
end Go.Proofs.Ytbaifchbpnmkpaa
namespace Go.Proofs.Ytbaifchbpnmkpaa
open Go.RowKit
theorem add64 (x y c : Int) (h1 : 0 ≤ x) (h2 : 0 ≤ y) (h3 : 0 ≤ c) (hc : c ≤ 1) :
    ∃ s d : Int, (s = (x + y + c) % 18446744073709551616 ∧ d = (x + y + c) / 18446744073709551616) ∧ ∀ w, (callFunc 85 #[.int .u64 x, .int .u64 y, .int .u64 c]).run Try.prog w =
      .ok (.value (.tuple #[.int .u64 s, .int .u64 d])) w := by
  refine ⟨_, _, ⟨rfl, rfl⟩, fun w => ?_⟩
  obtain ⟨x, rfl⟩ := Int.eq_ofNat_of_zero_le h1
  obtain ⟨y, rfl⟩ := Int.eq_ofNat_of_zero_le h2
  obtain ⟨c, rfl⟩ := Int.eq_ofNat_of_zero_le h3
  rw [run_callFunc_extern Try.func85 (by kernel_rfl) (by kernel_rfl) (by kernel_rfl) (e := add64Entry) (by kernel_rfl), run_add64 x y c (by omega) (by omega) (by omega) (by omega)]
  simp only [Result.andThen]
theorem sub64 (x y c : Int) (h1 : 0 ≤ x) (h1' : x < 18446744073709551616) (h2 : 0 ≤ y) (h2' : y < 18446744073709551616) (h3 : 0 ≤ c) (hc : c ≤ 1) :
    ∃ s d : Int, (0 ≤ s ∧ s < 18446744073709551616 ∧ 0 ≤ d ∧ d ≤ 1 ∧ s = x - y - c + 18446744073709551616 * d) ∧ ∀ w, (callFunc 86 #[.int .u64 x, .int .u64 y, .int .u64 c]).run Try.prog w =
      .ok (.value (.tuple #[.int .u64 s, .int .u64 d])) w := by
  obtain ⟨x, rfl⟩ := Int.eq_ofNat_of_zero_le h1
  obtain ⟨y, rfl⟩ := Int.eq_ofNat_of_zero_le h2
  obtain ⟨c, rfl⟩ := Int.eq_ofNat_of_zero_le h3
  have e := run_sub64 (P := Try.prog) x y c (by omega)
  refine ⟨((x + 18446744073709551616 - y - c) % 18446744073709551616 : Nat), ((if x < y + c then 1 else 0 : Nat) : Int), ?_, fun w => ?_⟩
  · split <;> omega
  · rw [run_callFunc_extern Try.func86 (by kernel_rfl) (by kernel_rfl) (by kernel_rfl) (e := sub64Entry) (by kernel_rfl), e]
    rfl
set_option maxHeartbeats 400000 in
theorem of_c (a : Int) (h0 : 0 ≤ a) (h1 : a < 18446744073709551616) (w : World) :
    Calls Try.prog 69 #[.int .u64 a] w (RetW w (fun z => z = a.toNat)) := by
  obtain ⟨n, rfl⟩ := Int.eq_ofNat_of_zero_le h0
  go_enter Try.func69, Try.ntmps69
  go_wp2
  go_returns
  refine ⟨n, by rw [W256_eq]; omega, by omega, ?_, by go_grown⟩
  rw [wv_of n (by rw [W256_eq]; omega)] <;> omega
/-- A word. -/
def Wd (x : Int) : Prop := 0 ≤ x ∧ x < 18446744073709551616
/-- Four words as a number. -/
def sum4 (a b c d : Int) : Int := a + 18446744073709551616 * b + 340282366920938463463374607431768211456 * c + 6277101735386680763835789423207666416102355444464034512896 * d
/-- What Add and Sub leave: four words and a carry. -/
def Ret4 (w : World) (Q : Int → Int → Prop) (e : Ending) (w' : World) : Prop := ∃ s0 s1 s2 s3 c : Int, Wd s0 ∧ Wd s1 ∧ Wd s2 ∧ Wd s3 ∧ 0 ≤ c ∧ c ≤ 1 ∧ Q (sum4 s0 s1 s2 s3) c ∧
  e = .returned (.tuple #[.agg #[.int .u64 s0, .int .u64 s1, .int .u64 s2, .int .u64 s3], .bool (c == 1)]) ∧ Below w.heap.size w w'
set_option maxHeartbeats 800000 in
theorem add_w (a0 a1 a2 a3 b0 b1 b2 b3 : Int) (w : World) (ha0 : Wd a0) (ha1 : Wd a1) (ha2 : Wd a2) (ha3 : Wd a3) (hb0 : Wd b0) (hb1 : Wd b1) (hb2 : Wd b2) (hb3 : Wd b3) :
    Calls Try.prog 68 #[.agg #[.int .u64 a0, .int .u64 a1, .int .u64 a2, .int .u64 a3], .agg #[.int .u64 b0, .int .u64 b1, .int .u64 b2, .int .u64 b3]] w
      (Ret4 w fun s c => s + 115792089237316195423570985008687907853269984665640564039457584007913129639936 * c = sum4 a0 a1 a2 a3 + sum4 b0 b1 b2 b3) := by
  unfold Wd at *
  obtain ⟨s0, c0, H0, f0⟩ := add64 a0 b0 0 (by omega) (by omega) (by omega) (by omega)
  obtain ⟨s1, c1, H1, f1⟩ := add64 a1 b1 c0 (by omega) (by omega) (by omega) (by omega)
  obtain ⟨s2, c2, H2, f2⟩ := add64 a2 b2 c1 (by omega) (by omega) (by omega) (by omega)
  obtain ⟨s3, c3, H3, f3⟩ := add64 a3 b3 c2 (by omega) (by omega) (by omega) (by omega)
  have G : Hid (Wd s0 ∧ Wd s1 ∧ Wd s2 ∧ Wd s3 ∧ 0 ≤ c3 ∧ c3 ≤ 1 ∧ sum4 s0 s1 s2 s3 + 115792089237316195423570985008687907853269984665640564039457584007913129639936 * c3 = sum4 a0 a1 a2 a3 + sum4 b0 b1 b2 b3) := by
    unfold Hid Wd sum4; omega
  clear H0 H1 H2 H3
  go_enter Try.func68, Try.ntmps68
  go_wp2
  refine wp_loop_rounds 5 ?_
  rw [rounds_succ]; go_wp2; go_region; go_wp2
  rw [rounds_succ]; go_wp2; go_region; go_wp2
  rw [rounds_succ]; go_wp2; go_region; go_wp2
  rw [rounds_succ]; go_wp2; go_region; go_wp2
  rw [rounds_succ]; go_wp2
  go_returns
  obtain ⟨g0, g1, g2, g3, g4, g5, g6⟩ := G.out
  exact ⟨s0, s1, s2, s3, c3, g0, g1, g2, g3, g4, g5, g6, rfl, by go_grown⟩
set_option maxHeartbeats 800000 in
theorem sub_w (a0 a1 a2 a3 b0 b1 b2 b3 : Int) (w : World) (ha0 : Wd a0) (ha1 : Wd a1) (ha2 : Wd a2) (ha3 : Wd a3) (hb0 : Wd b0) (hb1 : Wd b1) (hb2 : Wd b2) (hb3 : Wd b3) :
    Calls Try.prog 75 #[.agg #[.int .u64 a0, .int .u64 a1, .int .u64 a2, .int .u64 a3], .agg #[.int .u64 b0, .int .u64 b1, .int .u64 b2, .int .u64 b3]] w
      (Ret4 w fun s c => s = sum4 a0 a1 a2 a3 - sum4 b0 b1 b2 b3 + 115792089237316195423570985008687907853269984665640564039457584007913129639936 * c) := by
  unfold Wd at *
  obtain ⟨s0, c0, H0, f0⟩ := sub64 a0 b0 0 (by omega) (by omega) (by omega) (by omega) (by omega) (by omega)
  obtain ⟨s1, c1, H1, f1⟩ := sub64 a1 b1 c0 (by omega) (by omega) (by omega) (by omega) (by omega) (by omega)
  obtain ⟨s2, c2, H2, f2⟩ := sub64 a2 b2 c1 (by omega) (by omega) (by omega) (by omega) (by omega) (by omega)
  obtain ⟨s3, c3, H3, f3⟩ := sub64 a3 b3 c2 (by omega) (by omega) (by omega) (by omega) (by omega) (by omega)
  have G : Hid (Wd s0 ∧ Wd s1 ∧ Wd s2 ∧ Wd s3 ∧ 0 ≤ c3 ∧ c3 ≤ 1 ∧ sum4 s0 s1 s2 s3 = sum4 a0 a1 a2 a3 - sum4 b0 b1 b2 b3 + 115792089237316195423570985008687907853269984665640564039457584007913129639936 * c3) := by
    unfold Hid Wd sum4; omega
  clear H0 H1 H2 H3
  go_enter Try.func75, Try.ntmps75
  go_wp2
  refine wp_loop_rounds 5 ?_
  rw [rounds_succ]; go_wp2; go_region; go_wp2
  rw [rounds_succ]; go_wp2; go_region; go_wp2
  rw [rounds_succ]; go_wp2; go_region; go_wp2
  rw [rounds_succ]; go_wp2; go_region; go_wp2
  rw [rounds_succ]; go_wp2
  go_returns
  obtain ⟨g0, g1, g2, g3, g4, g5, g6⟩ := G.out
  exact ⟨s0, s1, s2, s3, c3, g0, g1, g2, g3, g4, g5, g6, rfl, by go_grown⟩
theorem wd_limb (n i : Nat) : Wd (limb n i : Nat) := limb_bd n i
theorem sum4_limbs (n : Nat) (h : n < W256) : sum4 (limb n 0 : Nat) (limb n 1 : Nat) (limb n 2 : Nat) (limb n 3 : Nat) = n := by
  have := limbs_sum n h
  unfold sum4; omega
theorem sum4_bd {a b c d : Int} (ha : Wd a) (hb : Wd b) (hc : Wd c) (hd : Wd d) : 0 ≤ sum4 a b c d ∧ sum4 a b c d < 115792089237316195423570985008687907853269984665640564039457584007913129639936 := by
  unfold Wd at *; unfold sum4; omega
/-- Add. -/
theorem add_c (x y : Nat) (hx : x < W256) (hy : y < W256) (w : World) :
    Calls Try.prog 68 #[wv x, wv y] w (RetWB w fun z b => z = (x + y) % W256 ∧ b = decide (W256 ≤ x + y)) := by
  refine (add_w _ _ _ _ _ _ _ _ w (wd_limb x 0) (wd_limb x 1) (wd_limb x 2) (wd_limb x 3) (wd_limb y 0) (wd_limb y 1) (wd_limb y 2) (wd_limb y 3)).mono ?_
  rintro e w' ⟨s0, s1, s2, s3, c, h0, h1, h2, h3, hc0, hc1, hQ, he, hb⟩
  rw [sum4_limbs x hx, sum4_limbs y hy] at hQ
  have hs := sum4_bd h0 h1 h2 h3
  have hc : c = 0 ∨ c = 1 := by omega
  refine ⟨(x + y) % W256, decide (W256 ≤ x + y), Nat.mod_lt _ (by decide), ⟨rfl, rfl⟩, ?_, hb⟩
  rw [he, wv_of ((x + y) % W256) (Nat.mod_lt _ (by decide)) s0 s1 s2 s3 h0 h1 h2]
  · congr 4
    rw [W256_eq]
    rcases hc with rfl | rfl
    · have : ¬ (115792089237316195423570985008687907853269984665640564039457584007913129639936 ≤ x + y) := by omega
      simp [this]
    · have : 115792089237316195423570985008687907853269984665640564039457584007913129639936 ≤ x + y := by omega
      simp [this]
  · show _ = sum4 s0 s1 s2 s3
    rw [W256_eq] at *
    omega
/-- Sub. -/
theorem sub_c (x y : Nat) (hx : x < W256) (hy : y < W256) (w : World) :
    Calls Try.prog 75 #[wv x, wv y] w (RetWB w fun z b => z = (x + W256 - y) % W256 ∧ b = decide (x < y)) := by
  refine (sub_w _ _ _ _ _ _ _ _ w (wd_limb x 0) (wd_limb x 1) (wd_limb x 2) (wd_limb x 3) (wd_limb y 0) (wd_limb y 1) (wd_limb y 2) (wd_limb y 3)).mono ?_
  rintro e w' ⟨s0, s1, s2, s3, c, h0, h1, h2, h3, hc0, hc1, hQ, he, hb⟩
  rw [sum4_limbs x hx, sum4_limbs y hy] at hQ
  have hs := sum4_bd h0 h1 h2 h3
  have hc : c = 0 ∨ c = 1 := by omega
  refine ⟨(x + W256 - y) % W256, decide (x < y), Nat.mod_lt _ (by decide), ⟨rfl, rfl⟩, ?_, hb⟩
  rw [W256_eq] at *
  rw [he, wv_of ((x + 115792089237316195423570985008687907853269984665640564039457584007913129639936 - y) % 115792089237316195423570985008687907853269984665640564039457584007913129639936) (by rw [W256_eq]; exact Nat.mod_lt _ (by decide)) s0 s1 s2 s3 h0 h1 h2]
  · congr 4
    rcases hc with rfl | rfl
    · have : ¬ (x < y) := by omega
      simp [this]
    · have : x < y := by omega
      simp [this]
  · show _ = sum4 s0 s1 s2 s3
    omega
set_option maxHeartbeats 400000 in
/-- Less. -/
theorem less_c (x y : Nat) (hx : x < W256) (hy : y < W256) (w : World) :
    Calls Try.prog 74 #[wv x, wv y] w (RetB w (decide (x < y))) := by
  go_enter Try.func74, Try.ntmps74
  go_wp2_with (go_at_call 75; refine (sub_c x y hx hy _).mono ?_; rintro e w' ⟨z, b, hz, ⟨-, rfl⟩, rfl, hb⟩; have hb1 := below_step (w := w) (by go_grown) hb; have hs1 := hb1.size; clear hb)
  go_ret
  exact ⟨rfl, by go_grown⟩
end Go.Proofs.Ytbaifchbpnmkpaa
namespace Go.Proofs
open Go.Shelf
def Try.lays129_ren : Go.Shelf.Ren := ⟨fun | 129 => 87 | n => n, fun | 53 => 71 | 3 => 3 | 4 => 4 | 46 => 48 | 5 => 5 | 9 => 9 | n => n, fun | n => n⟩
theorem Try.lays129 : Go.Proofs.Lays.n129 Try.prog Try.lays129_ren := {
  mixed := by kernel_rfl
  f129 := Try.func87.trans (congrArg some (by kernel_rfl))
  t3 := Try.underlying3
  a3 := Try.isAgg3
  z3 := Try.sizeOf3
  v3 := Try.zeroValue3
  t4 := Try.underlying4
  a4 := Try.isAgg4
  z4 := Try.sizeOf4
  v4 := Try.zeroValue4
  t5 := Try.underlying5
  a5 := Try.isAgg5
  z5 := Try.sizeOf5
  v5 := Try.zeroValue5
  t9 := Try.underlying9
  a9 := Try.isAgg9
  z9 := Try.sizeOf9
  v9 := Try.zeroValue9
  t46 := Try.underlying48
  a46 := Try.isAgg48
  z46 := Try.sizeOf48
  v46 := Try.zeroValue48
  t53 := Try.underlying71
  a53 := Try.isAgg71
  z53 := Try.sizeOf71
  v53 := Try.zeroValue71 }
theorem Try.bits_Len64 (x : Int) (w : World) (h0 : 0 ≤ x) (h1 : x ≤ 18446744073709551615) :
    Calls Try.prog 87 #[.int .u64 x] w fun e w' => e = .returned (.int .i64 (Lib.bitLen x.toNat)) ∧ w' = w := Any.bits_Len64 Try.lays129 x w h0 h1
def Try.lays264_ren : Go.Shelf.Ren := ⟨fun | 264 => 89 | n => n, fun | 53 => 71 | 46 => 48 | n => n, fun | n => n⟩
theorem Try.lays264 : Go.Proofs.Lays.n264 Try.prog Try.lays264_ren := {
  mixed := by kernel_rfl
  f264 := Try.func89.trans (congrArg some (by kernel_rfl))
  t46 := Try.underlying48
  a46 := Try.isAgg48
  z46 := Try.sizeOf48
  v46 := Try.zeroValue48
  t53 := Try.underlying71
  a53 := Try.isAgg71
  z53 := Try.sizeOf71
  v53 := Try.zeroValue71 }
theorem Try.bits_Mul64 (x y : Nat) (hx : x < 18446744073709551616) (hy : y < 18446744073709551616) (w : World) :
    Calls Try.prog 89 #[.int .u64 x, .int .u64 y] w fun e w' => e = .returned (.tuple #[.int .u64 ((x * y / 18446744073709551616 : Nat) : Int), .int .u64 ((x * y % 18446744073709551616 : Nat) : Int)]) ∧ w' = w := Any.bits_Mul64 Try.lays264 x y hx hy w
end Go.Proofs
namespace Go.Proofs.Ytbaifchbpnmkpaa
open Go.RowKit
/-- How many bits a number has. -/
def blen (n : Nat) : Nat := if n = 0 then 0 else n.log2 + 1
theorem blen_le_iff (n k : Nat) : blen n ≤ k ↔ n < 2 ^ k := by
  unfold blen
  by_cases h : n = 0
  · subst h; simp [Nat.two_pow_pos]
  · simp only [h, if_false]
    rw [← Nat.log2_lt h]; omega
theorem blen_lt_iff (n k : Nat) : k < blen n ↔ 2 ^ k ≤ n := by
  have := blen_le_iff n k; omega
theorem blen_unique (n k : Nat) (h1 : n < 2 ^ k) (h2 : k = 0 ∨ 2 ^ (k - 1) ≤ n) : blen n = k := by
  have a := (blen_le_iff n k).2 h1
  rcases h2 with rfl | h2
  · omega
  · have b := (blen_lt_iff n (k - 1)).2 h2
    omega
theorem blen_div (n k : Nat) (h : 2 ^ k ≤ n) : blen n = k + blen (n / 2 ^ k) := by
  have hp : 0 < 2 ^ k := Nat.two_pow_pos k
  have hd : 0 < n / 2 ^ k := Nat.div_pos h hp
  have hb : 0 < blen (n / 2 ^ k) := (blen_lt_iff _ 0).2 hd
  apply blen_unique
  · have := (blen_le_iff (n / 2 ^ k) (blen (n / 2 ^ k))).1 (Nat.le_refl _)
    rw [Nat.pow_add, Nat.mul_comm]
    exact (Nat.div_lt_iff_lt_mul hp).1 this
  · right
    have := (blen_lt_iff (n / 2 ^ k) (blen (n / 2 ^ k) - 1)).1 (by omega)
    rw [show k + blen (n / 2 ^ k) - 1 = (blen (n / 2 ^ k) - 1) + k by omega, Nat.pow_add]
    exact (Nat.le_div_iff_mul_le hp).1 this
theorem bitLenAux_eq : ∀ (f x : Nat), x < 2 ^ f → Lib.bitLenAux f x = blen x
  | 0, x, h => by
    have : x = 0 := by simpa using h
    subst this; rfl
  | f + 1, x, h => by
    by_cases h0 : x = 0
    · subst h0; rfl
    · rw [Lib.bitLenAux, if_neg h0, bitLenAux_eq f (x / 2) (Nat.div_lt_of_lt_mul (by rw [Nat.pow_succ, Nat.mul_comm] at h; exact h))]
      by_cases h1 : x = 1
      · subst h1; rfl
      · have := blen_div x 1 (by omega)
        rw [this, Nat.pow_one]
theorem bitLen_eq (x : Nat) (h : x < 18446744073709551616) : Lib.bitLen x = blen x := bitLenAux_eq 64 x (by simpa using h)
/-- What a call that answers an int says. -/
def RetI (w : World) (n : Int) (e : Ending) (w' : World) : Prop := e = .returned (.int .i64 n) ∧ Below w.heap.size w w'
theorem len64_c (x : Int) (hx : Wd x) (w : World) : Calls Try.prog 87 #[.int .u64 x] w fun e w' => e = .returned (.int .i64 (blen x.toNat)) ∧ w' = w := by
  obtain ⟨h0, h1⟩ := hx
  refine (Try.bits_Len64 x w h0 (by omega)).mono ?_
  rintro e w' ⟨rfl, rfl⟩
  rw [bitLen_eq _ (by omega)]
  exact ⟨rfl, rfl⟩
set_option maxHeartbeats 800000 in
theorem bits_w3 (a0 a1 a2 a3 : Int) (w : World) (hd : Wd a3) (h : ¬ a3 = 0) :
    Calls Try.prog 77 #[.agg #[.int .u64 a0, .int .u64 a1, .int .u64 a2, .int .u64 a3]] w (RetI w (192 + blen a3.toNat)) := by
  have hl : (blen a3.toNat : Int) ≤ 64 := by
    have := (blen_le_iff a3.toNat 64).2 (by have := hd.2; omega)
    omega
  have hl0 : (0 : Int) ≤ blen a3.toNat := by omega
  go_enter Try.func77, Try.ntmps77
  go_wp2
  refine wp_loop_rounds 5 ?_
  rw [rounds_succ]; go_wp2_with (go_at_call 87; refine (len64_c _ hd _).mono ?_; rintro e w' ⟨rfl, rfl⟩)
  go_ret
  exact ⟨rfl, by go_grown⟩
set_option maxHeartbeats 800000 in
theorem bits_w2 (a0 a1 a2 : Int) (w : World) (hd : Wd a2) (h : ¬ a2 = 0) :
    Calls Try.prog 77 #[.agg #[.int .u64 a0, .int .u64 a1, .int .u64 a2, .int .u64 0]] w (RetI w (128 + blen a2.toNat)) := by
  have hl : (blen a2.toNat : Int) ≤ 64 := by
    have := (blen_le_iff a2.toNat 64).2 (by have := hd.2; omega)
    omega
  have hl0 : (0 : Int) ≤ blen a2.toNat := by omega
  go_enter Try.func77, Try.ntmps77
  go_wp2
  refine wp_loop_rounds 5 ?_
  rw [rounds_succ]; go_wp2
  rw [rounds_succ]; go_wp2_with (go_at_call 87; refine (len64_c _ hd _).mono ?_; rintro e w' ⟨rfl, rfl⟩)
  go_ret
  exact ⟨rfl, by go_grown⟩
set_option maxHeartbeats 800000 in
theorem bits_w1 (a0 a1 : Int) (w : World) (hd : Wd a1) (h : ¬ a1 = 0) :
    Calls Try.prog 77 #[.agg #[.int .u64 a0, .int .u64 a1, .int .u64 0, .int .u64 0]] w (RetI w (64 + blen a1.toNat)) := by
  have hl : (blen a1.toNat : Int) ≤ 64 := by
    have := (blen_le_iff a1.toNat 64).2 (by have := hd.2; omega)
    omega
  have hl0 : (0 : Int) ≤ blen a1.toNat := by omega
  go_enter Try.func77, Try.ntmps77
  go_wp2
  refine wp_loop_rounds 5 ?_
  rw [rounds_succ]; go_wp2
  rw [rounds_succ]; go_wp2
  rw [rounds_succ]; go_wp2_with (go_at_call 87; refine (len64_c _ hd _).mono ?_; rintro e w' ⟨rfl, rfl⟩)
  go_ret
  exact ⟨rfl, by go_grown⟩
set_option maxHeartbeats 800000 in
theorem bits_w0 (a0 : Int) (w : World) (hd : Wd a0) (h : ¬ a0 = 0) :
    Calls Try.prog 77 #[.agg #[.int .u64 a0, .int .u64 0, .int .u64 0, .int .u64 0]] w (RetI w (blen a0.toNat)) := by
  have hl : (blen a0.toNat : Int) ≤ 64 := by
    have := (blen_le_iff a0.toNat 64).2 (by have := hd.2; omega)
    omega
  have hl0 : (0 : Int) ≤ blen a0.toNat := by omega
  go_enter Try.func77, Try.ntmps77
  go_wp2
  refine wp_loop_rounds 5 ?_
  rw [rounds_succ]; go_wp2
  rw [rounds_succ]; go_wp2
  rw [rounds_succ]; go_wp2
  rw [rounds_succ]; go_wp2_with (go_at_call 87; refine (len64_c _ hd _).mono ?_; rintro e w' ⟨rfl, rfl⟩)
  go_ret
  exact ⟨rfl, by go_grown⟩
set_option maxHeartbeats 800000 in
theorem bits_wz (w : World) :
    Calls Try.prog 77 #[.agg #[.int .u64 0, .int .u64 0, .int .u64 0, .int .u64 0]] w (RetI w 0) := by
  go_enter Try.func77, Try.ntmps77
  go_wp2
  refine wp_loop_rounds 5 ?_
  rw [rounds_succ]; go_wp2
  rw [rounds_succ]; go_wp2
  rw [rounds_succ]; go_wp2
  rw [rounds_succ]; go_wp2
  rw [rounds_succ]; go_wp2
  go_ret
  exact ⟨rfl, by go_grown⟩
/-- Bits. -/
theorem bits_c (x : Nat) (hx : x < W256) (w : World) : Calls Try.prog 77 #[wv x] w (RetI w (blen x)) := by
  have ex := limbs_sum x hx
  have x0 := limb_lt x 0; have x1 := limb_lt x 1; have x2 := limb_lt x 2; have x3 := limb_lt x 3
  have hW := W256_eq
  unfold wv
  by_cases h3 : limb x 3 = 0
  · by_cases h2 : limb x 2 = 0
    · by_cases h1 : limb x 1 = 0
      · by_cases h0 : limb x 0 = 0
        · have : x = 0 := by omega
          subst this
          rw [h0, h1, h2, h3]
          exact bits_wz w
        · rw [h1, h2, h3]
          have : blen x = blen (limb x 0) := by congr 1; omega
          rw [this]
          exact bits_w0 _ w (wd_limb x 0) (by omega)
      · rw [h2, h3]
        have : blen x = 64 + blen (limb x 1) := by
          rw [blen_div x 64 (by omega)]; congr 2; omega
        rw [this]
        exact bits_w1 _ _ w (wd_limb x 1) (by omega)
    · rw [h3]
      have : blen x = 128 + blen (limb x 2) := by
        rw [blen_div x 128 (by omega)]; congr 2; omega
      rw [this]
      exact bits_w2 _ _ _ w (wd_limb x 2) (by omega)
  · have : blen x = 192 + blen (limb x 3) := by
      rw [blen_div x 192 (by omega)]; congr 2; omega
    rw [this]
    exact bits_w3 _ _ _ _ w (wd_limb x 3) (by omega)
end Go.Proofs.Ytbaifchbpnmkpaa
namespace Go.Proofs.Ytbaifchbpnmkpaa
open Go.RowKit
theorem pow_split (r : Nat) (hr : r < 64) : 2 ^ (64 - r) * 2 ^ r = 18446744073709551616 := by
  rw [← Nat.pow_add, show 64 - r + r = 64 by omega]
theorem wrap_mul_pow (b r : Nat) : IntKind.u64.wrap ((b : Int) * 2 ^ r) = ((b * 2 ^ r % 18446744073709551616 : Nat) : Int) := by
  rw [IntKind.wrap_u64]
  have : ((b : Int) * 2 ^ r) = ((b * 2 ^ r : Nat) : Int) := by simp
  rw [this]; omega
theorem cast_div_pow (a r : Nat) : (a : Int) / 2 ^ r = ((a / 2 ^ r : Nat) : Int) := by
  have : ((2 : Int) ^ r) = ((2 ^ r : Nat) : Int) := by simp
  rw [this]; exact (Int.natCast_ediv a (2 ^ r)).symm
theorem or_right (a b r : Nat) (ha : a < 18446744073709551616) (hr : r < 64) :
    bits BinOp.or IntKind.u64 ((a : Int) / 2 ^ (r : Int).toNat) (IntKind.u64.wrap ((b : Int) * 2 ^ (64 - (r : Int)).toNat)) = ((a / 2 ^ r + b % 2 ^ r * 2 ^ (64 - r) : Nat) : Int) := by
  rw [show (64 - (r : Int)).toNat = 64 - r by omega, show ((r : Int)).toNat = r from rfl, wrap_mul_pow, cast_div_pow]
  have hp := pow_split r hr
  have hd : a / 2 ^ r < 2 ^ (64 - r) := Nat.div_lt_of_lt_mul (by rw [Nat.mul_comm, hp]; exact ha)
  have hd2 : a / 2 ^ r < 18446744073709551616 := Nat.lt_of_le_of_lt (Nat.div_le_self _ _) ha
  have e : b * 2 ^ (64 - r) % 18446744073709551616 = b % 2 ^ r * 2 ^ (64 - r) := by
    rw [← hp, Nat.mul_comm (2 ^ (64 - r)), Nat.mul_mod_mul_right]
  rw [bits_or_u64_nat _ _ hd2 (Nat.mod_lt _ (by decide)), e, Nat.mul_comm (b % 2 ^ r), Nat.or_comm (a / 2 ^ r), ← Nat.two_pow_add_eq_or_of_lt hd, Nat.add_comm]
theorem shr_bd (a b r : Nat) (ha : a < 18446744073709551616) (hr : r < 64) : a / 2 ^ r + b % 2 ^ r * 2 ^ (64 - r) < 18446744073709551616 := by
  have hp := pow_split r hr
  have hd : a / 2 ^ r < 2 ^ (64 - r) := Nat.div_lt_of_lt_mul (by rw [Nat.mul_comm, hp]; exact ha)
  have h1 : b % 2 ^ r + 1 ≤ 2 ^ r := Nat.mod_lt _ (Nat.two_pow_pos _)
  have h2 := Nat.mul_le_mul_right (2 ^ (64 - r)) h1
  rw [Nat.mul_comm (2 ^ r), hp, Nat.add_mul] at h2
  omega
/-- Shifted right. -/
theorem shr_sum (x r : Nat) (hx : x < W256) (hr : r < 64) :
    x / 2 ^ r = (limb x 0 / 2 ^ r + limb x 1 % 2 ^ r * 2 ^ (64 - r)) + 18446744073709551616 * (limb x 1 / 2 ^ r + limb x 2 % 2 ^ r * 2 ^ (64 - r)) + 340282366920938463463374607431768211456 * (limb x 2 / 2 ^ r + limb x 3 % 2 ^ r * 2 ^ (64 - r)) + 6277101735386680763835789423207666416102355444464034512896 * (limb x 3 / 2 ^ r) := by
  have ex := limbs_sum x hx
  have hp := pow_split r hr
  have hpos := Nat.two_pow_pos r
  have f : ∀ e, 2 ^ r * (e * 2 ^ (64 - r)) = 18446744073709551616 * e := by
    intro e; rw [← hp]; simp only [Nat.mul_comm, Nat.mul_left_comm]
  have e0 := Nat.div_add_mod (limb x 0) (2 ^ r); have e1 := Nat.div_add_mod (limb x 1) (2 ^ r); have e2 := Nat.div_add_mod (limb x 2) (2 ^ r); have e3 := Nat.div_add_mod (limb x 3) (2 ^ r)
  have hlt := Nat.mod_lt (limb x 0) hpos
  have f1 := f (limb x 1 % 2 ^ r); have f2 := f (limb x 2 % 2 ^ r); have f3 := f (limb x 3 % 2 ^ r)
  generalize limb x 1 % 2 ^ r * 2 ^ (64 - r) = g1 at *; generalize limb x 2 % 2 ^ r * 2 ^ (64 - r) = g2 at *; generalize limb x 3 % 2 ^ r * 2 ^ (64 - r) = g3 at *
  generalize limb x 0 / 2 ^ r = d0 at *; generalize limb x 1 / 2 ^ r = d1 at *; generalize limb x 2 / 2 ^ r = d2 at *; generalize limb x 3 / 2 ^ r = d3 at *
  have hS : x = 2 ^ r * (d0 + g1 + 18446744073709551616 * (d1 + g2) + 340282366920938463463374607431768211456 * (d2 + g3) + 6277101735386680763835789423207666416102355444464034512896 * d3) + limb x 0 % 2 ^ r := by
    simp only [Nat.mul_add, Nat.mul_left_comm (2 ^ r), f1, f2, f3]
    omega
  conv => lhs; rw [hS]
  rw [Nat.mul_add_div hpos, Nat.div_eq_of_lt hlt, Nat.add_zero]
end Go.Proofs.Ytbaifchbpnmkpaa
namespace Go.Proofs.Ytbaifchbpnmkpaa
open Go.RowKit
/-- Four words that are a number. -/
def RetV (w : World) (s0 s1 s2 s3 : Int) (e : Ending) (w' : World) : Prop := e = .returned (.agg #[.int .u64 s0, .int .u64 s1, .int .u64 s2, .int .u64 s3]) ∧ Below w.heap.size w w'
set_option maxHeartbeats 1000000 in
theorem right_w4 (a0 a1 a2 a3 n : Int) (w : World) (hn : 256 ≤ n) :
    Calls Try.prog 71 #[.agg #[.int .u64 a0, .int .u64 a1, .int .u64 a2, .int .u64 a3], .int .i64 n] w (RetV w 0 0 0 0) := by
  have hn' : 1 ≤ n := by omega
  go_enter Try.func71, Try.ntmps71
  go_wp2
  go_returns
  exact ⟨rfl, by go_grown⟩
set_option maxHeartbeats 1000000 in
theorem right_w0 (a0 a1 a2 a3 n r : Int) (w : World) (h0 : Wd a0) (h1 : Wd a1) (h2 : Wd a2) (h3 : Wd a3) (hq : n / 64 = 0) (hr : n % 64 = r) (hn : 1 ≤ n) (hn1 : n < 256) (hr0 : 0 ≤ r) (hr1 : r < 64) :
    Calls Try.prog 71 #[.agg #[.int .u64 a0, .int .u64 a1, .int .u64 a2, .int .u64 a3], .int .i64 n] w (RetV w (bits BinOp.or IntKind.u64 (a0 / 2 ^ r.toNat) (IntKind.u64.wrap (a1 * 2 ^ (64 - r).toNat))) (bits BinOp.or IntKind.u64 (a1 / 2 ^ r.toNat) (IntKind.u64.wrap (a2 * 2 ^ (64 - r).toNat))) (bits BinOp.or IntKind.u64 (a2 / 2 ^ r.toNat) (IntKind.u64.wrap (a3 * 2 ^ (64 - r).toNat))) (a3 / 2 ^ r.toNat)) := by
  obtain ⟨h0, h0'⟩ := h0; obtain ⟨h1, h1'⟩ := h1; obtain ⟨h2, h2'⟩ := h2; obtain ⟨h3, h3'⟩ := h3
  have _k := And.intro hn (And.intro hn1 (And.intro hr0 hr1)); clear _k
  go_enter Try.func71, Try.ntmps71
  go_wp2
  refine wp_loop_rounds 5 ?_
  rw [rounds_succ]; go_wp2
  go_region
  go_wp2
  rw [rounds_succ]; go_wp2
  go_region
  go_wp2
  rw [rounds_succ]; go_wp2
  go_region
  go_wp2
  rw [rounds_succ]; go_wp2
  rw [rounds_succ]; go_wp2
  go_returns
  exact ⟨rfl, by go_grown⟩
set_option maxHeartbeats 1000000 in
theorem right_w1 (a0 a1 a2 a3 n r : Int) (w : World) (h0 : Wd a0) (h1 : Wd a1) (h2 : Wd a2) (h3 : Wd a3) (hq : n / 64 = 1) (hr : n % 64 = r) (hn : 1 ≤ n) (hn1 : n < 256) (hr0 : 0 ≤ r) (hr1 : r < 64) :
    Calls Try.prog 71 #[.agg #[.int .u64 a0, .int .u64 a1, .int .u64 a2, .int .u64 a3], .int .i64 n] w (RetV w (bits BinOp.or IntKind.u64 (a1 / 2 ^ r.toNat) (IntKind.u64.wrap (a2 * 2 ^ (64 - r).toNat))) (bits BinOp.or IntKind.u64 (a2 / 2 ^ r.toNat) (IntKind.u64.wrap (a3 * 2 ^ (64 - r).toNat))) (a3 / 2 ^ r.toNat) 0) := by
  obtain ⟨h0, h0'⟩ := h0; obtain ⟨h1, h1'⟩ := h1; obtain ⟨h2, h2'⟩ := h2; obtain ⟨h3, h3'⟩ := h3
  have _k := And.intro hn (And.intro hn1 (And.intro hr0 hr1)); clear _k
  go_enter Try.func71, Try.ntmps71
  go_wp2
  refine wp_loop_rounds 5 ?_
  rw [rounds_succ]; go_wp2
  go_region
  go_wp2
  rw [rounds_succ]; go_wp2
  go_region
  go_wp2
  rw [rounds_succ]; go_wp2
  rw [rounds_succ]; go_wp2
  go_returns
  exact ⟨rfl, by go_grown⟩
set_option maxHeartbeats 1000000 in
theorem right_w2 (a0 a1 a2 a3 n r : Int) (w : World) (h0 : Wd a0) (h1 : Wd a1) (h2 : Wd a2) (h3 : Wd a3) (hq : n / 64 = 2) (hr : n % 64 = r) (hn : 1 ≤ n) (hn1 : n < 256) (hr0 : 0 ≤ r) (hr1 : r < 64) :
    Calls Try.prog 71 #[.agg #[.int .u64 a0, .int .u64 a1, .int .u64 a2, .int .u64 a3], .int .i64 n] w (RetV w (bits BinOp.or IntKind.u64 (a2 / 2 ^ r.toNat) (IntKind.u64.wrap (a3 * 2 ^ (64 - r).toNat))) (a3 / 2 ^ r.toNat) 0 0) := by
  obtain ⟨h0, h0'⟩ := h0; obtain ⟨h1, h1'⟩ := h1; obtain ⟨h2, h2'⟩ := h2; obtain ⟨h3, h3'⟩ := h3
  have _k := And.intro hn (And.intro hn1 (And.intro hr0 hr1)); clear _k
  go_enter Try.func71, Try.ntmps71
  go_wp2
  refine wp_loop_rounds 5 ?_
  rw [rounds_succ]; go_wp2
  go_region
  go_wp2
  rw [rounds_succ]; go_wp2
  rw [rounds_succ]; go_wp2
  go_returns
  exact ⟨rfl, by go_grown⟩
set_option maxHeartbeats 1000000 in
theorem right_w3 (a0 a1 a2 a3 n r : Int) (w : World) (h0 : Wd a0) (h1 : Wd a1) (h2 : Wd a2) (h3 : Wd a3) (hq : n / 64 = 3) (hr : n % 64 = r) (hn : 1 ≤ n) (hn1 : n < 256) (hr0 : 0 ≤ r) (hr1 : r < 64) :
    Calls Try.prog 71 #[.agg #[.int .u64 a0, .int .u64 a1, .int .u64 a2, .int .u64 a3], .int .i64 n] w (RetV w (a3 / 2 ^ r.toNat) 0 0 0) := by
  obtain ⟨h0, h0'⟩ := h0; obtain ⟨h1, h1'⟩ := h1; obtain ⟨h2, h2'⟩ := h2; obtain ⟨h3, h3'⟩ := h3
  have _k := And.intro hn (And.intro hn1 (And.intro hr0 hr1)); clear _k
  go_enter Try.func71, Try.ntmps71
  go_wp2
  refine wp_loop_rounds 5 ?_
  rw [rounds_succ]; go_wp2
  rw [rounds_succ]; go_wp2
  go_returns
  exact ⟨rfl, by go_grown⟩
end Go.Proofs.Ytbaifchbpnmkpaa
namespace Go.Proofs.Ytbaifchbpnmkpaa
open Go.RowKit
/-- Right. -/
theorem right_c (x : Nat) (hx : x < W256) (n : Int) (hn : 1 ≤ n) (w : World) :
    Calls Try.prog 71 #[wv x, .int .i64 n] w (RetW w fun z => z = x / 2 ^ n.toNat) := by
  have hz : x / 2 ^ n.toNat < W256 := Nat.lt_of_le_of_lt (Nat.div_le_self _ _) hx
  have post : ∀ (e : Ending) (w' : World) (s0 s1 s2 s3 : Nat), s0 < 18446744073709551616 → s1 < 18446744073709551616 → s2 < 18446744073709551616 → x / 2 ^ n.toNat = s0 + 18446744073709551616 * s1 + 340282366920938463463374607431768211456 * s2 + 6277101735386680763835789423207666416102355444464034512896 * s3 →
      RetV w (s0 : Int) (s1 : Int) (s2 : Int) (s3 : Int) e w' → RetW w (fun z => z = x / 2 ^ n.toNat) e w' := by
    intro e w' s0 s1 s2 s3 b0 b1 b2 hs h
    refine ⟨_, hz, rfl, ?_, h.2⟩
    rw [h.1, wv_of (x / 2 ^ n.toNat) hz s0 s1 s2 s3 (by omega) (by omega) (by omega)]
    omega
  have hw := W256_eq
  by_cases h256 : 256 ≤ n
  · refine (right_w4 _ _ _ _ n w h256).mono fun e w' h => post e w' 0 0 0 0 (by decide) (by decide) (by decide) ?_ h
    have : x < 2 ^ n.toNat := Nat.lt_of_lt_of_le (by rw [W256_pow] at hx; exact hx) (Nat.pow_le_pow_right (by decide) (show 256 ≤ n.toNat by omega))
    rw [Nat.div_eq_of_lt this]
  obtain ⟨r, hr⟩ : ∃ r : Nat, r = n.toNat % 64 := ⟨_, rfl⟩
  have hr64 : r < 64 := by omega
  have hq : n / 64 = 0 ∨ n / 64 = 1 ∨ n / 64 = 2 ∨ n / 64 = 3 := by omega
  have hrn : n % 64 = (r : Int) := by omega
  have B0 := limb_lt x 0; have B1 := limb_lt x 1; have B2 := limb_lt x 2; have B3 := limb_lt x 3
  have hb0 := shr_bd (limb x 0) (limb x 1) r B0 hr64
  have hb1 := shr_bd (limb x 1) (limb x 2) r B1 hr64
  have hb2 := shr_bd (limb x 2) (limb x 3) r B2 hr64
  have hb3 : limb x 3 / 2 ^ r < 18446744073709551616 := Nat.lt_of_le_of_lt (Nat.div_le_self _ _) B3
  have o0 := or_right (limb x 0) (limb x 1) r B0 hr64
  have o1 := or_right (limb x 1) (limb x 2) r B1 hr64
  have o2 := or_right (limb x 2) (limb x 3) r B2 hr64
  have o3 := cast_div_pow (limb x 3) r
  have hsum := shr_sum x r hx hr64
  rcases hq with hq | hq | hq | hq
  · have hz2 : x / 2 ^ n.toNat = x / 2 ^ r / 1 := by rw [Nat.div_div_eq_div_mul, show n.toNat = r + 0 by omega, Nat.pow_add]
    refine (right_w0 _ _ _ _ n (r : Int) w (wd_limb x 0) (wd_limb x 1) (wd_limb x 2) (wd_limb x 3) hq hrn hn (by omega) (by omega) (by omega)).mono fun e w' h => post e w' (limb x 0 / 2 ^ r + limb x 1 % 2 ^ r * 2 ^ (64 - r)) (limb x 1 / 2 ^ r + limb x 2 % 2 ^ r * 2 ^ (64 - r)) (limb x 2 / 2 ^ r + limb x 3 % 2 ^ r * 2 ^ (64 - r)) (limb x 3 / 2 ^ r) ?_ ?_ ?_ ?_ ?_
    · first | exact hb0 | exact hb1 | exact hb2 | exact hb3 | decide
    · first | exact hb0 | exact hb1 | exact hb2 | exact hb3 | decide
    · first | exact hb0 | exact hb1 | exact hb2 | exact hb3 | decide
    · rw [hz2, hsum]; clear o0 o1 o2 o3 post hz hz2 hsum; generalize limb x 0 / 2 ^ r + limb x 1 % 2 ^ r * 2 ^ (64 - r) = m0 at *; generalize limb x 1 / 2 ^ r + limb x 2 % 2 ^ r * 2 ^ (64 - r) = m1 at *; generalize limb x 2 / 2 ^ r + limb x 3 % 2 ^ r * 2 ^ (64 - r) = m2 at *; generalize limb x 3 / 2 ^ r = m3 at *; omega
    · have h' := h; simp only [o0, o1, o2] at h'; simp only [Int.toNat_natCast, o3] at h'; exact h'
  · have hz2 : x / 2 ^ n.toNat = x / 2 ^ r / 18446744073709551616 := by rw [Nat.div_div_eq_div_mul, show n.toNat = r + 64 by omega, Nat.pow_add]
    refine (right_w1 _ _ _ _ n (r : Int) w (wd_limb x 0) (wd_limb x 1) (wd_limb x 2) (wd_limb x 3) hq hrn hn (by omega) (by omega) (by omega)).mono fun e w' h => post e w' (limb x 1 / 2 ^ r + limb x 2 % 2 ^ r * 2 ^ (64 - r)) (limb x 2 / 2 ^ r + limb x 3 % 2 ^ r * 2 ^ (64 - r)) (limb x 3 / 2 ^ r) 0 ?_ ?_ ?_ ?_ ?_
    · first | exact hb0 | exact hb1 | exact hb2 | exact hb3 | decide
    · first | exact hb0 | exact hb1 | exact hb2 | exact hb3 | decide
    · first | exact hb0 | exact hb1 | exact hb2 | exact hb3 | decide
    · rw [hz2, hsum]; clear o0 o1 o2 o3 post hz hz2 hsum; generalize limb x 0 / 2 ^ r + limb x 1 % 2 ^ r * 2 ^ (64 - r) = m0 at *; generalize limb x 1 / 2 ^ r + limb x 2 % 2 ^ r * 2 ^ (64 - r) = m1 at *; generalize limb x 2 / 2 ^ r + limb x 3 % 2 ^ r * 2 ^ (64 - r) = m2 at *; generalize limb x 3 / 2 ^ r = m3 at *; omega
    · have h' := h; simp only [o1, o2] at h'; simp only [Int.toNat_natCast, o3] at h'; exact h'
  · have hz2 : x / 2 ^ n.toNat = x / 2 ^ r / 340282366920938463463374607431768211456 := by rw [Nat.div_div_eq_div_mul, show n.toNat = r + 128 by omega, Nat.pow_add]
    refine (right_w2 _ _ _ _ n (r : Int) w (wd_limb x 0) (wd_limb x 1) (wd_limb x 2) (wd_limb x 3) hq hrn hn (by omega) (by omega) (by omega)).mono fun e w' h => post e w' (limb x 2 / 2 ^ r + limb x 3 % 2 ^ r * 2 ^ (64 - r)) (limb x 3 / 2 ^ r) 0 0 ?_ ?_ ?_ ?_ ?_
    · first | exact hb0 | exact hb1 | exact hb2 | exact hb3 | decide
    · first | exact hb0 | exact hb1 | exact hb2 | exact hb3 | decide
    · first | exact hb0 | exact hb1 | exact hb2 | exact hb3 | decide
    · rw [hz2, hsum]; clear o0 o1 o2 o3 post hz hz2 hsum; generalize limb x 0 / 2 ^ r + limb x 1 % 2 ^ r * 2 ^ (64 - r) = m0 at *; generalize limb x 1 / 2 ^ r + limb x 2 % 2 ^ r * 2 ^ (64 - r) = m1 at *; generalize limb x 2 / 2 ^ r + limb x 3 % 2 ^ r * 2 ^ (64 - r) = m2 at *; generalize limb x 3 / 2 ^ r = m3 at *; omega
    · have h' := h; simp only [o2] at h'; simp only [Int.toNat_natCast, o3] at h'; exact h'
  · have hz2 : x / 2 ^ n.toNat = x / 2 ^ r / 6277101735386680763835789423207666416102355444464034512896 := by rw [Nat.div_div_eq_div_mul, show n.toNat = r + 192 by omega, Nat.pow_add]
    refine (right_w3 _ _ _ _ n (r : Int) w (wd_limb x 0) (wd_limb x 1) (wd_limb x 2) (wd_limb x 3) hq hrn hn (by omega) (by omega) (by omega)).mono fun e w' h => post e w' (limb x 3 / 2 ^ r) 0 0 0 ?_ ?_ ?_ ?_ ?_
    · first | exact hb0 | exact hb1 | exact hb2 | exact hb3 | decide
    · first | exact hb0 | exact hb1 | exact hb2 | exact hb3 | decide
    · first | exact hb0 | exact hb1 | exact hb2 | exact hb3 | decide
    · rw [hz2, hsum]; clear o0 o1 o2 o3 post hz hz2 hsum; generalize limb x 0 / 2 ^ r + limb x 1 % 2 ^ r * 2 ^ (64 - r) = m0 at *; generalize limb x 1 / 2 ^ r + limb x 2 % 2 ^ r * 2 ^ (64 - r) = m1 at *; generalize limb x 2 / 2 ^ r + limb x 3 % 2 ^ r * 2 ^ (64 - r) = m2 at *; generalize limb x 3 / 2 ^ r = m3 at *; omega
    · have h' := h; simp only [Int.toNat_natCast, o3] at h'; exact h'
end Go.Proofs.Ytbaifchbpnmkpaa
namespace Go.Proofs.Ytbaifchbpnmkpaa
open Go.RowKit
/-- Thirty-two bytes, as the model has them: byte i is f i. -/
@[reducible] def cells32 (f : Nat → Int) : Array Value := #[.int .u8 (f 0), .int .u8 (f 1), .int .u8 (f 2), .int .u8 (f 3), .int .u8 (f 4), .int .u8 (f 5), .int .u8 (f 6), .int .u8 (f 7), .int .u8 (f 8), .int .u8 (f 9), .int .u8 (f 10), .int .u8 (f 11), .int .u8 (f 12), .int .u8 (f 13), .int .u8 (f 14), .int .u8 (f 15), .int .u8 (f 16), .int .u8 (f 17), .int .u8 (f 18), .int .u8 (f 19), .int .u8 (f 20), .int .u8 (f 21), .int .u8 (f 22), .int .u8 (f 23), .int .u8 (f 24), .int .u8 (f 25), .int .u8 (f 26), .int .u8 (f 27), .int .u8 (f 28), .int .u8 (f 29), .int .u8 (f 30), .int .u8 (f 31)]
/-- Byte i of a number, the greatest first. -/
def byteAt (x i : Nat) : Int := ((x / 256 ^ (31 - i) % 256 : Nat) : Int)
theorem cells32_eq (f : Nat → Int) : cells32 f = ((List.range 32).map fun i => Value.int .u8 (f i)).toArray := rfl
theorem cells32_get (f : Nat → Int) (j : Nat) (h : j < 32) : (cells32 f)[j]? = some (.int .u8 (f j)) := by
  rw [cells32_eq]; simp [h]
/-- The same, closed to the walk. -/
def row32 (f : Nat → Int) : Array Value := cells32 f
@[reducible] def bv (f : Nat → Int) : Value := .agg (row32 f)
theorem row32_get (f : Nat → Int) (j : Nat) (h : j < 32) : (row32 f)[j]? = some (.int .u8 (f j)) := cells32_get f j h
theorem heap_new3 (w : World) (A B C : Obj) : (((w.alloc A).alloc B).alloc C).heap[w.heap.size + 1 + 1]? = some C := by
  rw [heapAt, if_pos (by simp)]
theorem heap_mid3 (w : World) (A B C : Obj) : (((w.alloc A).alloc B).alloc C).heap[w.heap.size + 1]? = some B := by
  rw [heapAt, if_neg (by simp), heapAt, if_pos (by simp)]
end Go.Proofs.Ytbaifchbpnmkpaa
namespace Go.Proofs.Ytbaifchbpnmkpaa
open Go.RowKit
/-- Every byte is one. -/
def Bytes8 (f : Nat → Int) : Prop := ∀ i, 0 ≤ f i ∧ f i < 256
/-- The number of the last k bytes. -/
def beN (f : Nat → Int) : Nat → Nat
  | 0 => 0
  | k + 1 => beN f k + (f (31 - k)).toNat * 256 ^ k
theorem beN_lt (f : Nat → Int) (hf : Bytes8 f) : ∀ k, beN f k < 256 ^ k
  | 0 => by simp [beN]
  | k + 1 => by
    have h := beN_lt f hf k
    have hb : (f (31 - k)).toNat ≤ 255 := by have := hf (31 - k); omega
    have h2 := Nat.mul_le_mul_right (256 ^ k) hb
    rw [beN, Nat.pow_succ]; omega
/-- A number's limbs in a row of four cells. -/
@[reducible] def limbs4 (z : Nat) : Array Value := #[.int .u64 (limb z 0 : Nat), .int .u64 (limb z 1 : Nat), .int .u64 (limb z 2 : Nat), .int .u64 (limb z 3 : Nat)]
theorem or_step (z b k q y : Nat) (hz : z < 256 ^ k) (hb : b < 256) (hq : k / 8 = q) (hy : y = z + b * 256 ^ k) :
    bits BinOp.or IntKind.u64 ((limb z q : Nat) : Int) (IntKind.u64.wrap ((b : Int) * 2 ^ (8 * (k % 8)))) = ((limb y q : Nat) : Int) ∧ (∀ j, j ≠ q → limb y j = limb z j) := by
  subst hy
  have hs8 : 8 * (k % 8) ≤ 56 := by omega
  have hkk : 256 ^ k = 18446744073709551616 ^ q * 2 ^ (8 * (k % 8)) := by
    rw [show (256 : Nat) = 2 ^ 8 from rfl, show (18446744073709551616 : Nat) = 2 ^ 64 from rfl, ← Nat.pow_mul, ← Nat.pow_mul, ← Nat.pow_add]
    congr 1; omega
  have hpos : 0 < 18446744073709551616 ^ q := Nat.pow_pos (by decide)
  have hp2 : 2 ^ (8 * (k % 8)) ≤ 2 ^ 56 := Nat.pow_le_pow_right (by decide) hs8
  have hbs : b * 2 ^ (8 * (k % 8)) ≤ 255 * 2 ^ 56 := Nat.mul_le_mul (by omega) hp2
  have hzq : z / 18446744073709551616 ^ q < 2 ^ (8 * (k % 8)) := Nat.div_lt_of_lt_mul (by rw [← hkk]; exact hz)
  have hl : limb z q = z / 18446744073709551616 ^ q := by unfold limb; exact Nat.mod_eq_of_lt (by omega)
  have hnew : z + b * 256 ^ k = z + 18446744073709551616 ^ q * (b * 2 ^ (8 * (k % 8))) := by
    rw [hkk]; congr 1; exact Nat.mul_left_comm b (18446744073709551616 ^ q) (2 ^ (8 * (k % 8)))
  constructor
  · have e : ((b : Int) * 2 ^ (8 * (k % 8))) = ((b * 2 ^ (8 * (k % 8)) : Nat) : Int) := by simp
    rw [e, IntKind.wrap_u64, show (((b * 2 ^ (8 * (k % 8)) : Nat) : Int) % 18446744073709551616) = ((b * 2 ^ (8 * (k % 8)) : Nat) : Int) by omega]
    rw [bits_or_u64_nat _ _ (limb_lt z q) (by omega), hl, Nat.or_comm, Nat.mul_comm b, ← Nat.two_pow_add_eq_or_of_lt hzq]
    congr 1
    rw [hnew]; unfold limb
    rw [Nat.add_mul_div_left _ _ hpos, Nat.mul_comm b, Nat.add_comm]
    rw [Nat.mul_comm b] at hbs
    exact (Nat.mod_eq_of_lt (by omega)).symm
  · intro j hj
    rw [hnew]; unfold limb
    by_cases hlt : j < q
    · obtain ⟨d, rfl⟩ : ∃ d, q = j + (d + 1) := ⟨q - j - 1, by omega⟩
      rw [Nat.pow_add, Nat.mul_assoc, Nat.add_mul_div_left _ _ (Nat.pow_pos (by decide)), Nat.pow_succ, Nat.mul_comm (18446744073709551616 ^ d), Nat.mul_assoc, Nat.add_mul_mod_self_left]
    · obtain ⟨d, rfl⟩ : ∃ d, j = q + (d + 1) := ⟨j - q - 1, by omega⟩
      have h1 : z / 18446744073709551616 ^ (q + (d + 1)) = 0 := by
        rw [Nat.pow_add, ← Nat.div_div_eq_div_mul]
        apply Nat.div_eq_of_lt
        have : 18446744073709551616 ^ 1 ≤ 18446744073709551616 ^ (d + 1) := Nat.pow_le_pow_right (by decide) (by omega)
        omega
      have h2 : (z + 18446744073709551616 ^ q * (b * 2 ^ (8 * (k % 8)))) / 18446744073709551616 ^ (q + (d + 1)) = 0 := by
        rw [Nat.pow_add, ← Nat.div_div_eq_div_mul, Nat.add_mul_div_left _ _ hpos]
        apply Nat.div_eq_of_lt
        have : 18446744073709551616 ^ 1 ≤ 18446744073709551616 ^ (d + 1) := Nat.pow_le_pow_right (by decide) (by omega)
        omega
      rw [h1, h2]
theorem below_setRow {B : Nat} {a w : World} (h : Below B a w) {g : Nat} (hg : B ≤ g) (c : Array Value) : Below B a (w.setRow g c) :=
  h.trans ⟨rfl, rfl, rfl, by simp, fun k hk => setRow_other w g k c (by omega)⟩
theorem limbs4_one (z : Nat) : (limbs4 z).all (·.oneCell') = true := by simp [Value.oneCell']
theorem from_round (f : Nat → Int) (hf : Bytes8 f) (k q : Nat) (hk : k < 32) (hq : k / 8 = q) :
    (limbs4 (beN f k)).setIfInBounds q (.int .u64 (bits BinOp.or IntKind.u64 ((limb (beN f k) q : Nat) : Int) (IntKind.u64.wrap (IntKind.u64.wrap (f (31 - k)) * 2 ^ (8 * (k % 8)))))) = limbs4 (beN f (k + 1)) := by
  have hb := hf (31 - k)
  have e : IntKind.u64.wrap (f (31 - k)) = (((f (31 - k)).toNat : Nat) : Int) := by rw [IntKind.wrap_u64]; omega
  obtain ⟨h1, h2⟩ := or_step (beN f k) (f (31 - k)).toNat k q (beN f (k + 1)) (beN_lt f hf k) (by omega) hq rfl
  rw [e, h1]
  have h0 := h2 0; have h1' := h2 1; have h2' := h2 2; have h3' := h2 3
  have hq4 : q = 0 ∨ q = 1 ∨ q = 2 ∨ q = 3 := by omega
  simp only [limbs4]
  rcases hq4 with rfl | rfl | rfl | rfl
  · rw [h1' (by decide), h2' (by decide), h3' (by decide)]; rfl
  · rw [h0 (by decide), h2' (by decide), h3' (by decide)]; rfl
  · rw [h0 (by decide), h1' (by decide), h3' (by decide)]; rfl
  · rw [h0 (by decide), h1' (by decide), h2' (by decide)]; rfl
theorem limbs4_zero : limbs4 0 = #[.int .u64 0, .int .u64 0, .int .u64 0, .int .u64 0] := by kernel_rfl
/-- What the loop of From holds. -/
structure FromInv (f : Nat → Int) (w : World) (k : Nat) (wr : World) : Prop where
  src : wr.heap[w.heap.size]? = some (.cells (row32 f) 25 (0, 0))
  res : wr.heap[w.heap.size + 1]? = some (.cells (limbs4 0) 73 (0, 0))
  out : wr.heap[w.heap.size + 1 + 1]? = some (.cells (limbs4 (beN f k)) 73 (0, 0))
  below : Below w.heap.size w wr
  size : w.heap.size + 1 + 1 < wr.heap.size
theorem FromInv.step {f : Nat → Int} {w wr : World} {k : Nat} (h : FromInv f w k wr) (q : Nat) (v : Value) (hc : (limbs4 (beN f k)).setIfInBounds q v = limbs4 (beN f (k + 1))) :
    FromInv f w (k + 1) (wr.setCell ⟨w.heap.size + 1 + 1, q, none⟩ v).drew :=
  ⟨(heap_setCell_other _ _ _ _ (by simp; omega)).trans h.src, (heap_setCell_other _ _ _ _ (by simp)).trans h.res,
   by rw [← hc]; exact heap_setCell_same _ _ _ _ _ _ h.out, (h.below.setCell (by simp; omega) _).drew, by simpa using h.size⟩
theorem FromInv.result {f : Nat → Int} {w wr : World} (h : FromInv f w 32 wr) (hf : Bytes8 f) : ∃ z, z = beN f 32 ∧ z < W256 ∧ wr.heap[w.heap.size + 1 + 1]? = some (.cells (limbs4 z) 73 (0, 0)) :=
  ⟨_, rfl, by rw [W256_pow, show (2 : Nat) ^ 256 = 256 ^ 32 by decide]; exact beN_lt f hf 32, h.out⟩
set_option maxHeartbeats 1000000 in
theorem from_w (f : Nat → Int) (hf : Bytes8 f) (w : World) :
    Calls Try.prog 51 #[bv f] w (RetW w fun z => z = beN f 32) := by
  have hF := Lib.hid hf
  clear hf
  go_enter Try.func51, Try.ntmps51
  go_wp2
  go_loopw [5] (fun i wr => ∃ k : Nat, k ≤ 32 ∧ i = .int .i64 k ∧ FromInv f w k wr) (fun i _ => (32 - (intOf i).toNat))
  case atStart =>
    refine ⟨0, by omega, rfl, ⟨?_, ?_, ?_, by go_grown, by simp⟩⟩
    · rw [heapAt, if_neg (by simp; omega), heapAt, if_neg (by simp), heapAt, if_pos (by simp)]
    · rw [limbs4_zero]; exact heap_mid3 _ _ _ _
    · rw [show beN f 0 = 0 from rfl, limbs4_zero]; exact heap_new3 _ _ _ _
  case round =>
    obtain ⟨k, hk, rfl, hI⟩ := hrel
    by_cases hlt : k < 32
    · have e1 : (31 - (k : Int)).toNat = 31 - k := by omega
      have hq : (k : Int) / 8 = 0 ∨ (k : Int) / 8 = 1 ∨ (k : Int) / 8 = 2 ∨ (k : Int) / 8 = 3 := by omega
      have c1 : wr.cell? ⟨w.heap.size, 31 - k, none⟩ = some (.int .u8 (f (31 - k))) := by
        rw [cell_of_row _ _ _ _ _ _ hI.src]; exact row32_get f _ (by omega)
      have d0 : wr.cell? ⟨w.heap.size + 1 + 1, 0, none⟩ = some (.int .u64 (limb (beN f k) 0 : Nat)) := (cell_of_row _ _ _ _ _ _ hI.out).trans rfl
      have d1 : wr.cell? ⟨w.heap.size + 1 + 1, 1, none⟩ = some (.int .u64 (limb (beN f k) 1 : Nat)) := (cell_of_row _ _ _ _ _ _ hI.out).trans rfl
      have d2 : wr.cell? ⟨w.heap.size + 1 + 1, 2, none⟩ = some (.int .u64 (limb (beN f k) 2 : Nat)) := (cell_of_row _ _ _ _ _ _ hI.out).trans rfl
      have d3 : wr.cell? ⟨w.heap.size + 1 + 1, 3, none⟩ = some (.int .u64 (limb (beN f k) 3 : Nat)) := (cell_of_row _ _ _ _ _ _ hI.out).trans rfl
      have f0 := frozen_of_row wr _ 0 _ _ hI.out; have f1 := frozen_of_row wr _ 1 _ _ hI.out; have f2 := frozen_of_row wr _ 2 _ _ hI.out; have f3 := frozen_of_row wr _ 3 _ _ hI.out
      rcases hq with hq | hq | hq | hq
      · have hstep := Lib.hid (hI.step 0 _ (from_round f hF.out k 0 hlt (by omega)))
        have HI := Lib.hid hI
        clear hI
        go_wp2
        go_region
        go_wp2
        go_roundw
        case rel => exact ⟨k + 1, by omega, by go_num, hstep.out⟩
        case measure => simp [intOf]; omega
      · have hstep := Lib.hid (hI.step 1 _ (from_round f hF.out k 1 hlt (by omega)))
        have HI := Lib.hid hI
        clear hI
        go_wp2
        go_region
        go_wp2
        go_roundw
        case rel => exact ⟨k + 1, by omega, by go_num, hstep.out⟩
        case measure => simp [intOf]; omega
      · have hstep := Lib.hid (hI.step 2 _ (from_round f hF.out k 2 hlt (by omega)))
        have HI := Lib.hid hI
        clear hI
        go_wp2
        go_region
        go_wp2
        go_roundw
        case rel => exact ⟨k + 1, by omega, by go_num, hstep.out⟩
        case measure => simp [intOf]; omega
      · have hstep := Lib.hid (hI.step 3 _ (from_round f hF.out k 3 hlt (by omega)))
        have HI := Lib.hid hI
        clear hI
        go_wp2
        go_region
        go_wp2
        go_roundw
        case rel => exact ⟨k + 1, by omega, by go_num, hstep.out⟩
        case measure => simp [intOf]; omega
    · obtain rfl : k = 32 := by omega
      obtain ⟨z, hz, hz2, hout⟩ := hI.result hF.out
      have Hz := Lib.hid hz; have Hz2 := Lib.hid hz2; have HO := Lib.hid hout; have HR := Lib.hid hI.res; have HB := Lib.hid hI.below
      clear hI hz hz2 hout
      go_wp2_with (first
        | (refine wpList_load_row rfl 73 (.tmp 3) rfl (w.heap.size + 1 + 1) rfl 73 (limbs4 z) (0, 0) _ HO.out Try.underlying73 rfl (by kernel_rfl) ?_)
        | (refine wpList_store_row rfl 73 (.tmp 2) (.tmp 24) rfl (w.heap.size + 1) (limbs4 z) rfl rfl 73 (limbs4 0) HR.out (by kernel_rfl) rfl (limbs4_one _) ?_))
      refine bodyPost_ret (results_cell_row rfl _ _ (w.heap.size + 1) 73 (limbs4 z) (0, 0) _ rfl (setRow_heap _ _ _ _ _ _ HR.out) Try.underlying73 rfl (by kernel_rfl)) rfl ?_
      exact ⟨z, Hz2.out, Hz.out, rfl, below_setRow HB.out (by omega) _⟩
end Go.Proofs.Ytbaifchbpnmkpaa
namespace Go.Proofs.Ytbaifchbpnmkpaa
open Go.RowKit
/-- One step of the school's multiplication. -/
theorem mstep (x y o c : Int) (hx : Wd x) (hy : Wd y) (ho : Wd o) (hc : Wd c) : ∃ h l s c1 t d k : Int,
    (Wd t ∧ Wd k ∧ t + 18446744073709551616 * k = o + x * y + c) ∧
    (∀ w, Calls Try.prog 89 #[.int .u64 x, .int .u64 y] w fun e w' => e = .returned (.tuple #[.int .u64 h, .int .u64 l]) ∧ w' = w) ∧
    (∀ w, (callFunc 85 #[.int .u64 o, .int .u64 l, .int .u64 0]).run Try.prog w = .ok (.value (.tuple #[.int .u64 s, .int .u64 c1])) w) ∧
    (∀ w, (callFunc 85 #[.int .u64 s, .int .u64 c, .int .u64 0]).run Try.prog w = .ok (.value (.tuple #[.int .u64 t, .int .u64 d])) w) ∧
    (IntKind.u64.wrap (IntKind.u64.wrap (h + c1) + d) = k) := by
  obtain ⟨hx0, hx1⟩ := hx; obtain ⟨hy0, hy1⟩ := hy; obtain ⟨ho0, ho1⟩ := ho; obtain ⟨hc0, hc1⟩ := hc
  obtain ⟨X, rfl⟩ := Int.eq_ofNat_of_zero_le hx0
  obtain ⟨Y, rfl⟩ := Int.eq_ofNat_of_zero_le hy0
  have hm := fun w => Try.bits_Mul64 X Y (by omega) (by omega) w
  have hle : X * Y ≤ 18446744073709551615 * 18446744073709551615 := Nat.mul_le_mul (by omega) (by omega)
  have hcast : ((X : Int) * (Y : Int)) = ((X * Y : Nat) : Int) := by simp
  obtain ⟨s, c1, H1, f1⟩ := add64 o ((X * Y % 18446744073709551616 : Nat) : Int) 0 ho0 (by omega) (by omega) (by omega)
  obtain ⟨t, d, H2, f2⟩ := add64 s c 0 (by omega) hc0 (by omega) (by omega)
  refine ⟨((X * Y / 18446744073709551616 : Nat) : Int), ((X * Y % 18446744073709551616 : Nat) : Int), s, c1, t, d, ((X * Y / 18446744073709551616 : Nat) : Int) + c1 + d, ?_, hm, f1, f2, ?_⟩
  · unfold Wd; rw [hcast]; omega
  · rw [IntKind.wrap_u64, IntKind.wrap_u64]; omega
theorem index_w0 (a b c d : Int) (w : World) : (Instr.index 73 (.agg #[.int .u64 a, .int .u64 b, .int .u64 c, .int .u64 d]) (.int .i64 0)).run Try.prog w = .ok (.int .u64 a) w := by kernel_rfl
theorem index_w1 (a b c d : Int) (w : World) : (Instr.index 73 (.agg #[.int .u64 a, .int .u64 b, .int .u64 c, .int .u64 d]) (.int .i64 1)).run Try.prog w = .ok (.int .u64 b) w := by kernel_rfl
theorem index_w2 (a b c d : Int) (w : World) : (Instr.index 73 (.agg #[.int .u64 a, .int .u64 b, .int .u64 c, .int .u64 d]) (.int .i64 2)).run Try.prog w = .ok (.int .u64 c) w := by kernel_rfl
theorem index_w3 (a b c d : Int) (w : World) : (Instr.index 73 (.agg #[.int .u64 a, .int .u64 b, .int .u64 c, .int .u64 d]) (.int .i64 3)).run Try.prog w = .ok (.int .u64 d) w := by kernel_rfl
theorem array_at4 (a : Addr) (c : Nat) (w : World) : (Instr.arrayAt 73 (.slice (some a) 4 c)).run Try.prog w = .ok (.pointer (some a)) w := by kernel_rfl
/-- What Mul leaves: eight words. -/
def Ret8 (w : World) (Q : Int → Int → Prop) (e : Ending) (w' : World) : Prop := ∃ s0 s1 s2 s3 t0 t1 t2 t3 : Int, Wd s0 ∧ Wd s1 ∧ Wd s2 ∧ Wd s3 ∧ Wd t0 ∧ Wd t1 ∧ Wd t2 ∧ Wd t3 ∧ Q (sum4 s0 s1 s2 s3) (sum4 t0 t1 t2 t3) ∧
  e = .returned (.tuple #[.agg #[.int .u64 s0, .int .u64 s1, .int .u64 s2, .int .u64 s3], .agg #[.int .u64 t0, .int .u64 t1, .int .u64 t2, .int .u64 t3]]) ∧ Below w.heap.size w w'
theorem mul_plain (a0 a1 a2 a3 b0 b1 b2 b3 : Int) : sum4 a0 a1 a2 a3 * sum4 b0 b1 b2 b3 =
    sum4 (a0*b0) (a0*b1) (a0*b2) (a0*b3) + 18446744073709551616 * sum4 (a1*b0) (a1*b1) (a1*b2) (a1*b3) + 340282366920938463463374607431768211456 * sum4 (a2*b0) (a2*b1) (a2*b2) (a2*b3) + 6277101735386680763835789423207666416102355444464034512896 * sum4 (a3*b0) (a3*b1) (a3*b2) (a3*b3) := by
  unfold sum4; grind
set_option maxHeartbeats 4000000 in
theorem mul_w (a0 a1 a2 a3 b0 b1 b2 b3 : Int) (w : World) (ha0 : Wd a0) (ha1 : Wd a1) (ha2 : Wd a2) (ha3 : Wd a3) (hb0 : Wd b0) (hb1 : Wd b1) (hb2 : Wd b2) (hb3 : Wd b3) :
    Calls Try.prog 83 #[.agg #[.int .u64 a0, .int .u64 a1, .int .u64 a2, .int .u64 a3], .agg #[.int .u64 b0, .int .u64 b1, .int .u64 b2, .int .u64 b3]] w
      (Ret8 w fun s t => s + 115792089237316195423570985008687907853269984665640564039457584007913129639936 * t = sum4 a0 a1 a2 a3 * sum4 b0 b1 b2 b3) := by
  have Z : Wd 0 := ⟨by omega, by omega⟩
  obtain ⟨h00, l00, s00, c00, t00, d00, k00, ⟨T00, K00, E00⟩, m00, f00, g00, r00⟩ := mstep a0 b0 (0) 0 ha0 hb0 Z Z
  obtain ⟨h01, l01, s01, c01, t01, d01, k01, ⟨T01, K01, E01⟩, m01, f01, g01, r01⟩ := mstep a0 b1 (0) k00 ha0 hb1 Z K00
  obtain ⟨h02, l02, s02, c02, t02, d02, k02, ⟨T02, K02, E02⟩, m02, f02, g02, r02⟩ := mstep a0 b2 (0) k01 ha0 hb2 Z K01
  obtain ⟨h03, l03, s03, c03, t03, d03, k03, ⟨T03, K03, E03⟩, m03, f03, g03, r03⟩ := mstep a0 b3 (0) k02 ha0 hb3 Z K02
  obtain ⟨h10, l10, s10, c10, t10, d10, k10, ⟨T10, K10, E10⟩, m10, f10, g10, r10⟩ := mstep a1 b0 (t01) 0 ha1 hb0 T01 Z
  obtain ⟨h11, l11, s11, c11, t11, d11, k11, ⟨T11, K11, E11⟩, m11, f11, g11, r11⟩ := mstep a1 b1 (t02) k10 ha1 hb1 T02 K10
  obtain ⟨h12, l12, s12, c12, t12, d12, k12, ⟨T12, K12, E12⟩, m12, f12, g12, r12⟩ := mstep a1 b2 (t03) k11 ha1 hb2 T03 K11
  obtain ⟨h13, l13, s13, c13, t13, d13, k13, ⟨T13, K13, E13⟩, m13, f13, g13, r13⟩ := mstep a1 b3 (k03) k12 ha1 hb3 K03 K12
  obtain ⟨h20, l20, s20, c20, t20, d20, k20, ⟨T20, K20, E20⟩, m20, f20, g20, r20⟩ := mstep a2 b0 (t11) 0 ha2 hb0 T11 Z
  obtain ⟨h21, l21, s21, c21, t21, d21, k21, ⟨T21, K21, E21⟩, m21, f21, g21, r21⟩ := mstep a2 b1 (t12) k20 ha2 hb1 T12 K20
  obtain ⟨h22, l22, s22, c22, t22, d22, k22, ⟨T22, K22, E22⟩, m22, f22, g22, r22⟩ := mstep a2 b2 (t13) k21 ha2 hb2 T13 K21
  obtain ⟨h23, l23, s23, c23, t23, d23, k23, ⟨T23, K23, E23⟩, m23, f23, g23, r23⟩ := mstep a2 b3 (k13) k22 ha2 hb3 K13 K22
  obtain ⟨h30, l30, s30, c30, t30, d30, k30, ⟨T30, K30, E30⟩, m30, f30, g30, r30⟩ := mstep a3 b0 (t21) 0 ha3 hb0 T21 Z
  obtain ⟨h31, l31, s31, c31, t31, d31, k31, ⟨T31, K31, E31⟩, m31, f31, g31, r31⟩ := mstep a3 b1 (t22) k30 ha3 hb1 T22 K30
  obtain ⟨h32, l32, s32, c32, t32, d32, k32, ⟨T32, K32, E32⟩, m32, f32, g32, r32⟩ := mstep a3 b2 (t23) k31 ha3 hb2 T23 K31
  obtain ⟨h33, l33, s33, c33, t33, d33, k33, ⟨T33, K33, E33⟩, m33, f33, g33, r33⟩ := mstep a3 b3 (k23) k32 ha3 hb3 K23 K32
  have G : Hid (sum4 t00 t10 t20 t30 + 115792089237316195423570985008687907853269984665640564039457584007913129639936 * sum4 t31 t32 t33 k33 = sum4 a0 a1 a2 a3 * sum4 b0 b1 b2 b3) := by
    rw [mul_plain]; unfold Hid sum4; omega
  clear E00 E01 E02 E03 E10 E11 E12 E13 E20 E21 E22 E23 E30 E31 E32 E33
  have M00 := Lib.hid m00; clear m00
  have M01 := Lib.hid m01; clear m01
  have M02 := Lib.hid m02; clear m02
  have M03 := Lib.hid m03; clear m03
  have M10 := Lib.hid m10; clear m10
  have M11 := Lib.hid m11; clear m11
  have M12 := Lib.hid m12; clear m12
  have M13 := Lib.hid m13; clear m13
  have M20 := Lib.hid m20; clear m20
  have M21 := Lib.hid m21; clear m21
  have M22 := Lib.hid m22; clear m22
  have M23 := Lib.hid m23; clear m23
  have M30 := Lib.hid m30; clear m30
  have M31 := Lib.hid m31; clear m31
  have M32 := Lib.hid m32; clear m32
  have M33 := Lib.hid m33; clear m33
  unfold Wd at *
  have xarr := array_at4
  have xa0 := index_w0 a0 a1 a2 a3
  have xa1 := index_w1 a0 a1 a2 a3
  have xa2 := index_w2 a0 a1 a2 a3
  have xa3 := index_w3 a0 a1 a2 a3
  have xb0 := index_w0 b0 b1 b2 b3
  have xb1 := index_w1 b0 b1 b2 b3
  have xb2 := index_w2 b0 b1 b2 b3
  have xb3 := index_w3 b0 b1 b2 b3
  go_enter Try.func83, Try.ntmps83
  go_wp2
  refine wp_loop_rounds 5 ?_
  rw [rounds_succ]; go_wp2
  refine wp_loop_rounds 5 ?_
  rw [rounds_succ]; go_wp2_with (go_at_call 89; refine (M00.out _).mono ?_; rintro e w' ⟨rfl, rfl⟩)
  rw [rounds_succ]; go_wp2_with (go_at_call 89; refine (M01.out _).mono ?_; rintro e w' ⟨rfl, rfl⟩)
  rw [rounds_succ]; go_wp2_with (go_at_call 89; refine (M02.out _).mono ?_; rintro e w' ⟨rfl, rfl⟩)
  rw [rounds_succ]; go_wp2_with (go_at_call 89; refine (M03.out _).mono ?_; rintro e w' ⟨rfl, rfl⟩)
  rw [rounds_succ]; go_wp2
  rw [rounds_succ]; go_wp2
  refine wp_loop_rounds 5 ?_
  rw [rounds_succ]; go_wp2_with (go_at_call 89; refine (M10.out _).mono ?_; rintro e w' ⟨rfl, rfl⟩)
  rw [rounds_succ]; go_wp2_with (go_at_call 89; refine (M11.out _).mono ?_; rintro e w' ⟨rfl, rfl⟩)
  rw [rounds_succ]; go_wp2_with (go_at_call 89; refine (M12.out _).mono ?_; rintro e w' ⟨rfl, rfl⟩)
  rw [rounds_succ]; go_wp2_with (go_at_call 89; refine (M13.out _).mono ?_; rintro e w' ⟨rfl, rfl⟩)
  rw [rounds_succ]; go_wp2
  rw [rounds_succ]; go_wp2
  refine wp_loop_rounds 5 ?_
  rw [rounds_succ]; go_wp2_with (go_at_call 89; refine (M20.out _).mono ?_; rintro e w' ⟨rfl, rfl⟩)
  rw [rounds_succ]; go_wp2_with (go_at_call 89; refine (M21.out _).mono ?_; rintro e w' ⟨rfl, rfl⟩)
  rw [rounds_succ]; go_wp2_with (go_at_call 89; refine (M22.out _).mono ?_; rintro e w' ⟨rfl, rfl⟩)
  rw [rounds_succ]; go_wp2_with (go_at_call 89; refine (M23.out _).mono ?_; rintro e w' ⟨rfl, rfl⟩)
  rw [rounds_succ]; go_wp2
  rw [rounds_succ]; go_wp2
  refine wp_loop_rounds 5 ?_
  rw [rounds_succ]; go_wp2_with (go_at_call 89; refine (M30.out _).mono ?_; rintro e w' ⟨rfl, rfl⟩)
  rw [rounds_succ]; go_wp2_with (go_at_call 89; refine (M31.out _).mono ?_; rintro e w' ⟨rfl, rfl⟩)
  rw [rounds_succ]; go_wp2_with (go_at_call 89; refine (M32.out _).mono ?_; rintro e w' ⟨rfl, rfl⟩)
  rw [rounds_succ]; go_wp2_with (go_at_call 89; refine (M33.out _).mono ?_; rintro e w' ⟨rfl, rfl⟩)
  rw [rounds_succ]; go_wp2
  rw [rounds_succ]; go_wp2
  go_region
  go_wp2
  go_returns
  exact ⟨_, _, _, _, _, _, _, _, T00, T10, T20, T30, T31, T32, T33, K33, G.out, rfl, by go_grown⟩
/-- Mul: the lower and the upper 256 bits. -/
theorem mul_c (x y : Nat) (hx : x < W256) (hy : y < W256) (w : World) :
    Calls Try.prog 83 #[wv x, wv y] w (RetWW w fun l h => l = x * y % W256 ∧ h = x * y / W256) := by
  refine (mul_w _ _ _ _ _ _ _ _ w (wd_limb x 0) (wd_limb x 1) (wd_limb x 2) (wd_limb x 3) (wd_limb y 0) (wd_limb y 1) (wd_limb y 2) (wd_limb y 3)).mono ?_
  rintro e w' ⟨s0, s1, s2, s3, t0, t1, t2, t3, h0, h1, h2, h3, k0, k1, k2, k3, hQ, he, hb⟩
  rw [sum4_limbs x hx, sum4_limbs y hy] at hQ
  have hs := sum4_bd h0 h1 h2 h3
  have ht := sum4_bd k0 k1 k2 k3
  have hm : ((x : Int) * (y : Int)) = ((x * y : Nat) : Int) := by simp
  rw [hm] at hQ
  have hd : x * y / W256 < W256 := Nat.div_lt_of_lt_mul (Nat.mul_lt_mul'' hx hy)
  refine ⟨x * y % W256, x * y / W256, Nat.mod_lt _ (by decide), hd, ⟨rfl, rfl⟩, ?_, hb⟩
  rw [he, wv_of (x * y % W256) (Nat.mod_lt _ (by decide)) s0 s1 s2 s3 h0 h1 h2, wv_of (x * y / W256) hd t0 t1 t2 t3 k0 k1 k2]
  · show _ = sum4 t0 t1 t2 t3
    rw [W256_eq]; generalize x * y = m at *; omega
  · show _ = sum4 s0 s1 s2 s3
    rw [W256_eq]; generalize x * y = m at *; omega
end Go.Proofs.Ytbaifchbpnmkpaa
namespace Go.Proofs.Ytbaifchbpnmkpaa
open Go.RowKit
/-- Are two arrays of n numbers the same? -/
def alike (n : Nat) (f g : Nat → Int) : Bool := (List.range n).all fun i => f i == g i
theorem alike_iff (n : Nat) (f g : Nat → Int) : alike n f g = true ↔ ∀ i, i < n → f i = g i := by
  simp [alike]
theorem run_eqItems_ints {P : Program} (w : World) (d : Nat) {e : TypeId} {k : IntKind} (he : P.underlying e = some (.int k)) (f g : Nat → Int) (xs ys : Array Value) (l : List Nat)
    (hx : ∀ j, j ∈ l → xs[j]? = some (.int k (f j))) (hy : ∀ j, j ∈ l → ys[j]? = some (.int k (g j))) :
    (Op.eqItems (d + 1) e 1 xs ys l).run P w = .ok (l.all fun i => f i == g i) w := by
  induction l with
  | nil => simp [Op.eqItems]
  | cons j l ih =>
    have hxj := hx j (by simp)
    have hyj := hy j (by simp)
    obtain ⟨hxs, hxv⟩ := Array.getElem?_eq_some_iff.1 hxj
    obtain ⟨hys, hyv⟩ := Array.getElem?_eq_some_iff.1 hyj
    have hag : (isAgg e).run P w = .ok false w := by
      unfold isAgg; rw [Sem.run_bind, run_underlying he w]; rfl
    have px : (part e xs (j * 1)).run P w = .ok (.int k (f j)) w := by
      unfold part; simp [Sem.run_bind, hag, hxs, hxv]
    have py : (part e ys (j * 1)).run P w = .ok (.int k (g j)) w := by
      unfold part; simp [Sem.run_bind, hag, hys, hyv]
    have pe : (Op.equalIn (d + 1) e (.int k (f j)) (.int k (g j))).run P w = .ok (f j == g j) w := run_equalIn_int w d e k k (f j) (g j) he
    simp only [Op.eqItems, Sem.run_bind, px, py, pe, Result.andThen_ok]
    by_cases h : f j = g j
    · simp [h]
      simpa using ih (fun j hj => hx j (by simp [hj])) (fun j hj => hy j (by simp [hj]))
    · have : (f j == g j) = false := by simpa using h
      simp [this]
theorem run_eql_array {P : Program} (w : World) {t e : TypeId} {n : Nat} {k : IntKind} {i : TypeInfo} (hu : P.underlying t = some (.array n e)) (he : P.underlying e = some (.int k)) (hi : P.info? e = some i) (hc : P.cellsOf e = 1)
    (f g : Nat → Int) (xs ys : Array Value) (hx : ∀ j, j < n → xs[j]? = some (.int k (f j))) (hy : ∀ j, j < n → ys[j]? = some (.int k (g j))) :
    (Op.equalIn 10000 t (.agg xs) (.agg ys)).run P w = .ok (alike n f g) w := by
  rw [run_equalIn_array w 9999 xs ys hu hi, hc]
  exact run_eqItems_ints w 9998 he f g xs ys _ (fun j hj => hx j (by simpa using hj)) (fun j hj => hy j (by simpa using hj))
/-- Are two numbers the same? (As the program asks it: limb by limb.) -/
def weq (x y : Nat) : Bool := alike 4 (fun i => ((limb x i : Nat) : Int)) (fun i => ((limb y i : Nat) : Int))
theorem weq_iff {x y : Nat} (hx : x < W256) (hy : y < W256) : weq x y = true ↔ x = y := by
  unfold weq
  rw [alike_iff]
  constructor
  · intro h
    have h0 := h 0 (by decide); have h1 := h 1 (by decide); have h2 := h 2 (by decide); have h3 := h 3 (by decide)
    exact limb_ext hx hy (by omega) (by omega) (by omega) (by omega)
  · rintro rfl i _; rfl
theorem weq_decide {x y : Nat} (hx : x < W256) (hy : y < W256) : weq x y = decide (x = y) := by
  rw [Bool.eq_iff_iff, weq_iff hx hy]; simp
theorem get_wv (x j : Nat) (h : j < 4) : (#[Value.int .u64 (limb x 0 : Nat), .int .u64 (limb x 1 : Nat), .int .u64 (limb x 2 : Nat), .int .u64 (limb x 3 : Nat)])[j]? = some (.int .u64 ((fun i => ((limb x i : Nat) : Int)) j)) := by
  match j, h with
  | 0, _ => rfl
  | 1, _ => rfl
  | 2, _ => rfl
  | 3, _ => rfl
theorem get_w0 (j : Nat) (h : j < 4) : (#[Value.int .u64 0, .int .u64 0, .int .u64 0, .int .u64 0])[j]? = some (.int .u64 ((fun i => ((limb 0 i : Nat) : Int)) j)) := by
  match j, h with
  | 0, _ => rfl
  | 1, _ => rfl
  | 2, _ => rfl
  | 3, _ => rfl
/-- The type's row, said once. -/
theorem wide_info : (Try.prog.info? 71).isSome = true := by kernel_rfl
theorem wide_cells : Try.prog.cellsOf 71 = 1 := by kernel_rfl
theorem wide_guard : Try.prog.eqGuardType Try.prog.depth 73 = false := by kernel_rfl
theorem eql_wide (x y : Nat) (w : World) : (Op.equalIn 10000 73 (.agg #[.int .u64 (limb x 0 : Nat), .int .u64 (limb x 1 : Nat), .int .u64 (limb x 2 : Nat), .int .u64 (limb x 3 : Nat)]) (.agg #[.int .u64 (limb y 0 : Nat), .int .u64 (limb y 1 : Nat), .int .u64 (limb y 2 : Nat), .int .u64 (limb y 3 : Nat)])).run Try.prog w = .ok (weq x y) w := by
  obtain ⟨i, hi⟩ := Option.isSome_iff_exists.1 wide_info
  exact run_eql_array w Try.underlying73 Try.underlying71 hi wide_cells _ _ _ _ (get_wv x) (get_wv y)
theorem eql_wide0 (x : Nat) (w : World) : (Op.equalIn 10000 73 (.agg #[.int .u64 (limb x 0 : Nat), .int .u64 (limb x 1 : Nat), .int .u64 (limb x 2 : Nat), .int .u64 (limb x 3 : Nat)]) (.agg #[.int .u64 0, .int .u64 0, .int .u64 0, .int .u64 0])).run Try.prog w = .ok (weq x 0) w := by
  obtain ⟨i, hi⟩ := Option.isSome_iff_exists.1 wide_info
  exact run_eql_array w Try.underlying73 Try.underlying71 hi wide_cells _ _ _ _ (get_wv x) get_w0
end Go.Proofs.Ytbaifchbpnmkpaa
namespace Go.Proofs.Ytbaifchbpnmkpaa
open Go.RowKit
/-- What a row of four limbs gives the walk. -/
theorem at4 {w : World} {b z : Nat} {t : TypeId} (h : w.heap[b]? = some (.cells (limbs4 z) t (0, 0))) :
    (w.cell? ⟨b, 0, none⟩ = some (.int .u64 (limb z 0 : Nat)) ∧ w.cell? ⟨b, 1, none⟩ = some (.int .u64 (limb z 1 : Nat)) ∧ w.cell? ⟨b, 2, none⟩ = some (.int .u64 (limb z 2 : Nat)) ∧ w.cell? ⟨b, 3, none⟩ = some (.int .u64 (limb z 3 : Nat))) ∧
    (w.frozen? ⟨b, 0, none⟩ = false ∧ w.frozen? ⟨b, 1, none⟩ = false ∧ w.frozen? ⟨b, 2, none⟩ = false ∧ w.frozen? ⟨b, 3, none⟩ = false) :=
  ⟨⟨(cell_of_row _ _ _ _ _ _ h).trans rfl, (cell_of_row _ _ _ _ _ _ h).trans rfl, (cell_of_row _ _ _ _ _ _ h).trans rfl, (cell_of_row _ _ _ _ _ _ h).trans rfl⟩,
   frozen_of_row _ _ _ _ _ h, frozen_of_row _ _ _ _ _ h, frozen_of_row _ _ _ _ _ h, frozen_of_row _ _ _ _ _ h⟩
/-- What the loop of Div holds in memory. -/
structure DivRows (w : World) (y q r : Nat) (wr : World) : Prop where
  a : wr.heap[w.heap.size]? = some (.cells (limbs4 r) 73 (0, 0))
  b : wr.heap[w.heap.size + 1]? = some (.cells (limbs4 y) 73 (0, 0))
  c : wr.heap[w.heap.size + 1 + 1]? = some (.cells (limbs4 0) 73 (0, 0))
  d : wr.heap[w.heap.size + 1 + 1 + 1]? = some (.cells (limbs4 0) 73 (0, 0))
  t : wr.heap[w.heap.size + 1 + 1 + 1 + 1]? = some (.cells (limbs4 q) 73 (0, 0))
  below : Below w.heap.size w wr
  size : w.heap.size + 5 ≤ wr.heap.size
theorem DivRows.keep {w W w' : World} {y q r : Nat} (h : DivRows w y q r W) (hb : Below W.heap.size W w') : DivRows w y q r w' :=
  have hs := h.size
  ⟨(hb.block _ (by omega)).trans h.a, (hb.block _ (by omega)).trans h.b, (hb.block _ (by omega)).trans h.c, (hb.block _ (by omega)).trans h.d, (hb.block _ (by omega)).trans h.t,
   h.below.trans (hb.mono (by omega)), by have := hb.size; omega⟩
theorem DivRows.cells {w W : World} {y q r : Nat} (h : DivRows w y q r W) :
    W.cell? ⟨w.heap.size, 0, none⟩ = some (.int .u64 (limb r 0 : Nat)) ∧ W.cell? ⟨w.heap.size, 1, none⟩ = some (.int .u64 (limb r 1 : Nat)) ∧ W.cell? ⟨w.heap.size, 2, none⟩ = some (.int .u64 (limb r 2 : Nat)) ∧ W.cell? ⟨w.heap.size, 3, none⟩ = some (.int .u64 (limb r 3 : Nat)) ∧
      W.cell? ⟨w.heap.size + 1, 0, none⟩ = some (.int .u64 (limb y 0 : Nat)) ∧ W.cell? ⟨w.heap.size + 1, 1, none⟩ = some (.int .u64 (limb y 1 : Nat)) ∧ W.cell? ⟨w.heap.size + 1, 2, none⟩ = some (.int .u64 (limb y 2 : Nat)) ∧ W.cell? ⟨w.heap.size + 1, 3, none⟩ = some (.int .u64 (limb y 3 : Nat)) ∧ DivRows w y q r W := by
  obtain ⟨⟨a0, a1, a2, a3⟩, -⟩ := at4 h.a
  obtain ⟨⟨b0, b1, b2, b3⟩, -⟩ := at4 h.b
  exact ⟨a0, a1, a2, a3, b0, b1, b2, b3, h⟩
end Go.Proofs.Ytbaifchbpnmkpaa
namespace Go.Proofs.Ytbaifchbpnmkpaa
open Go.RowKit
/-- W is w with new blocks; each row of the list lies there. -/
structure St (w : World) (L : List (Nat × Obj)) (W : World) : Prop where
  below : Below w.heap.size w W
  rows : ∀ p, p ∈ L → W.heap[p.1]? = some p.2
theorem St.nil (w : World) : St w [] w := ⟨Below.refl _ _, fun _ h => by cases h⟩
theorem St.get {w W : World} {L : List (Nat × Obj)} (h : St w L W) {b : Nat} {o : Obj} (hm : (b, o) ∈ L) : W.heap[b]? = some o := h.rows _ hm
theorem St.keep {w W W' : World} {L : List (Nat × Obj)} (h : St w L W) (hb : Below W.heap.size W W') : St w L W' :=
  ⟨below_step h.below hb, fun p hp => (hb.block _ (lt_of_block (h.rows p hp))).trans (h.rows p hp)⟩
theorem St.alloc {w W : World} {L : List (Nat × Obj)} (h : St w L W) (o : Obj) (n : Nat) (hn : W.heap.size = n) : St w ((n, o) :: L) (W.alloc o) := by
  refine ⟨h.below.alloc h.below.size o, fun p hp => ?_⟩
  rcases List.mem_cons.1 hp with rfl | hp
  · rw [heapAt, if_pos hn.symm]
  · have := lt_of_block (h.rows p hp)
    rw [heapAt, if_neg (by omega)]
    exact h.rows p hp
theorem St.drew {w W : World} {L : List (Nat × Obj)} (h : St w L W) : St w L W.drew := ⟨h.below.drew, h.rows⟩
theorem St.drop {w W : World} {L L' : List (Nat × Obj)} (h : St w L W) (hs : ∀ p, p ∈ L' → p ∈ L) : St w L' W := ⟨h.below, fun p hp => h.rows p (hs p hp)⟩
/-- A row of four limbs. -/
@[reducible] def wrow (z : Nat) : Obj := .cells (limbs4 z) 73
/-- A number comes out of its variable. -/
theorem wpList_wide {ops : Array Oper} {rest : List Oper} {o : Oper} {a : Act} {w W : World} {L : List (Nat × Obj)} {Q : Exit → Act → World → Prop} (hw : Region.wanted o (yielded ops a.tmps) = true) (x : Operand) (ho : o.op = .load 73 x)
    (g : Nat) (hx : a.eval x = .pointer (some ⟨g, 0, none⟩)) (S : St w L W) (z : Nat) (hm : (g, wrow z) ∈ L)
    (h : wpList Try.prog ops Q rest (a.put o.dst (wv z)) W) : wpList Try.prog ops Q (o :: rest) a W :=
  wpList_step fun K hK => by
    rw [if_pos hw]
    exact wp_load_row 73 x ho g hx 73 (limbs4 z) (0, 0) _ (S.get hm) Try.underlying73 rfl (by kernel_rfl) (hK _ _ h)
theorem eql_wide_iff {x y : Nat} (hx : x < W256) (hy : y < W256) (h : x = y) : weq x y = true := (weq_iff hx hy).2 h
theorem weq_false {x y : Nat} (hx : x < W256) (hy : y < W256) (h : x ≠ y) : weq x y = false := by
  rw [weq_decide hx hy]; simpa using h
/-- What St says of a number's cells, as rules for a region that draws its order. -/
theorem St.reads {w : World} {L : List (Nat × Obj)} {g z : Nat} (hm : (g, wrow z) ∈ L) : ∀ W, St w L W → W.cell? ⟨g, 0, none⟩ = some (.int .u64 (limb z 0 : Nat)) ∧ W.cell? ⟨g, 1, none⟩ = some (.int .u64 (limb z 1 : Nat)) ∧ W.cell? ⟨g, 2, none⟩ = some (.int .u64 (limb z 2 : Nat)) ∧ W.cell? ⟨g, 3, none⟩ = some (.int .u64 (limb z 3 : Nat)) :=
  fun _ S => (at4 (S.get hm)).1
theorem St.alloc0 {w W : World} {L : List (Nat × Obj)} (h : St w L W) (o : Obj) : St w L (W.alloc o) := (h.alloc o _ rfl).drop (fun _ hp => List.mem_cons_of_mem _ hp)
theorem St.cons {w W : World} {L : List (Nat × Obj)} (h : St w L W) {g : Nat} {o : Obj} (hg : W.heap[g]? = some o) : St w ((g, o) :: L) W :=
  ⟨h.below, fun p hp => by
    rcases List.mem_cons.1 hp with rfl | hp
    · exact hg
    · exact h.rows p hp⟩
theorem keepH {W W' : World} (hb : Below W.heap.size W W') {b : Nat} {o : Obj} (h : W.heap[b]? = some o) : W'.heap[b]? = some o := (hb.block _ (lt_of_block h)).trans h
theorem lastH (W : World) (o : Obj) (n : Nat) (h : W.heap.size = n) : (W.alloc o).heap[n]? = some o := by rw [heapAt, if_pos h.symm]
end Go.Proofs.Ytbaifchbpnmkpaa
namespace Go.Proofs.Ytbaifchbpnmkpaa
open Go.RowKit
/-- A block of a function's code, by its number. -/
def blk (n : Nat) : Code → Option Code
  | .block i c => if i = n then some (.block i c) else blk n c
  | .seq a b => match blk n a with
    | some c => some c
    | none => blk n b
  | .loop c => blk n c
  | .scope c => blk n c
  | .cond _ a b => match blk n a with
    | some c => some c
    | none => blk n b
  | _ => none
def piece (f : Func) (n : Nat) : Code := (f.body.bind (blk n)).getD .skip
/-- A slot of a frame. -/
def slot (T : Array Value) (i : Nat) : Value := T.getD i undef
theorem frame_lit (T : Array Value) (n : Nat) (h : T.size = n) : T = ((List.range n).map (slot T)).toArray := by
  apply Array.ext
  · simp [h]
  · intro i h1 h2
    simp [slot, Array.getD, h1]
/-- A frame of n slots, of which these are known. -/
structure Fr (n : Nat) (a : Act) (l : List (Nat × Value)) : Prop where
  size : a.tmps.size = n
  defers : a.defers = []
  known : ∀ p, p ∈ l → slot a.tmps p.1 = p.2
theorem Fr.act {n : Nat} {a : Act} {l : List (Nat × Value)} (h : Fr n a l) : a = ⟨((List.range n).map (slot a.tmps)).toArray, []⟩ := by
  obtain ⟨T, d⟩ := a
  have h1 := h.size; have h2 := h.defers
  simp only at h1 h2
  rw [← frame_lit T n h1, h2]
end Go.Proofs.Ytbaifchbpnmkpaa
namespace Go.Proofs.Ytbaifchbpnmkpaa
open Go.RowKit
theorem keepI {L : Nat → Bool} {j k : Nat} {p : Prop} (h : L j = true → p) (hk : (j == k) = false) : also L k j = true → p := fun e => h (by simpa [also, hk] using e)
theorem keepF {L : Nat → Bool} {j k : Nat} {p : Prop} (h : L j = false → p) : also L k j = false → p := fun e => h (by simp [also] at e; exact e.2)
theorem keepD {L : Nat → Bool} {j i k : Nat} (h : L j = true → L i = true) (hk : (j == k) = false) : also L k j = true → also L k i = true := fun e => by
  have := h (by simpa [also, hk] using e)
  simp [also, this]
theorem alsoD {L : Nat → Bool} {i k : Nat} (h : L i = true) : also L k i = true := by simp [also, h]
theorem noF {L : Nat → Bool} {s i : Nat} (h : L s = true → L i = true) (hi : L i = false) : L s = false := by
  cases hs : L s with
  | false => rfl
  | true => rw [h hs] at hi; cases hi
theorem alsoF {L : Nat → Bool} {k : Nat} {p : Prop} : also L k k = false → p := fun e => by simp [also] at e
/-- The frame in which the region begins is named. -/
theorem wp_region_frame {P : Program} {l : List Oper} {Q : Exit → Act → World → Prop} {id : Nat} {a : Act} {w : World} (hm : P.follows .mixedOrders = true) (hp : plainOps l = true)
    (I : Array Value → (Nat → Bool) → Act → World → Prop) (h : ∀ T0, T0 = a.tmps → I T0 (fun _ => false) a w.drew ∧ Steps P (I T0) Q 0 l ∧ ∀ L a w, (∀ i, i < l.length → L i = true) → I T0 L a w → Q .normal a w) : (Code.region id l.toArray true).wp P Q a w := by
  obtain ⟨h1, h2, h3⟩ := h _ rfl
  exact wp_region_steps hm hp (I a.tmps) h1 h2 h3
/-- A frame with some slots written. -/
def sets (T : Array Value) : List (Nat × Value) → Array Value
  | [] => T
  | (i, v) :: l => sets (T.setIfInBounds i v) l
theorem sets_self : ∀ (l : List Nat) (T : Array Value), sets T (l.map fun s => (s, T.getD s undef)) = T
  | [], _ => rfl
  | s :: l, T => by
    have e : T.setIfInBounds s (T.getD s undef) = T := by
      by_cases hs : s < T.size
      · apply Array.ext_getElem?
        intro i
        rw [Array.getElem?_setIfInBounds]
        by_cases h : s = i
        · subst h
          rw [if_pos rfl, if_pos hs, Array.getElem?_eq_getElem hs]
          simp [Array.getD, hs]
        · rw [if_neg h]
      · unfold Array.setIfInBounds; rw [dif_neg hs]
    show sets (T.setIfInBounds s (T.getD s undef)) _ = T
    rw [e]; exact sets_self l T
/-- A row that lies in no block of the list's. -/
theorem St.setRow {w W : World} {L : List (Nat × Obj)} (h : St w L W) {g : Nat} (hg : w.heap.size ≤ g) (hL : ∀ p, p ∈ L → p.1 ≠ g) (c : Array Value) : St w L (W.setRow g c) :=
  ⟨below_setRow h.below hg c, fun p hp => (setRow_other W g p.1 c (hL p hp)).trans (h.rows p hp)⟩
/-- A variable of type T that the region makes: where it lies. -/
def Made (W : World) (T : TypeId) (n : Nat) (v : Value) (k : Bool) (z r : Array Value) : Prop := ∃ g, v = .pointer (some ⟨g, 0, none⟩) ∧ n ≤ g ∧ W.heap[g]? = some (.cells (if k then r else z) T (0, 0))
theorem Made.keep {W W' : World} {T : TypeId} {n : Nat} {v : Value} {k : Bool} {z r : Array Value} (h : Made W T n v k z r) (hb : Below W.heap.size W W') : Made W' T n v k z r := by
  obtain ⟨g, h1, h2, h3⟩ := h
  exact ⟨g, h1, h2, keepH hb h3⟩
theorem Made.alloc {W : World} {T : TypeId} {n : Nat} {v : Value} {k : Bool} {z r : Array Value} (h : Made W T n v k z r) (o : Obj) : Made (W.alloc o) T n v k z r := h.keep ((Below.refl _ _).alloc (Nat.le_refl _) _)
theorem Made.new (W : World) (T : TypeId) (n : Nat) (hn : n ≤ W.heap.size) (z r : Array Value) : Made (W.alloc (.cells z T)) T n (.pointer (some ⟨W.heap.size, 0, none⟩)) false z r :=
  ⟨_, rfl, hn, lastH _ _ _ rfl⟩
theorem Made.new' (W : World) (T : TypeId) (n : Nat) (hn : n ≤ W.heap.size) (z r : Array Value) {k : Bool} (hk : k = false) : Made (W.alloc (.cells z T)) T n (.pointer (some ⟨W.heap.size, 0, none⟩)) k z r := by
  subst hk; exact Made.new W T n hn z r
theorem Made.ne {W : World} {T : TypeId} {n : Nat} {v : Value} {k : Bool} {z r : Array Value} (h : Made W T n v k z r) : v ≠ .pointer (some ⟨W.heap.size, 0, none⟩) := by
  obtain ⟨g, rfl, h2, h3⟩ := h
  have := lt_of_block h3
  intro e
  injection e with e; injection e with e; injection e with e
  omega
theorem Made.other {W : World} {T : TypeId} {n g : Nat} {v : Value} {k : Bool} {z r : Array Value} (h : Made W T n v k z r) (hne : v ≠ .pointer (some ⟨g, 0, none⟩)) (c : Array Value) : Made (W.setRow g c) T n v k z r := by
  obtain ⟨g', rfl, h2, h3⟩ := h
  exact ⟨g', rfl, h2, (setRow_other W g g' c (fun e => hne (by rw [e]))).trans h3⟩
theorem Made.below {W : World} {T : TypeId} {n g : Nat} {v : Value} {k : Bool} {z r : Array Value} (h : Made W T n v k z r) (hg : g < n) (c : Array Value) : Made (W.setRow g c) T n v k z r :=
  h.other (by
    obtain ⟨g', rfl, h2, -⟩ := h
    intro e; injection e with e; injection e with e; injection e with e; omega) c
theorem Made.stored {W : World} {T : TypeId} {n g : Nat} {cs : Array Value} (h : W.heap[g]? = some (.cells cs T (0, 0))) (hn : n ≤ g) (z r : Array Value) : Made (W.setRow g r) T n (.pointer (some ⟨g, 0, none⟩)) true z r :=
  ⟨g, rfl, hn, setRow_heap W g cs _ _ _ h⟩
/-- A row's cells as a range. -/
theorem part_of_row {W : World} {g o : Nat} {cs : Array Value} {t : TypeId} {fr : Nat × Nat} (h : W.heap[g]? = some (.cells cs t fr)) (l : List Value) (hl : (cs.toList.drop o).take l.length = l) : W.rangeAt g o l := fun j v hv => by
  rw [cell_of_row _ _ _ _ _ _ h]
  have hj : j < l.length := (List.getElem?_eq_some_iff.1 hv).1
  rw [← hl, List.getElem?_take, if_pos hj, List.getElem?_drop] at hv
  simpa using hv
/-- A load of a number out of a row of its own, in the midst of an operation. -/
theorem wp_wide {o : Oper} {a : Act} {W : World} {K : Act → World → Prop} {Q : Exit → Act → World → Prop} (x : Operand) (ho : o.op = .load 73 x)
    (g : Nat) (hx : a.eval x = .pointer (some ⟨g, 0, none⟩)) (z : Nat) (hg : W.heap[g]? = some (wrow z)) (h : K (a.put o.dst (wv z)) W) : o.wp Try.prog a W K Q :=
  wp_load_row 73 x ho g hx 73 (limbs4 z) (0, 0) _ hg Try.underlying73 rfl (by kernel_rfl) h
theorem wp_part {o : Oper} {a : Act} {W : World} {K : Act → World → Prop} {Q : Exit → Act → World → Prop} (x : Operand) (ho : o.op = .load 73 x)
    (g of : Nat) (hx : a.eval x = .pointer (some ⟨g, of, none⟩)) (z : Nat) (hg : W.rangeAt g of (limbs4 z).toList) (h : K (a.put o.dst (wv z)) W) : o.wp Try.prog a W K Q :=
  wp_load_mid 73 x ho g of hx (limbs4 z).toList _ hg Try.underlying73 rfl (by kernel_rfl) h
theorem wp_put {o : Oper} {a : Act} {W : World} {K : Act → World → Prop} {Q : Exit → Act → World → Prop} (x y : Operand) (ho : o.op = .store 73 x y)
    (g : Nat) (hx : a.eval x = .pointer (some ⟨g, 0, none⟩)) (z y0 : Nat) (hy : a.eval y = wv z) (hg : W.heap[g]? = some (wrow y0)) (h : K (a.put o.dst undef) (W.setRow g (limbs4 z))) : o.wp Try.prog a W K Q :=
  wp_store_row 73 x y ho g (limbs4 z) hx hy 73 (limbs4 y0) hg (by kernel_rfl) rfl (limbs4_one z) h
theorem wp_put_made {o : Oper} {a : Act} {W : World} {K : Act → World → Prop} {Q : Exit → Act → World → Prop} (x y : Operand) (ho : o.op = .store 73 x y) (v : Value) (hx : a.eval x = v) (z : Nat) (hy : a.eval y = wv z)
    (n : Nat) (k : Bool) (r : Array Value) (hM : Made W 73 n v k (limbs4 0) r) (hk : k = false)
    (h : ∀ g, v = .pointer (some ⟨g, 0, none⟩) → n ≤ g → W.heap[g]? = some (wrow 0) → K (a.put o.dst undef) (W.setRow g (limbs4 z))) : o.wp Try.prog a W K Q := by
  obtain ⟨g, h1, h2, h3⟩ := hM
  subst hk
  exact wp_put x y ho g (hx.trans h1) z 0 hy h3 (h g h1 h2 h3)
theorem wpList_put {ops : Array Oper} {rest : List Oper} {o : Oper} {a : Act} {W : World} {Q : Exit → Act → World → Prop} (hgd : o.guard = none) (x y : Operand) (ho : o.op = .store 73 x y)
    (g : Nat) (hx : a.eval x = .pointer (some ⟨g, 0, none⟩)) (z y0 : Nat) (hy : a.eval y = wv z) (hg : W.heap[g]? = some (wrow y0)) (h : wpList Try.prog ops Q rest (a.put o.dst undef) (W.setRow g (limbs4 z))) : wpList Try.prog ops Q (o :: rest) a W :=
  wpList_store_row hgd 73 x y ho g (limbs4 z) hx hy 73 (limbs4 y0) hg (by kernel_rfl) rfl (limbs4_one z) h
theorem set_row {W : World} {g z y0 : Nat} (hg : W.heap[g]? = some (wrow y0)) : (W.setRow g (limbs4 z)).heap[g]? = some (wrow z) := setRow_heap W g _ _ _ _ hg
end Go.Proofs.Ytbaifchbpnmkpaa
namespace Go.Proofs.Ytbaifchbpnmkpaa
open Go.RowKit
/-- What stays when new blocks are made. -/
def Stable (p : Value → World → Prop) : Prop := ∀ v W W', Below W.heap.size W W' → p v W → p v W'
/-- Edges that bind go back; each slot is written once, and lies in the frame; a guard is behind an edge. -/
def relOps (n : Nat) (ops : List Oper) : Bool :=
  ((List.range ops.length).all fun i => match ops[i]? with
    | some o => o.after.all (fun e => !Region.binds .any e || decide (e.on < i)) && (match o.dst with | some d => decide (d < n) && (List.range i).all (fun j => match ops[j]? with | some o' => o'.dst != some d | none => true) | none => true)
    | none => true)
/-- What holds when a set of operations has been carried out. -/
structure RelInv (ops : List Oper) (T0 : Array Value) (Rs : List (Value → World → Prop)) (J : World → Prop) (L : Nat → Bool) (a : Act) (W : World) : Prop where
  defers : a.defers = []
  size : a.tmps.size = T0.size
  st : J W
  done : ∀ (i : Nat) (o : Oper) (d : Tmp), ops[i]? = some o → L i = true → o.dst = some d → (Rs.getD i (fun _ _ => True)) (slot a.tmps d) W
  rest : ∀ s, (∀ (i : Nat) (o : Oper), ops[i]? = some o → o.dst = some s → L i = false) → slot a.tmps s = slot T0 s
  shut : ∀ (i : Nat) (o : Oper), ops[i]? = some o → L i = true → ∀ e ∈ o.after, Region.binds .any e = true → L e.on = true
/-- What a step of operation i may lean on, and must show. -/
def RelStep (P : Program) (ops : List Oper) (T0 : Array Value) (Rs : List (Value → World → Prop)) (J : World → Prop) (Q : Exit → Act → World → Prop) (i : Nat) (o : Oper) : Prop :=
  ∀ (T : Array Value) (W : World), T.size = T0.size → J W →
    (∀ j d, (∃ e ∈ o.after, Region.binds .any e = true ∧ e.on = j) → (ops[j]?.bind (·.dst)) = some d → (Rs.getD j (fun _ _ => True)) (slot T d) W) →
    (∀ s, (∀ (j : Nat) (o' : Oper), ops[j]? = some o' → o'.dst = some s → i = j ∨ ∃ e ∈ o'.after, Region.binds .any e = true ∧ e.on = i) → slot T s = slot T0 s) →
    ∀ K : Act → World → Prop, (∀ v W', (Rs.getD i (fun _ _ => True)) v W' → J W' → Below W.heap.size W W' → K ((⟨T, []⟩ : Act).put o.dst v) W') →
      if Region.wanted o (yielded ops.toArray T) = true then Oper.wp P o ⟨T, []⟩ W K Q else K ((⟨T, []⟩ : Act).put o.dst undef) W
def RelSteps (P : Program) (ops : List Oper) (T0 : Array Value) (Rs : List (Value → World → Prop)) (J : World → Prop) (Q : Exit → Act → World → Prop) : Nat → List Oper → Prop
  | _, [] => True
  | i, o :: rest => RelStep P ops T0 Rs J Q i o ∧ RelSteps P ops T0 Rs J Q (i + 1) rest
theorem RelSteps.at_ {P : Program} {ops : List Oper} {T0 : Array Value} {Rs : List (Value → World → Prop)} {J : World → Prop} {Q : Exit → Act → World → Prop} : ∀ {l : List Oper} {i : Nat}, RelSteps P ops T0 Rs J Q i l → ∀ (j : Nat) (o : Oper), l[j]? = some o → RelStep P ops T0 Rs J Q (i + j) o
  | [], _, _, j, o, h => by simp at h
  | x :: l, i, hs, 0, o, h => by simp at h; subst h; exact hs.1
  | x :: l, i, hs, j + 1, o, h => by
    have := RelSteps.at_ hs.2 j o (by simpa using h)
    rwa [show i + 1 + j = i + (j + 1) by omega] at this
theorem slot_set (T : Array Value) (d s : Nat) (v : Value) (h : d < T.size) : slot (T.setIfInBounds d v) s = if d = s then v else slot T s := by
  simp only [slot, Array.getD_eq_getD_getElem?, Array.getElem?_setIfInBounds]
  by_cases e : d = s
  · subst e; simp [h]
  · simp [e]
theorem slot_get (T : Array Value) (i : Nat) : slot T i = T[i]?.getD undef := by simp [slot, Array.getD_eq_getD_getElem?]
theorem all_nil : ∀ p, p ∈ ([] : List (Value → World → Prop)) → Stable p := fun _ h => by cases h
theorem all_cons {p : Value → World → Prop} {l : List (Value → World → Prop)} (h : Stable p) (hl : ∀ q, q ∈ l → Stable q) : ∀ q, q ∈ p :: l → Stable q := fun q hq => by
  rcases List.mem_cons.1 hq with rfl | hq
  · exact h
  · exact hl q hq
theorem wanted_none {o : Oper} (h : o.guard = none) (y : Nat → Option Bool) : Region.wanted o y = true := by simp [Region.wanted, h]
end Go.Proofs.Ytbaifchbpnmkpaa
namespace Go.Proofs.Ytbaifchbpnmkpaa
open Go.RowKit
/-- A region of a function's code, by its number. -/
def rgo (n : Nat) : Code → Option Code
  | .region i ops d => if i = n then some (.region i ops d) else none
  | .seq a b => match rgo n a with
    | some c => some c
    | none => rgo n b
  | .block _ c => rgo n c
  | .loop c => rgo n c
  | .scope c => rgo n c
  | .cond _ a b => match rgo n a with
    | some c => some c
    | none => rgo n b
  | _ => none
noncomputable def rgn (f : Func) (n : Nat) : Code := (f.body.bind (rgo n)).getD .skip
theorem Fr.ev {N : Nat} {T : Array Value} {l : List (Nat × Value)} (h : Fr N ⟨T, []⟩ l) (i : Nat) {k : Nat} {v : Value} (hi : l[i]? = some (k, v)) : T[k]?.getD undef = v := by
  have := h.known (k, v) (List.mem_of_getElem? hi)
  rwa [slot_get] at this
theorem Fr.op {N : Nat} {T : Array Value} {l : List (Nat × Value)} (h : Fr N ⟨T, []⟩ l) (i : Nat) {k : Nat} {v : Value} (hi : l[i]? = some (k, v)) : (⟨T, []⟩ : Act).eval (.tmp k) = v := h.known (k, v) (List.mem_of_getElem? hi)
theorem Fr.put {N : Nat} {T : Array Value} {l : List (Nat × Value)} (h : Fr N ⟨T, []⟩ l) (d : Nat) (v : Value) (hd : d < N) (hl : (l.all fun p => p.1 != d) = true) : Fr N ⟨T.setIfInBounds d v, []⟩ ((d, v) :: l) :=
  ⟨by simpa using h.size, rfl, fun p hp => by
    rcases List.mem_cons.1 hp with rfl | hp
    · show slot (T.setIfInBounds d v) d = v
      rw [slot_set _ _ _ _ (by have := h.size; simp only at this; omega), if_pos rfl]
    · have h1 := List.all_eq_true.1 hl p hp
      show slot (T.setIfInBounds d v) p.1 = p.2
      rw [slot_set _ _ _ _ (by have := h.size; simp only at this; omega), if_neg (by simpa using Ne.symm (bne_iff_ne.1 h1))]
      exact h.known p hp⟩
theorem Fr.pick {N : Nat} {a : Act} {l : List (Nat × Value)} (h : Fr N a l) (is : List Nat) : Fr N a (is.filterMap fun i => l[i]?) :=
  ⟨h.size, h.defers, fun p hp => by
    obtain ⟨i, -, hi⟩ := List.mem_filterMap.1 hp
    exact h.known p (List.mem_of_getElem? hi)⟩
theorem Fr.nil {N : Nat} {T : Array Value} (h : T.size = N) : Fr N ⟨T, []⟩ [] := ⟨h, rfl, fun _ h => by cases h⟩
theorem Fr.cons {N : Nat} {T : Array Value} {l : List (Nat × Value)} (h : Fr N ⟨T, []⟩ l) {k : Nat} {v : Value} (hs : slot T k = v) : Fr N ⟨T, []⟩ ((k, v) :: l) :=
  ⟨h.size, h.defers, fun p hp => by
    rcases List.mem_cons.1 hp with rfl | hp
    · exact hs
    · exact h.known p hp⟩
theorem Fr.old {N : Nat} {T0 T : Array Value} {l : List (Nat × Value)} (h : Fr N ⟨T0, []⟩ l) (hT : T.size = N) {ds : List Nat} (hs : ∀ s, s ∉ ds → slot T s = slot T0 s) (hl : (l.all fun p => !ds.contains p.1) = true) : Fr N ⟨T, []⟩ l :=
  ⟨hT, rfl, fun p hp => by
    have h1 := List.all_eq_true.1 hl p hp
    exact (hs p.1 (by simpa using h1)).trans (h.known p hp)⟩
/-- Something of a world that hangs on some blocks alone. ex: on these nothing else hangs. -/
structure Xt where
  ex : Bool
  foot : Nat → Prop
  holds : World → Prop
  stays : ∀ W W', (∀ b, foot b → b < W.heap.size → W'.heap[b]? = W.heap[b]?) → W.heap.size ≤ W'.heap.size → holds W → holds W'
/-- W is w with new blocks; these rows lie there; and what else is known of it, which hangs on none of these rows. -/
structure Sx (w : World) (L : List (Nat × Obj)) (X : List Xt) (W : World) : Prop where
  below : Below w.heap.size w W
  rows : ∀ p, p ∈ L → W.heap[p.1]? = some p.2
  apart : L.Pairwise (fun p q => p.1 ≠ q.1)
  ext : ∀ q, q ∈ X → q.holds W
  sep : ∀ p, p ∈ L → ∀ q, q ∈ X → ¬ q.foot p.1
  bound : ∀ q, q ∈ X → ∀ b, q.foot b → b < W.heap.size
  excl : X.Pairwise (fun p q => (p.ex || q.ex) = true → ∀ b, p.foot b → ¬ q.foot b)
theorem Sx.nil (w : World) : Sx w [] [] w := ⟨Below.refl _ _, fun _ h => (by cases h), List.Pairwise.nil, fun _ h => (by cases h), fun _ h => (by cases h), fun _ h => (by cases h), List.Pairwise.nil⟩
theorem Sx.at {w W : World} {L : List (Nat × Obj)} {X : List Xt} (h : Sx w L X W) (i : Nat) {g : Nat} {o : Obj} (hi : L[i]? = some (g, o)) : W.heap[g]? = some o := h.rows _ (List.mem_of_getElem? hi)
theorem Sx.x {w W : World} {L : List (Nat × Obj)} {X : List Xt} (h : Sx w L X W) (i : Nat) {q : Xt} (hi : X[i]? = some q) : q.holds W := h.ext _ (List.mem_of_getElem? hi)
theorem Sx.cell {w W : World} {L : List (Nat × Obj)} {X : List Xt} (h : Sx w L X W) (i : Nat) {g o : Nat} {cs : Array Value} {t : TypeId} {fr : Nat × Nat} {v : Value} (hi : L[i]? = some (g, .cells cs t fr)) (hc : cs[o]? = some v) : W.cell? ⟨g, o, none⟩ = some v := (cell_of_row _ _ _ _ _ _ (h.at i hi)).trans hc
theorem Sx.free {w W : World} {L : List (Nat × Obj)} {X : List Xt} (h : Sx w L X W) (i : Nat) {g : Nat} {cs : Array Value} {t : TypeId} (hi : L[i]? = some (g, .cells cs t (0, 0))) (o : Nat) : W.frozen? ⟨g, o, none⟩ = false := frozen_of_row W g o _ _ (h.at i hi)
theorem Sx.keep {w W W' : World} {L : List (Nat × Obj)} {X : List Xt} (h : Sx w L X W) (hb : Below W.heap.size W W') : Sx w L X W' :=
  ⟨below_step h.below hb, fun p hp => (hb.block _ (lt_of_block (h.rows p hp))).trans (h.rows p hp), h.apart, fun q hq => q.stays W W' (fun b _ hlt => hb.block b hlt) hb.size (h.ext q hq), h.sep, fun q hq b hbq => Nat.lt_of_lt_of_le (h.bound q hq b hbq) hb.size, h.excl⟩
theorem Sx.drew {w W : World} {L : List (Nat × Obj)} {X : List Xt} (h : Sx w L X W) : Sx w L X W.drew := h.keep ((Below.refl _ _).drew)
/-- The rows at these places, in order. -/
def picks {α : Type} (l : List α) (is : List Nat) : List α := is.filterMap fun i => l[i]?
theorem picks_mem {α : Type} {l : List α} {is : List Nat} {x : α} (h : x ∈ picks l is) : x ∈ l := by
  obtain ⟨i, -, hi⟩ := List.mem_filterMap.1 h
  exact List.mem_of_getElem? hi
def incr : List Nat → Bool
  | a :: b :: l => decide (a < b) && incr (b :: l)
  | _ => true
theorem picks_pair {α : Type} {R : α → α → Prop} {l : List α} (h : l.Pairwise R) : ∀ (is : List Nat), incr is = true → (picks l is).Pairwise R ∧ ∀ a, (∀ i, i ∈ is → a < i) → ∀ p, l[a]? = some p → ∀ q, q ∈ picks l is → R p q
  | [], _ => ⟨List.Pairwise.nil, fun _ _ _ _ _ h => by cases h⟩
  | i :: is, hi => by
    have hi2 : incr is = true ∧ ∀ j, j ∈ is → i < j := by
      clear h
      induction is generalizing i with
      | nil => exact ⟨rfl, fun _ h => by cases h⟩
      | cons b is ih =>
        simp only [incr, Bool.and_eq_true, decide_eq_true_eq] at hi
        refine ⟨hi.2, fun j hj => ?_⟩
        rcases List.mem_cons.1 hj with rfl | hj
        · exact hi.1
        · exact Nat.lt_trans hi.1 ((ih b hi.2).2 j hj)
    obtain ⟨h1, h2⟩ := picks_pair h is hi2.1
    have e : picks l (i :: is) = match l[i]? with | some x => x :: picks l is | none => picks l is := by
      unfold picks; rw [List.filterMap_cons]; cases l[i]? <;> rfl
    rw [e]
    cases hx : l[i]? with
    | none => exact ⟨h1, fun a ha p hp q hq => h2 a (fun j hj => ha j (List.mem_cons_of_mem _ hj)) p hp q hq⟩
    | some x =>
      refine ⟨List.Pairwise.cons (fun q hq => h2 i hi2.2 x hx q hq) h1, fun a ha p hp q hq => ?_⟩
      rcases List.mem_cons.1 hq with rfl | hq
      · have hai := ha i (List.mem_cons_self ..)
        obtain ⟨ha1, rfl⟩ := List.getElem?_eq_some_iff.1 hp
        obtain ⟨hi1, rfl⟩ := List.getElem?_eq_some_iff.1 hx
        exact List.pairwise_iff_getElem.1 h a i ha1 hi1 hai
      · exact h2 a (fun j hj => ha j (List.mem_cons_of_mem _ hj)) p hp q hq
/-- Some rows and some facts are let go. -/
theorem Sx.pick {w W : World} {L : List (Nat × Obj)} {X : List Xt} (h : Sx w L X W) (is js : List Nat) (hi : incr is = true) (hj : incr js = true) : Sx w (picks L is) (picks X js) W :=
  ⟨h.below, fun p hp => h.rows p (picks_mem hp), (picks_pair h.apart is hi).1, fun q hq => h.ext q (picks_mem hq), fun p hp q hq => h.sep p (picks_mem hp) q (picks_mem hq), fun q hq => h.bound q (picks_mem hq), (picks_pair h.excl js hj).1⟩
theorem Sx.fresh {w W : World} {L : List (Nat × Obj)} {X : List Xt} (h : Sx w L X W) {g : Nat} (hg : W.heap.size ≤ g) : ∀ p, p ∈ L → g ≠ p.1 := fun p hp => by have := lt_of_block (h.rows p hp); omega
/-- A row that a step has made. -/
theorem Sx.made {w W W' : World} {L : List (Nat × Obj)} {X : List Xt} (h : Sx w L X W) (hb : Below W.heap.size W W') {g : Nat} {o : Obj} (hg : W'.heap[g]? = some o) (hge : W.heap.size ≤ g) : Sx w ((g, o) :: L) X W' :=
  have k := h.keep hb
  ⟨k.below, fun p hp => by
    rcases List.mem_cons.1 hp with rfl | hp
    · exact hg
    · exact k.rows p hp, List.Pairwise.cons (fun p hp => h.fresh hge p hp) k.apart, k.ext, fun p hp q hq => by
    rcases List.mem_cons.1 hp with rfl | hp
    · exact fun hf => Nat.lt_irrefl _ (Nat.lt_of_lt_of_le (h.bound q hq _ hf) hge)
    · exact k.sep p hp q hq, k.bound, k.excl⟩
theorem Sx.alloc {w W : World} {L : List (Nat × Obj)} {X : List Xt} (h : Sx w L X W) (o : Obj) : Sx w ((W.heap.size, o) :: L) X (W.alloc o) :=
  h.made ((Below.refl _ _).alloc (Nat.le_refl _) o) (lastH W o _ rfl) (Nat.le_refl _)
theorem Sx.alloc0 {w W : World} {L : List (Nat × Obj)} {X : List Xt} (h : Sx w L X W) (o : Obj) : Sx w L X (W.alloc o) := h.keep ((Below.refl _ _).alloc (Nat.le_refl _) o)
/-- A fact more. -/
theorem Sx.addX {w W : World} {L : List (Nat × Obj)} {X : List Xt} (h : Sx w L X W) (q : Xt) (hq : q.holds W) (hs : ∀ p, p ∈ L → ¬ q.foot p.1) (hbd : ∀ b, q.foot b → b < W.heap.size) (hx : ∀ r, r ∈ X → (q.ex || r.ex) = true → ∀ b, q.foot b → ¬ r.foot b) : Sx w L (q :: X) W :=
  ⟨h.below, h.rows, h.apart, fun r hr => by
    rcases List.mem_cons.1 hr with rfl | hr
    · exact hq
    · exact h.ext r hr, fun p hp r hr => by
    rcases List.mem_cons.1 hr with rfl | hr
    · exact hs p hp
    · exact h.sep p hp r hr, fun r hr => by
    rcases List.mem_cons.1 hr with rfl | hr
    · exact hbd
    · exact h.bound r hr, List.Pairwise.cons hx h.excl⟩
/-- A fact on blocks that a step has made. -/
theorem Sx.madeX {w W W' : World} {L : List (Nat × Obj)} {X : List Xt} (h : Sx w L X W) (hb : Below W.heap.size W W') (q : Xt) (hq : q.holds W') (hge : ∀ b, q.foot b → W.heap.size ≤ b) (hbd : ∀ b, q.foot b → b < W'.heap.size) : Sx w L (q :: X) W' :=
  (h.keep hb).addX q hq (fun p hp hf => by have h1 := lt_of_block (h.rows p hp); have h2 := hge _ hf; omega) hbd (fun r hr _ b h1 h2 => by have h3 := h.bound r hr b h2; have h4 := hge b h1; omega)
/-- A row is written: block g alone changes. -/
theorem Sx.write {w W W' : World} {L : List (Nat × Obj)} {X : List Xt} (h : Sx w L X W) (i : Nat) {g : Nat} {o : Obj} (hi : L[i]? = some (g, o)) (o' : Obj)
    (hb : Below w.heap.size w W') (hs : W.heap.size ≤ W'.heap.size) (hold : ∀ b, b ≠ g → b < W.heap.size → W'.heap[b]? = W.heap[b]?) (hnew : W'.heap[g]? = some o') : Sx w (L.set i (g, o')) X W' := by
  have hlen : i < L.length := (List.getElem?_eq_some_iff.1 hi).1
  have e2 : L[i] = (g, o) := (List.getElem?_eq_some_iff.1 hi).2
  have hne : ∀ (j : Nat) (p : Nat × Obj), L[j]? = some p → j ≠ i → p.1 ≠ g := by
    intro j p hj hji
    have hjl : j < L.length := (List.getElem?_eq_some_iff.1 hj).1
    have e1 : L[j] = p := (List.getElem?_eq_some_iff.1 hj).2
    rcases Nat.lt_or_gt_of_ne hji with hlt | hgt
    · have := List.pairwise_iff_getElem.1 h.apart j i hjl hlen hlt
      rw [e1, e2] at this; exact this
    · have := List.pairwise_iff_getElem.1 h.apart i j hlen hjl hgt
      rw [e1, e2] at this; exact fun e => this e.symm
  have hmem : ∀ p, p ∈ L.set i (g, o') → p = (g, o') ∨ (p ∈ L ∧ p.1 ≠ g) := by
    intro p hp
    obtain ⟨j, hj⟩ := List.getElem?_of_mem hp
    rw [List.getElem?_set] at hj
    by_cases hij : i = j
    · subst hij
      rw [if_pos rfl, if_pos hlen] at hj
      cases hj; exact Or.inl rfl
    · rw [if_neg hij] at hj
      exact Or.inr ⟨List.mem_of_getElem? hj, hne j p hj (Ne.symm hij)⟩
  have hgm : (g, o) ∈ L := List.mem_of_getElem? hi
  refine ⟨hb, fun p hp => ?_, ?_, fun q hq => q.stays W W' (fun b hb2 hlt => hold b (fun e => h.sep _ hgm q hq (by rw [← e]; exact hb2)) hlt) hs (h.ext q hq), fun p hp q hq => ?_, fun q hq b hbq => Nat.lt_of_lt_of_le (h.bound q hq b hbq) hs, h.excl⟩
  · rcases hmem p hp with rfl | ⟨h1, h2⟩
    · exact hnew
    · exact (hold _ h2 (lt_of_block (h.rows p h1))).trans (h.rows p h1)
  · rw [List.pairwise_iff_getElem]
    intro a b ha hb2 hab
    have hal : a < L.length := by simpa using ha
    have hbl : b < L.length := by simpa using hb2
    have hp := List.pairwise_iff_getElem.1 h.apart a b hal hbl hab
    rw [List.getElem_set, List.getElem_set]
    by_cases e1 : i = a
    · subst e1
      rw [if_pos rfl, if_neg (by omega)]
      rw [e2] at hp; exact hp
    · rw [if_neg e1]
      by_cases e3 : i = b
      · subst e3
        rw [if_pos rfl]; rw [e2] at hp; exact hp
      · rw [if_neg e3]; exact hp
  · rcases hmem p hp with rfl | ⟨h1, h2⟩
    · exact h.sep _ hgm q hq
    · exact h.sep p h1 q hq
theorem Sx.setCell {w W : World} {L : List (Nat × Obj)} {X : List Xt} (h : Sx w L X W) (i : Nat) {g : Nat} {cs : Array Value} {t : TypeId} (hi : L[i]? = some (g, .cells cs t (0, 0))) (hg : w.heap.size ≤ g) (o : Nat) (v : Value) :
    Sx w (L.set i (g, .cells (cs.setIfInBounds o v) t (0, 0))) X (W.setCell ⟨g, o, none⟩ v) :=
  h.write i hi _ (h.below.setCell hg v) (Below.setCell (Below.refl 0 W) (p := ⟨g, o, none⟩) (Nat.zero_le _) v).size (fun b hb _ => heap_setCell_other W ⟨g, o, none⟩ b v hb) (heap_setCell_same W g o cs t v (h.at i hi))
theorem Sx.setRow {w W : World} {L : List (Nat × Obj)} {X : List Xt} (h : Sx w L X W) (i : Nat) {g : Nat} {cs : Array Value} {t : TypeId} (hi : L[i]? = some (g, .cells cs t (0, 0))) (hg : w.heap.size ≤ g) (c : Array Value) :
    Sx w (L.set i (g, .cells c t (0, 0))) X (W.setRow g c) :=
  h.write i hi _ (below_setRow h.below hg c) (by simp [World.setRow]) (fun b hb _ => setRow_other W g b c hb) (setRow_heap W g cs c t (0, 0) (h.at i hi))
/-- A row that is only read. -/
def xrow (g : Nat) (o : Obj) : Xt := ⟨false, fun b => b = g, fun W => W.heap[g]? = some o, fun _ _ hk _ h => (hk g rfl (lt_of_block h)).trans h⟩
/-- A fact more on the blocks of another one. -/
theorem Sx.dup {w W : World} {L : List (Nat × Obj)} {X : List Xt} (h : Sx w L X W) (i : Nat) {q : Xt} (hi : X[i]? = some q) (hex : q.ex = false) (q' : Xt) (hex' : q'.ex = false) (hf : ∀ b, q'.foot b → q.foot b) (hq' : q'.holds W) : Sx w L (q' :: X) W := by
  have hlen : i < X.length := (List.getElem?_eq_some_iff.1 hi).1
  have e2 : X[i] = q := (List.getElem?_eq_some_iff.1 hi).2
  have hqm : q ∈ X := List.mem_of_getElem? hi
  refine h.addX q' hq' (fun p hp hb => h.sep p hp q hqm (hf _ hb)) (fun b hb => h.bound q hqm b (hf b hb)) (fun r hr hrx b hb hrb => ?_)
  rw [hex', Bool.false_or] at hrx
  obtain ⟨j, hj⟩ := List.getElem?_of_mem hr
  have hjl : j < X.length := (List.getElem?_eq_some_iff.1 hj).1
  have e1 : X[j] = r := (List.getElem?_eq_some_iff.1 hj).2
  rcases Nat.lt_trichotomy i j with hlt | heq | hgt
  · have := List.pairwise_iff_getElem.1 h.excl i j hlen hjl hlt
    rw [e1, e2] at this; exact this (by rw [hrx]; simp) b (hf b hb) hrb
  · subst heq; rw [e2] at e1; subst e1; rw [hex] at hrx; cases hrx
  · have := List.pairwise_iff_getElem.1 h.excl j i hjl hlen hgt
    rw [e1, e2] at this; exact this (by rw [hrx]; rfl) b hrb (hf b hb)
/-- What hangs on blocks of its own is written. -/
theorem Sx.writeX {w W W' : World} {L : List (Nat × Obj)} {X : List Xt} (h : Sx w L X W) (i : Nat) {q q' : Xt} (hi : X[i]? = some q) (hex : q.ex = true) (hex' : q'.ex = true) (hq' : q'.holds W') (hf : ∀ b, q'.foot b → q.foot b ∨ W.heap.size ≤ b) (hbd' : ∀ b, q'.foot b → b < W'.heap.size)
    (hlow : ∀ b, q.foot b → w.heap.size ≤ b) (hos : W'.os = W.os) (htape : W'.tape = W.tape) (hout : W'.output = W.output) (hs : W.heap.size ≤ W'.heap.size) (hold : ∀ b, b < W.heap.size → ¬ q.foot b → W'.heap[b]? = W.heap[b]?) : Sx w L (X.set i q') W' := by
  have hlen : i < X.length := (List.getElem?_eq_some_iff.1 hi).1
  have e2 : X[i] = q := (List.getElem?_eq_some_iff.1 hi).2
  have hqm : q ∈ X := List.mem_of_getElem? hi
  have hmem : ∀ p, p ∈ X.set i q' → p = q' ∨ (p ∈ X ∧ ∀ b, q.foot b → ¬ p.foot b) := by
    intro p hp
    obtain ⟨j, hj⟩ := List.getElem?_of_mem hp
    rw [List.getElem?_set] at hj
    by_cases hij : i = j
    · subst hij
      rw [if_pos rfl, if_pos hlen] at hj
      cases hj; exact Or.inl rfl
    · rw [if_neg hij] at hj
      have hjl : j < X.length := (List.getElem?_eq_some_iff.1 hj).1
      have e1 : X[j] = p := (List.getElem?_eq_some_iff.1 hj).2
      refine Or.inr ⟨List.mem_of_getElem? hj, fun b hqb hpb => ?_⟩
      rcases Nat.lt_or_gt_of_ne hij with hlt | hgt
      · have := List.pairwise_iff_getElem.1 h.excl i j hlen hjl hlt
        rw [e1, e2] at this; exact this (by rw [hex]; rfl) b hqb hpb
      · have := List.pairwise_iff_getElem.1 h.excl j i hjl hlen hgt
        rw [e1, e2] at this; exact this (by rw [hex]; simp) b hpb hqb
  refine ⟨h.below.trans ⟨hos, htape, hout, hs, fun b hb => hold b (Nat.lt_of_lt_of_le hb h.below.size) (fun e => by have := hlow b e; omega)⟩, fun p hp => ?_, h.apart, fun p hp => ?_, fun p hp r hr => ?_, fun r hr b hb => ?_, ?_⟩
  · exact (hold _ (lt_of_block (h.rows p hp)) (h.sep p hp q hqm)).trans (h.rows p hp)
  · rcases hmem p hp with rfl | ⟨h1, h2⟩
    · exact hq'
    · exact p.stays W W' (fun b hb hlt => hold b hlt (fun e => h2 b e hb)) hs (h.ext p h1)
  · rcases hmem r hr with rfl | ⟨h1, h2⟩
    · intro e
      rcases hf _ e with h3 | h3
      · exact h.sep p hp q hqm h3
      · have := lt_of_block (h.rows p hp); omega
    · exact h.sep p hp r h1
  · rcases hmem r hr with rfl | ⟨h1, h2⟩
    · exact hbd' b hb
    · exact Nat.lt_of_lt_of_le (h.bound r h1 b hb) hs
  · have hnew : ∀ r, r ∈ X → (∀ b, q.foot b → ¬ r.foot b) → ∀ b, q'.foot b → ¬ r.foot b := fun r hr h2 b hb hrb => by
      rcases hf b hb with h3 | h3
      · exact h2 b h3 hrb
      · have := h.bound r hr b hrb; omega
    rw [List.pairwise_iff_getElem]
    intro a b ha hb2 hab
    have hal : a < X.length := by simpa using ha
    have hbl : b < X.length := by simpa using hb2
    have hp := List.pairwise_iff_getElem.1 h.excl a b hal hbl hab
    rw [List.getElem_set, List.getElem_set]
    by_cases e1 : i = a
    · subst e1
      rw [if_pos rfl, if_neg (by omega)]
      rw [e2] at hp
      exact fun _ => hnew _ (List.getElem_mem hbl) (hp (by rw [hex]; rfl))
    · rw [if_neg e1]
      by_cases e3 : i = b
      · subst e3
        rw [if_pos rfl]
        rw [e2] at hp
        exact fun _ c hc hc' => hnew _ (List.getElem_mem hal) (fun c h1 h2 => hp (by rw [hex]; simp) c h2 h1) c hc' hc
      · rw [if_neg e3]; exact hp
section steps
variable {P : Program} {ops : Array Oper} {rest : List Oper} {Q : Exit → Act → World → Prop} {o : Oper} {N : Nat} {T : Array Value} {W : World} {l : List (Nat × Value)}
/-- An operation of a plain region: what it yields and what becomes of the world, by a relation. -/
theorem so_step (hF : Fr N ⟨T, []⟩ l) {d : Nat} (hd : o.dst = some d) (hw : Region.wanted o (yielded ops T) = true) (hdN : d < N) (hl : (l.all fun p => p.1 != d) = true) (R : Value → World → Prop)
    (hop : ∀ K : Act → World → Prop, Hid (∀ v W', R v W' → K ((⟨T, []⟩ : Act).put o.dst v) W') → o.wp P ⟨T, []⟩ W K Q)
    (k : ∀ v T' W', R v W' → Fr N ⟨T', []⟩ ((d, v) :: l) → wpList P ops Q rest ⟨T', []⟩ W') : wpList P ops Q (o :: rest) ⟨T, []⟩ W :=
  wpList_step fun K hK => by
    rw [if_pos hw]
    refine hop K (fun v W' hR => ?_)
    rw [hd]
    exact hK _ _ (k v _ W' hR (hF.put d v hdN hl))
/-- .. that leaves the world as it is. -/
theorem so_pure (hF : Fr N ⟨T, []⟩ l) {d : Nat} (hd : o.dst = some d) (hw : Region.wanted o (yielded ops T) = true) (hdN : d < N) (hl : (l.all fun p => p.1 != d) = true) (v : Value)
    (hop : ∀ K : Act → World → Prop, Hid (K ((⟨T, []⟩ : Act).put o.dst v) W) → o.wp P ⟨T, []⟩ W K Q)
    (k : ∀ T', Fr N ⟨T', []⟩ ((d, v) :: l) → wpList P ops Q rest ⟨T', []⟩ W) : wpList P ops Q (o :: rest) ⟨T, []⟩ W :=
  so_step hF hd hw hdN hl (fun v' W' => v = v' ∧ W = W') (fun K hK => hop K (hK.out _ _ ⟨rfl, rfl⟩)) (fun v' T' W' h hF' => by obtain ⟨rfl, rfl⟩ := h; exact k T' hF')
end steps
/-- What holds when a set of operations has been carried out; the world's condition hangs on that set. -/
structure RelInvL (ops : List Oper) (T0 : Array Value) (Rs : List (Value → World → Prop)) (J : (Nat → Bool) → World → Prop) (L : Nat → Bool) (a : Act) (W : World) : Prop where
  defers : a.defers = []
  size : a.tmps.size = T0.size
  st : J L W
  done : ∀ (i : Nat) (o : Oper) (d : Tmp), ops[i]? = some o → L i = true → o.dst = some d → (Rs.getD i (fun _ _ => True)) (slot a.tmps d) W
  rest : ∀ s, (∀ (i : Nat) (o : Oper), ops[i]? = some o → o.dst = some s → L i = false) → slot a.tmps s = slot T0 s
  shut : ∀ (i : Nat) (o : Oper), ops[i]? = some o → L i = true → ∀ e ∈ o.after, Region.binds .any e = true → L e.on = true
/-- What is known of values stays. -/
def Stay (Rs : List (Value → World → Prop)) (W W' : World) : Prop := ∀ p, p ∈ Rs → ∀ v, p v W → p v W'
def RelStepL (P : Program) (ops : List Oper) (T0 : Array Value) (Rs : List (Value → World → Prop)) (J : (Nat → Bool) → World → Prop) (Q : Exit → Act → World → Prop) (i : Nat) (o : Oper) : Prop :=
  ∀ (L : Nat → Bool) (T : Array Value) (W : World), T.size = T0.size → J L W → L i = false → (∀ j, (∃ e ∈ o.after, Region.binds .any e = true ∧ e.on = j) → L j = true) →
    (∀ j d, (∃ e ∈ o.after, Region.binds .any e = true ∧ e.on = j) → (ops[j]?.bind (·.dst)) = some d → (Rs.getD j (fun _ _ => True)) (slot T d) W) →
    (∀ s, (∀ (j : Nat) (o' : Oper), ops[j]? = some o' → o'.dst = some s → i = j ∨ ∃ e ∈ o'.after, Region.binds .any e = true ∧ e.on = i) → slot T s = slot T0 s) →
    ∀ K : Act → World → Prop, (∀ v W', (Rs.getD i (fun _ _ => True)) v W' → J (also L i) W' → Stay Rs W W' → K ((⟨T, []⟩ : Act).put o.dst v) W') →
      if Region.wanted o (yielded ops.toArray T) = true then Oper.wp P o ⟨T, []⟩ W K Q else K ((⟨T, []⟩ : Act).put o.dst undef) W
def RelStepsL (P : Program) (ops : List Oper) (T0 : Array Value) (Rs : List (Value → World → Prop)) (J : (Nat → Bool) → World → Prop) (Q : Exit → Act → World → Prop) : Nat → List Oper → Prop
  | _, [] => True
  | i, o :: rest => RelStepL P ops T0 Rs J Q i o ∧ RelStepsL P ops T0 Rs J Q (i + 1) rest
theorem RelStepsL.at_ {P : Program} {ops : List Oper} {T0 : Array Value} {Rs : List (Value → World → Prop)} {J : (Nat → Bool) → World → Prop} {Q : Exit → Act → World → Prop} : ∀ {l : List Oper} {i : Nat}, RelStepsL P ops T0 Rs J Q i l → ∀ (j : Nat) (o : Oper), l[j]? = some o → RelStepL P ops T0 Rs J Q (i + j) o
  | [], _, _, j, o, h => by simp at h
  | x :: l, i, hs, 0, o, h => by simp at h; subst h; exact hs.1
  | x :: l, i, hs, j + 1, o, h => by
    have := RelStepsL.at_ hs.2 j o (by simpa using h)
    rwa [show i + 1 + j = i + (j + 1) by omega] at this
section ints
variable {P : Program} {o : Oper} {a : Act} {W : World} {K : Act → World → Prop} {Q : Exit → Act → World → Prop} {t ty : TypeId} {x y : Operand} {k k' : IntKind} {m n : Int}
theorem wp_lss (ho : o.op = .binOp .lss t x y ty) (hx : a.eval x = .int k m) (hy : a.eval y = .int k n) (b : Bool) (h : (m < n) ↔ b = true) (hk : Hid (K (a.put o.dst (.bool b)) W)) : o.wp P a W K Q := by
  obtain rfl : b = (decide (m < n)) := by rw [Bool.eq_iff_iff, ← h]; simp
  unfold Oper.wp execOp
  simp [ho, hx, hy, eqGuard, binOp, Op.intCmp]
  exact hk.out
theorem wp_lss_t (ho : o.op = .binOp .lss t x y ty) (hx : a.eval x = .int k m) (hy : a.eval y = .int k n) (h : m < n) (hk : Hid (K (a.put o.dst (.bool true)) W)) : o.wp P a W K Q := wp_lss ho hx hy true ⟨fun _ => rfl, fun _ => h⟩ hk
theorem wp_lss_f (ho : o.op = .binOp .lss t x y ty) (hx : a.eval x = .int k m) (hy : a.eval y = .int k n) (h : ¬ (m < n)) (hk : Hid (K (a.put o.dst (.bool false)) W)) : o.wp P a W K Q := wp_lss ho hx hy false ⟨fun h' => absurd h' h, fun h' => by cases h'⟩ hk
theorem wp_leq (ho : o.op = .binOp .leq t x y ty) (hx : a.eval x = .int k m) (hy : a.eval y = .int k n) (b : Bool) (h : (m ≤ n) ↔ b = true) (hk : Hid (K (a.put o.dst (.bool b)) W)) : o.wp P a W K Q := by
  obtain rfl : b = (decide (m ≤ n)) := by rw [Bool.eq_iff_iff, ← h]; simp
  unfold Oper.wp execOp
  simp [ho, hx, hy, eqGuard, binOp, Op.intCmp]
  exact hk.out
theorem wp_leq_t (ho : o.op = .binOp .leq t x y ty) (hx : a.eval x = .int k m) (hy : a.eval y = .int k n) (h : m ≤ n) (hk : Hid (K (a.put o.dst (.bool true)) W)) : o.wp P a W K Q := wp_leq ho hx hy true ⟨fun _ => rfl, fun _ => h⟩ hk
theorem wp_leq_f (ho : o.op = .binOp .leq t x y ty) (hx : a.eval x = .int k m) (hy : a.eval y = .int k n) (h : ¬ (m ≤ n)) (hk : Hid (K (a.put o.dst (.bool false)) W)) : o.wp P a W K Q := wp_leq ho hx hy false ⟨fun h' => absurd h' h, fun h' => by cases h'⟩ hk
theorem wp_add (ho : o.op = .binOp .add t x y ty) (hx : a.eval x = .int k m) (hy : a.eval y = .int k n) (r : Int) (h : k.wrap (m + n) = r) (hk : Hid (K (a.put o.dst (.int k r)) W)) : o.wp P a W K Q := by
  unfold Oper.wp execOp
  simp [ho, hx, hy, eqGuard, binOp, Op.intArith, h]
  exact hk.out
theorem wp_shr (ho : o.op = .binOp .shr t x y ty) (hx : a.eval x = .int k m) (hy : a.eval y = .int k' n) (h0 : 0 ≤ n) (r : Int) (h : m.fdiv (2 ^ min n.toNat k.bits) = r) (hk : Hid (K (a.put o.dst (.int k r)) W)) : o.wp P a W K Q := by
  unfold Oper.wp execOp
  simp [ho, hx, hy, eqGuard, binOp, Op.shift, show ¬ n < 0 by omega, h]
  exact hk.out
theorem wp_int (ho : o.op = .convert t ty x) (hx : a.eval x = .int k n) {d : TypeDesc} (hs : P.underlying t = some d) (hd : P.underlying ty = some (.int k')) (r : Int) (h : k'.wrap n = r) (hk : Hid (K (a.put o.dst (.int k' r)) W)) : o.wp P a W K Q := by
  unfold Oper.wp execOp
  simp [ho, hx, convert, run_underlying hs, run_underlying hd, Conv.intToInt, h]
  exact hk.out
theorem wp_move {v : Value} (ho : o.op = .move x) (hx : a.eval x = v) (hk : Hid (K (a.put o.dst v) W)) : o.wp P a W K Q := by
  unfold Oper.wp execOp
  simp only [ho, hx]
  exact hk.out
theorem wp_assign {v : Value} (ho : o.op = .assign x) (hx : a.eval x = v) (hk : Hid (K (a.put o.dst v) W)) : o.wp P a W K Q := by
  unfold Oper.wp execOp
  simp only [ho, hx]
  exact hk.out
theorem wp_len {A : Option Addr} {l c : Nat} {e : TypeId} {tt : TypeId} (ho : o.op = .call { callee := .builtin .len, args := #[x], argTypes := #[tt] }) (hx : a.eval x = .slice A l c) (hu : P.underlying tt = some (.slice e)) (hk : Hid (K (a.put o.dst (.int .i64 (l : Int))) W)) : o.wp P a W K Q := by
  unfold Oper.wp execOp
  simp [ho, hx, resolve, invoke, builtin, Builtin.len_, run_underlying hu, goInt]
  exact hk.out
theorem wp_ixs {b off l c s : Nat} {e : TypeId} (ho : o.op = .indexAddr t x y) (hx : a.eval x = .slice (some ⟨b, off, none⟩) l c) (hy : a.eval y = .int k m) (hu : P.underlying t = some (.slice e)) (hs : ∀ w, (Go.sizeOf e).run P w = .ok s w) (h0 : 0 ≤ m) (h1 : m < l) (of : Nat) (hof : of = off + m.toNat * s)
    (hk : Hid (K (a.put o.dst (.pointer (some ⟨b, of, none⟩))) W)) : o.wp P a W K Q := by
  have hadd : (⟨b, off, none⟩ : Addr).add (m.toNat * s) = ⟨b, of, none⟩ := by unfold Addr.add; split <;> simp_all
  unfold Oper.wp execOp
  simp [ho, hx, hy, Instr.indexAt, asIntOf, run_underlying hu, hs, h0, h1, hadd]
  exact hk.out
theorem wp_ld {g of : Nat} {d : TypeDesc} {v : Value} (ho : o.op = .load t x) (hx : a.eval x = .pointer (some ⟨g, of, none⟩)) (hu : P.underlying t = some d) (hd : (match d with | .struct _ | .array _ _ => false | _ => true) = true) (hc : W.cell? ⟨g, of, none⟩ = some v) (hk : Hid (K (a.put o.dst v) W)) : o.wp P a W K Q := by
  have e : (loadVar t ⟨g, of, none⟩).run P W = .ok v W := by
    unfold loadVar isAgg
    cases d <;> simp [run_underlying hu, hc] at hd ⊢
  unfold Oper.wp execOp
  simp [ho, hx, Instr.loadAt, Instr.sureAddr, e]
  exact hk.out
theorem bytes_eq (s u : ByteArray) : (s.toList == u.toList) = decide (s = u) := by
  rw [Bool.eq_iff_iff]; simp [ByteArray.toList_eq]
  exact ⟨fun h => ByteArray.ext h, fun h => by rw [h]⟩
/-- May a call go into it? -/
def callable (fn : Func) : Bool := !(fn.name == "runtime.NumGoroutine") && fn.body.isSome
theorem wp_call {f : FuncId} {fn : Func} {xs : Array Operand} {tys : Array TypeId} {vs : Array Value} (ho : o.op = .call { callee := .value (.func f), args := xs, argTypes := tys }) (hf : P.funcs[f]? = some fn) (hc : callable fn = true) (hv : xs.map a.eval = vs)
    (h : Calls P f vs W (fun e w' => ∃ v, e = .returned v ∧ K (a.put o.dst v) w')) : o.wp P a W K Q := by
  simp only [callable, Bool.and_eq_true, Bool.not_eq_true', Option.isSome_iff_exists] at hc
  obtain ⟨h1, c, h2⟩ := hc
  unfold Oper.wp execOp
  have e : (do let d ← resolve a.eval { callee := .value (.func f), args := xs, argTypes := tys } o.type; invoke d.target d.args : Sem Next).run P W = .ok (.enter f vs) W := by
    have h1' : ¬ fn.name = "runtime.NumGoroutine" := by simpa using h1
    simp [resolve, Act.eval, Deferred.ofValue, invoke, callFunc, hf, h1', h2, hv]
  simp only [ho]
  rw [e]
  exact h.mono (fun e w' ⟨v, he, hk⟩ => by subst he; exact hk)
theorem ev1 {x1 : Operand} {v1 : Value} (h1 : a.eval x1 = v1) : #[x1].map a.eval = #[v1] := by simp [h1]
end ints
section ways
variable {P : Program} {Q : Exit → Act → World → Prop} {a : Act} {w : World} {K : Act → World → Prop} {id : Nat}
theorem then_normal (h : K a w) : Exit.then K Q .normal a w := h
theorem then_ret (h : Q .ret a w) : Exit.then K Q .ret a w := h
theorem then_exit (h : Q (.exit id) a w) : Exit.then K Q (.exit id) a w := h
theorem block_normal (h : Q .normal a w) : Exit.inBlock id Q .normal a w := h
theorem block_exit (h : Q .normal a w) : Exit.inBlock id Q (.exit id) a w := by simp only [Exit.inBlock, if_true]; exact h
theorem enter {f : FuncId} {fn : Func} {c : Code} {args : Array Value} {R : Ending → World → Prop} (N : Nat) (l : List (Nat × Value)) (hf : P.funcs[f]? = some fn) (hb : fn.body = some c)
    (hN : args.size + (fn.ntmps - args.size) = N) (hl : (l.map fun p => args[p.1]?) = l.map fun p => some p.2)
    {L : List (Nat × Obj)} {X : List Xt} (hS : Sx w L X w) (h : ∀ T W, Fr N ⟨T, []⟩ l → Sx w L X W → c.wp P (bodyPost P fn R) ⟨T, []⟩ W) : Calls P f args w R :=
  calls_of_wp hf hb (h _ w ⟨by simpa using hN, rfl, fun p hp => by
    have h1 := List.map_inj_left.1 hl p hp
    have hlt : p.1 < args.size := (Array.getElem?_eq_some_iff.1 h1).1
    simp only [slot, Array.getD_eq_getD_getElem?]
    rw [Array.getElem?_append_left hlt, h1]; rfl⟩ hS)
theorem results_t1 {fn : Func} {T : Array Value} {p : Nat} {v : Value} (h : fn.results = #[.tmp p]) (hp : T[p]?.getD undef = v) : (results fn T).run P w = .ok v w := by
  simp [results, h, hp]
end ways
section short
variable {P : Program} {ops : Array Oper} {rest : List Oper} {Q : Exit → Act → World → Prop} {o : Oper} {N : Nat} {T : Array Value} {W : World} {l : List (Nat × Value)}
/-- so_pure in short. -/
theorem so_p (hF : Fr N ⟨T, []⟩ l) {d : Nat} (v : Value) (hop : ∀ K : Act → World → Prop, Hid (K ((⟨T, []⟩ : Act).put o.dst v) W) → o.wp P ⟨T, []⟩ W K Q)
    (k : ∀ T', Fr N ⟨T', []⟩ ((d, v) :: l) → wpList P ops Q rest ⟨T', []⟩ W) (hw : Region.wanted o (yielded ops T) = true := by exact wanted_none rfl _)
    (hd : o.dst = some d := by rfl) (hdN : d < N := by decide) (hl : (l.all fun p => p.1 != d) = true := by rfl) : wpList P ops Q (o :: rest) ⟨T, []⟩ W := so_pure hF hd hw hdN hl v hop k
/-- A move of the frame's i-th value. -/
theorem so_mv (hF : Fr N ⟨T, []⟩ l) (i : Nat) {s d : Nat} {v : Value} (k : ∀ T', Fr N ⟨T', []⟩ ((d, v) :: l) → wpList P ops Q rest ⟨T', []⟩ W) (hw : Region.wanted o (yielded ops T) = true := by exact wanted_none rfl _)
    (ho : o.op = .move (.tmp s) := by rfl) (hi : l[i]? = some (s, v) := by rfl) (hd : o.dst = some d := by rfl) (hdN : d < N := by decide) (hl : (l.all fun p => p.1 != d) = true := by rfl) : wpList P ops Q (o :: rest) ⟨T, []⟩ W :=
  so_pure hF hd hw hdN hl v (fun _ hK => wp_move ho (hF.op i hi) hK) k
theorem so_as (hF : Fr N ⟨T, []⟩ l) (i : Nat) {s d : Nat} {v : Value} (k : ∀ T', Fr N ⟨T', []⟩ ((d, v) :: l) → wpList P ops Q rest ⟨T', []⟩ W) (hw : Region.wanted o (yielded ops T) = true := by exact wanted_none rfl _)
    (ho : o.op = .assign (.tmp s) := by rfl) (hi : l[i]? = some (s, v) := by rfl) (hd : o.dst = some d := by rfl) (hdN : d < N := by decide) (hl : (l.all fun p => p.1 != d) = true := by rfl) : wpList P ops Q (o :: rest) ⟨T, []⟩ W :=
  so_pure hF hd hw hdN hl v (fun _ hK => wp_assign ho (hF.op i hi) hK) k
variable {lo : List Oper} {T0 : Array Value} {Rs : List (Value → World → Prop)} {J : (Nat → Bool) → World → Prop} {i : Nat}
end short
end Go.Proofs.Ytbaifchbpnmkpaa
namespace Go.Proofs.Ytbaifchbpnmkpaa
open Go.RowKit
/-- Entry i of a list; 0 behind the last one. (Closed to simp.) -/
def nth (l : List Nat) (i : Nat) : Nat := l.getD i 0
theorem nth_end (l : List Nat) (i : Nat) (h : l.length ≤ i) : nth l i = 0 := by
  unfold nth; rw [List.getD_eq_getElem?_getD, List.getElem?_eq_none h]; rfl
theorem nth_get (l : List Nat) (i : Nat) (h : i < l.length) : l[i]? = some (nth l i) := by
  unfold nth; rw [List.getD_eq_getElem?_getD, List.getElem?_eq_getElem h]; rfl
theorem nth_set (l : List Nat) (i j x : Nat) (h : i < l.length) : nth (l.set i x) j = if i = j then x else nth l j := by
  unfold nth
  rw [List.getD_eq_getElem?_getD, List.getD_eq_getElem?_getD, List.getElem?_set]
  split
  · next e => subst e; first | rfl | (rw [if_pos h]; rfl)
  · rfl
theorem nth_append_left (a b : List Nat) (i : Nat) (h : i < a.length) : nth (a ++ b) i = nth a i := by
  unfold nth; rw [List.getD_eq_getElem?_getD, List.getD_eq_getElem?_getD, List.getElem?_append_left h]
theorem nth_append_right (a b : List Nat) (i : Nat) (h : a.length ≤ i) : nth (a ++ b) i = nth b (i - a.length) := by
  unfold nth; rw [List.getD_eq_getElem?_getD, List.getD_eq_getElem?_getD, List.getElem?_append_right h]
theorem nth_ext (a b : List Nat) (h : a.length = b.length) (he : ∀ i, i < a.length → nth a i = nth b i) : a = b := by
  apply List.ext_getElem? 
  intro i
  by_cases hi : i < a.length
  · rw [nth_get a i hi, nth_get b i (by omega), he i hi]
  · rw [List.getElem?_eq_none (by omega), List.getElem?_eq_none (by omega)]
theorem nth_range (f : Nat → Nat) (n i : Nat) (h : i < n) : nth ((List.range n).map f) i = f i := by
  unfold nth; rw [List.getD_eq_getElem?_getD, List.getElem?_map, List.getElem?_range h]; rfl
theorem nth_drop (l : List Nat) (k i : Nat) : nth (l.drop k) i = nth l (k + i) := by
  unfold nth; rw [List.getD_eq_getElem?_getD, List.getD_eq_getElem?_getD, List.getElem?_drop]
theorem nth_mem (l : List Nat) (i : Nat) (h : i < l.length) : nth l i ∈ l := List.mem_of_getElem? (nth_get l i h)
/-- A number of 32 bits turned right. -/
def rotr (x n : Nat) : Nat := (x / 2 ^ n ||| x * 2 ^ (32 - n)) % 4294967296
def sg0 (x : Nat) : Nat := (rotr x 7 ^^^ rotr x 18) ^^^ x / 8
def sg1 (x : Nat) : Nat := (rotr x 17 ^^^ rotr x 19) ^^^ x / 1024
def bg1 (x : Nat) : Nat := (rotr x 6 ^^^ rotr x 11) ^^^ rotr x 25
def bg0 (x : Nat) : Nat := (rotr x 2 ^^^ rotr x 13) ^^^ rotr x 22
def chs (e f g : Nat) : Nat := (e &&& f) ^^^ ((4294967295 - e) &&& g)
def maj (a b c : Nat) : Nat := ((a &&& b) ^^^ (a &&& c)) ^^^ (b &&& c)
/-- One of each round. -/
def KL : List Nat := [1116352408, 1899447441, 3049323471, 3921009573, 961987163, 1508970993, 2453635748, 2870763221, 3624381080, 310598401, 607225278, 1426881987, 1925078388, 2162078206, 2614888103, 3248222580, 3835390401, 4022224774, 264347078, 604807628, 770255983, 1249150122, 1555081692, 1996064986, 2554220882, 2821834349, 2952996808, 3210313671, 3336571891, 3584528711, 113926993, 338241895, 666307205, 773529912, 1294757372, 1396182291, 1695183700, 1986661051, 2177026350, 2456956037, 2730485921, 2820302411, 3259730800, 3345764771, 3516065817, 3600352804, 4094571909, 275423344, 430227734, 506948616, 659060556, 883997877, 958139571, 1322822218, 1537002063, 1747873779, 1955562222, 2024104815, 2227730452, 2361852424, 2428436474, 2756734187, 3204031479, 3329325298]
/-- The numbers as they begin. -/
def HL : List Nat := [1779033703, 3144134277, 1013904242, 2773480762, 1359893119, 2600822924, 528734635, 1541459225]
/-- The word of four bytes. -/
def word (f : Nat → Nat) (i : Nat) : Nat := ((f (4 * i) * 256 + f (4 * i + 1)) * 256 + f (4 * i + 2)) * 256 + f (4 * i + 3)
/-- The word that comes of those before it. -/
def nextw (l : List Nat) (n : Nat) : Nat := (((nth l n + nth l (n + 9)) % 4294967296 + sg0 (nth l (n + 1))) % 4294967296 + sg1 (nth l (n + 14))) % 4294967296
def sch (f : Nat → Nat) : Nat → List Nat
  | 0 => (List.range 16).map (word f)
  | n + 1 => sch f n ++ [nextw (sch f n) n]
/-- One round. -/
def tt1 (k w : Nat) (x : List Nat) : Nat := ((((nth x 7 + bg1 (nth x 4)) % 4294967296 + chs (nth x 4) (nth x 5) (nth x 6)) % 4294967296 + k) % 4294967296 + w) % 4294967296
def tt2 (x : List Nat) : Nat := (bg0 (nth x 0) + maj (nth x 0) (nth x 1) (nth x 2)) % 4294967296
def rnd (k w : Nat) (x : List Nat) : List Nat := [(tt1 k w x + tt2 x) % 4294967296, nth x 0, nth x 1, nth x 2, (nth x 3 + tt1 k w x) % 4294967296, nth x 4, nth x 5, nth x 6]
def rnds (ws x : List Nat) : Nat → List Nat
  | 0 => x
  | n + 1 => rnd (nth KL n) (nth ws n) (rnds ws x n)
def addL (x y : List Nat) : List Nat := (List.range 8).map fun i => (nth x i + nth y i) % 4294967296
/-- The eight numbers behind a piece. -/
def mixS (x : List Nat) (f : Nat → Nat) : List Nat := addL x (rnds (sch f 48) x 64)
/-- Behind n pieces. -/
def runB (x bs : List Nat) : Nat → List Nat
  | 0 => x
  | n + 1 => mixS (runB x bs n) fun i => nth bs (64 * n + i)
/-- The noughts that are wanted. -/
def pads (n : Nat) : Nat := (119 - n % 64) % 64
def be8 (n : Nat) : List Nat := (List.range 8).map fun i => n / 2 ^ (56 - 8 * i) % 256
def padded (bs : List Nat) : List Nat := bs ++ [128] ++ List.replicate (pads bs.length) 0 ++ be8 (8 * bs.length % 18446744073709551616)
def outB (x : List Nat) : List Nat := (List.range 32).map fun j => nth x (j / 4) / 2 ^ (24 - 8 * (j % 4)) % 256
/-- The digest of bytes. -/
def sha (bs : List Nat) : List Nat := outB (runB HL (padded bs) ((padded bs).length / 64))
theorem rotr_lt (x n : Nat) : rotr x n < 4294967296 := Nat.mod_lt _ (by decide)
theorem xor_lt {a b : Nat} (ha : a < 4294967296) (hb : b < 4294967296) : a ^^^ b < 4294967296 := Nat.xor_lt_two_pow (n := 32) ha hb
theorem and_lt {a : Nat} (b : Nat) (ha : a < 4294967296) : a &&& b < 4294967296 := Nat.lt_of_le_of_lt Nat.and_le_left ha
theorem KL_lt (i : Nat) : nth KL i < 4294967296 := by
  by_cases h : i < 64
  · have : ∀ j : Fin 64, nth KL j.val < 4294967296 := by decide +kernel
    exact this ⟨i, h⟩
  · rw [nth_end KL i (by simp only [KL, List.length_cons, List.length_nil]; omega)]; decide
theorem KL_len : KL.length = 64 := rfl
theorem sch_len (f : Nat → Nat) : ∀ n, (sch f n).length = 16 + n
  | 0 => by simp [sch]
  | n + 1 => by rw [sch, List.length_append, sch_len f n]; rfl
theorem rnds_len (ws x : List Nat) (h : x.length = 8) : ∀ n, (rnds ws x n).length = 8
  | 0 => h
  | _ + 1 => rfl
theorem addL_len (x y : List Nat) : (addL x y).length = 8 := by simp [addL]
theorem mixS_len (x : List Nat) (f : Nat → Nat) : (mixS x f).length = 8 := addL_len _ _
theorem runB_len (x bs : List Nat) (h : x.length = 8) : ∀ n, (runB x bs n).length = 8
  | 0 => h
  | _ + 1 => mixS_len _ _
/-- Each one below 2^32. -/
def W32 (l : List Nat) : Prop := ∀ i, nth l i < 4294967296
theorem W32.nil : W32 [] := fun i => by rw [nth_end [] i (by simp)]; decide
theorem w32_of (l : List Nat) (h : ∀ x, x ∈ l → x < 4294967296) : W32 l := fun i => by
  by_cases hi : i < l.length
  · exact h _ (nth_mem l i hi)
  · rw [nth_end l i (by omega)]; decide
theorem word_lt (f : Nat → Nat) (i : Nat) (h : ∀ j, f j < 256) : word f i < 4294967296 := by
  have h0 := h (4 * i); have h1 := h (4 * i + 1); have h2 := h (4 * i + 2); have h3 := h (4 * i + 3)
  unfold word; omega
theorem sch_w (f : Nat → Nat) (h : ∀ j, f j < 256) : ∀ n, W32 (sch f n)
  | 0 => w32_of _ (by intro x hx; simp only [sch, List.mem_map] at hx; obtain ⟨i, -, rfl⟩ := hx; exact word_lt f i h)
  | n + 1 => fun i => by
    rw [sch]
    by_cases hi : i < (sch f n).length
    · rw [nth_append_left _ _ _ hi]; exact sch_w f h n i
    · rw [nth_append_right _ _ _ (by omega)]
      by_cases h0 : i - (sch f n).length = 0
      · rw [h0]; exact Nat.mod_lt _ (by decide)
      · rw [nth_end _ _ (by simp; omega)]; decide
theorem addL_w (x y : List Nat) : W32 (addL x y) := w32_of _ (by intro a ha; simp only [addL, List.mem_map] at ha; obtain ⟨i, -, rfl⟩ := ha; exact Nat.mod_lt _ (by decide))
theorem rnd_w (k w : Nat) (x : List Nat) (h : W32 x) : W32 (rnd k w x) := w32_of _ (by
  intro a ha
  simp only [rnd, List.mem_cons, List.not_mem_nil, or_false] at ha
  rcases ha with rfl | rfl | rfl | rfl | rfl | rfl | rfl | rfl <;> first | exact h _ | exact Nat.mod_lt _ (by decide))
theorem rnds_w (ws x : List Nat) (h : W32 x) : ∀ n, W32 (rnds ws x n)
  | 0 => h
  | n + 1 => rnd_w _ _ _ (rnds_w ws x h n)
theorem runB_w (x bs : List Nat) (h : W32 x) : ∀ n, W32 (runB x bs n)
  | 0 => h
  | _ + 1 => addL_w _ _
theorem HL_w : W32 HL := w32_of _ (by decide +kernel)
theorem outB_len (x : List Nat) : (outB x).length = 32 := by simp [outB]
theorem outB_lt (x : List Nat) : ∀ y, y ∈ outB x → y < 256 := by
  intro y hy; simp only [outB, List.mem_map] at hy; obtain ⟨i, -, rfl⟩ := hy; exact Nat.mod_lt _ (by decide)
theorem sha_len (bs : List Nat) : (sha bs).length = 32 := outB_len _
theorem sha_lt (bs : List Nat) : ∀ y, y ∈ sha bs → y < 256 := outB_lt _
theorem pads_56 (n : Nat) : (n + 1 + pads n) % 64 = 56 := by unfold pads; omega
theorem padded_len (bs : List Nat) : (padded bs).length = bs.length + 1 + pads bs.length + 8 := by simp [padded, be8]; omega
/-- The pieces alone count. -/
theorem runB_congr (x a b : List Nat) : ∀ n, (∀ i, i < 64 * n → nth a i = nth b i) → runB x a n = runB x b n
  | 0, _ => rfl
  | n + 1, h => by
    rw [runB, runB, runB_congr x a b n (fun i hi => h i (by omega))]
    have key : ∀ f g : Nat → Nat, (∀ i, i < 64 → f i = g i) → ∀ m, sch f m = sch g m := by
      intro f g hfg m
      induction m with
      | zero =>
        apply List.map_congr_left
        intro i hi
        have := List.mem_range.1 hi
        unfold word
        rw [hfg _ (by omega), hfg _ (by omega), hfg _ (by omega), hfg _ (by omega)]
      | succ m ih => rw [sch, sch, ih]
    unfold mixS
    rw [key _ _ (fun i hi => h (64 * n + i) (by omega)) 48]
theorem runB_add (x bs : List Nat) (m : Nat) : ∀ n, runB x bs (m + n) = runB (runB x bs m) (bs.drop (64 * m)) n
  | 0 => rfl
  | n + 1 => by
    rw [← Nat.add_assoc, runB, runB, runB_add x bs m n]
    congr 1
    funext i
    rw [nth_drop]; congr 1; omega
end Go.Proofs.Ytbaifchbpnmkpaa
namespace Go.Proofs.Ytbaifchbpnmkpaa
open Go.RowKit
/-- Words as cells. -/
def wcells (K : IntKind) (l : List Nat) : Array Value := (l.map fun n => Value.int K ((n : Nat) : Int)).toArray
theorem wcells_get (K : IntKind) (l : List Nat) (i : Nat) (h : i < l.length) : (wcells K l)[i]? = some (.int K ((nth l i : Nat) : Int)) := by
  simp only [wcells, List.getElem?_toArray, List.getElem?_map, nth_get l i h, Option.map_some]
theorem wcells_size (K : IntKind) (l : List Nat) : (wcells K l).size = l.length := by simp [wcells]
theorem wcells_set (K : IntKind) (l : List Nat) (i x : Nat) : (wcells K l).setIfInBounds i (.int K ((x : Nat) : Int)) = wcells K (l.set i x) := by
  simp only [wcells, List.setIfInBounds_toArray, List.map_set]
theorem cell_w {K : IntKind} {W : World} {g : Nat} {t : TypeId} {l : List Nat} (h : W.heap[g]? = some (.cells (wcells K l) t (0, 0))) (i : Nat) (hi : i < l.length) : W.cell? ⟨g, i, none⟩ = some (.int K ((nth l i : Nat) : Int)) :=
  (cell_of_row _ _ _ _ _ _ h).trans (wcells_get K l i hi)
theorem set_w {K : IntKind} {W : World} {g : Nat} {t : TypeId} {l : List Nat} (h : W.heap[g]? = some (.cells (wcells K l) t (0, 0))) (i x : Nat) : (W.setCell ⟨g, i, none⟩ (.int K ((x : Nat) : Int))).heap[g]? = some (.cells (wcells K (l.set i x)) t (0, 0)) := by
  have h0 := heap_setCell_same W g i _ _ (.int K ((x : Nat) : Int)) h
  rw [h0, wcells_set]
theorem xor32 (a b : Nat) (ha : a < 4294967296) (hb : b < 4294967296) : bits .xor .u32 (a : Int) (b : Int) = ((a ^^^ b : Nat) : Int) := by
  have hx : a ^^^ b < 2 ^ 32 := Nat.xor_lt_two_pow (n := 32) (by omega) (by omega)
  have h1 : (BitVec.ofInt 32 (a : Int)).toNat = a := by
    rw [BitVec.ofInt_natCast, BitVec.toNat_ofNat]; exact Nat.mod_eq_of_lt (by omega)
  have h2 : (BitVec.ofInt 32 (b : Int)).toNat = b := by
    rw [BitVec.ofInt_natCast, BitVec.toNat_ofNat]; exact Nat.mod_eq_of_lt (by omega)
  show IntKind.u32.wrap ((BitVec.ofInt 32 (a : Int) ^^^ BitVec.ofInt 32 (b : Int)).toNat : Int) = _
  rw [BitVec.toNat_xor, h1, h2, IntKind.wrap_u32]
  omega
theorem and32 (a b : Nat) (ha : a < 4294967296) (hb : b < 4294967296) : bits .and .u32 (a : Int) (b : Int) = ((a &&& b : Nat) : Int) := by
  have hx : a &&& b < 2 ^ 32 := Nat.and_lt_two_pow (n := 32) _ (by omega)
  have h1 : (BitVec.ofInt 32 (a : Int)).toNat = a := by
    rw [BitVec.ofInt_natCast, BitVec.toNat_ofNat]; exact Nat.mod_eq_of_lt (by omega)
  have h2 : (BitVec.ofInt 32 (b : Int)).toNat = b := by
    rw [BitVec.ofInt_natCast, BitVec.toNat_ofNat]; exact Nat.mod_eq_of_lt (by omega)
  show IntKind.u32.wrap ((BitVec.ofInt 32 (a : Int) &&& BitVec.ofInt 32 (b : Int)).toNat : Int) = _
  rw [BitVec.toNat_and, h1, h2, IntKind.wrap_u32]
  omega
theorem or32 (a b : Nat) (ha : a < 4294967296) (hb : b < 4294967296) : bits .or .u32 (a : Int) (b : Int) = ((a ||| b : Nat) : Int) := by
  have hx : a ||| b < 2 ^ 32 := Nat.or_lt_two_pow (n := 32) (by omega) (by omega)
  have h1 : (BitVec.ofInt 32 (a : Int)).toNat = a := by
    rw [BitVec.ofInt_natCast, BitVec.toNat_ofNat]; exact Nat.mod_eq_of_lt (by omega)
  have h2 : (BitVec.ofInt 32 (b : Int)).toNat = b := by
    rw [BitVec.ofInt_natCast, BitVec.toNat_ofNat]; exact Nat.mod_eq_of_lt (by omega)
  show IntKind.u32.wrap ((BitVec.ofInt 32 (a : Int) ||| BitVec.ofInt 32 (b : Int)).toNat : Int) = _
  rw [BitVec.toNat_or, h1, h2, IntKind.wrap_u32]
  omega
theorem rot_left (x n : Nat) (hx : x < 4294967296) : bits .or .u32 (IntKind.u32.wrap ((x : Int) * 2 ^ (32 - n))) ((x : Int) / 2 ^ n) = ((rotr x n : Nat) : Int) := by
  have e1 : IntKind.u32.wrap ((x : Int) * 2 ^ (32 - n)) = ((x * 2 ^ (32 - n) % 4294967296 : Nat) : Int) := by
    rw [IntKind.wrap_u32]
    have : ((x : Int) * 2 ^ (32 - n)) = ((x * 2 ^ (32 - n) : Nat) : Int) := by simp
    rw [this]; omega
  have e2 : (x : Int) / 2 ^ n = ((x / 2 ^ n : Nat) : Int) := by
    have : ((2 : Int) ^ n) = ((2 ^ n : Nat) : Int) := by simp
    rw [this]; exact (Int.natCast_ediv x (2 ^ n)).symm
  have hd : x / 2 ^ n < 4294967296 := Nat.lt_of_le_of_lt (Nat.div_le_self _ _) hx
  rw [e1, e2, or32 _ _ (Nat.mod_lt _ (by decide)) hd]
  unfold rotr
  rw [show (4294967296 : Nat) = 2 ^ 32 from rfl, Nat.or_mod_two_pow, Nat.mod_eq_of_lt (a := x / 2 ^ n) hd, Nat.or_comm]
theorem back32 : ∀ n : Fin 32, 1 ≤ n.val → bits .and .u64 (IntKind.u64.wrap (-(n.val : Int))) 31 = ((32 - n.val : Nat) : Int) := by decide +kernel
set_option maxHeartbeats 1000000 in
theorem turn_c (x n : Nat) (hx : x < 4294967296) (hn : 1 ≤ n ∧ n ≤ 31) (w : World) : Calls Try.prog 66 #[.int .u32 (x : Int), .int .i64 (n : Int)] w fun e w' => e = .returned (.int .u32 ((rotr x n : Nat) : Int)) ∧ w = w' := by
  have hb := back32 ⟨n, by omega⟩ hn.1
  have hr := rot_left x n hx
  have e0 : (32 - (n : Int)) = ((32 - n : Nat) : Int) := by omega
  obtain ⟨m, hm⟩ : ∃ m, m = 32 - n := ⟨_, rfl⟩
  have hmn : 32 - m = n := by omega
  have hm2 : 1 ≤ m ∧ m ≤ 31 := by omega
  rw [← hm] at hb hr e0
  have e3 : (32 - (m : Int)) = ((n : Nat) : Int) := by omega
  have hn1 : IntKind.i64.wrap (-(n : Int)) = -(n : Int) := by rw [IntKind.wrap_i64]; omega
  have HR := Lib.hid hr
  clear hr hm
  go_enter Try.func66, Try.ntmps66
  go_wp2
  go_ret
  exact ⟨by rw [← HR.out]; rfl, rfl⟩
theorem first_row : (.agg #[.int .u32 1779033703, .int .u32 3144134277, .int .u32 1013904242, .int .u32 2773480762, .int .u32 1359893119, .int .u32 2600822924, .int .u32 528734635, .int .u32 1541459225] : Value) = .agg (wcells .u32 HL) := by kernel_rfl
end Go.Proofs.Ytbaifchbpnmkpaa
namespace Go.Proofs.Ytbaifchbpnmkpaa
open Go.RowKit
theorem wcells_one (K : IntKind) (l : List Nat) : (wcells K l).all (·.oneCell') = true := by simp [wcells, Value.oneCell']
set_option maxRecDepth 100000 in
set_option maxHeartbeats 4000000 in
theorem first_c (w : World) : Calls Try.prog 47 #[] w fun e w' => e = .returned (.agg (wcells .u32 HL)) ∧ Below w.heap.size w w' := by
  have S0 := (St.nil w).alloc (.cells (wcells .u32 (List.replicate 8 0)) 85) _ rfl
  go_enter Try.func47, Try.ntmps47
  go_wp2_with (first
    | (refine wpList_buildTo rfl 85 _ rfl (some 1) rfl (wcells .u32 HL) (by kernel_rfl) ?_)
    | (refine wpList_store_row rfl 85 (.tmp 0) (.tmp 1) rfl w.heap.size (wcells .u32 HL) rfl rfl 85 (wcells .u32 (List.replicate 8 0)) (S0.get (List.Mem.head _)) (by kernel_rfl) (by kernel_rfl) (wcells_one _ _) ?_))
  refine bodyPost_ret (results_cell_row rfl _ _ w.heap.size 85 (wcells .u32 HL) (0, 0) _ rfl (setRow_heap _ _ _ _ _ _ (S0.get (List.Mem.head _))) Try.underlying85 rfl (by kernel_rfl)) rfl ?_
  exact ⟨rfl, below_setRow S0.below (Nat.le_refl _) _⟩
set_option maxRecDepth 100000 in
set_option maxHeartbeats 4000000 in
theorem constants_c (w : World) : Calls Try.prog 65 #[] w fun e w' => e = .returned (.agg (wcells .u32 KL)) ∧ Below w.heap.size w w' := by
  have S0 := (St.nil w).alloc (.cells (wcells .u32 (List.replicate 64 0)) 101) _ rfl
  go_enter Try.func65, Try.ntmps65
  go_wp2_with (first
    | (refine wpList_buildTo rfl 101 _ rfl (some 1) rfl (wcells .u32 KL) (by kernel_rfl) ?_)
    | (refine wpList_store_row rfl 101 (.tmp 0) (.tmp 1) rfl w.heap.size (wcells .u32 KL) rfl rfl 101 (wcells .u32 (List.replicate 64 0)) (S0.get (List.Mem.head _)) (by kernel_rfl) (by kernel_rfl) (wcells_one _ _) ?_))
  refine bodyPost_ret (results_cell_row rfl _ _ w.heap.size 101 (wcells .u32 KL) (0, 0) _ rfl (setRow_heap _ _ _ _ _ _ (S0.get (List.Mem.head _))) Try.underlying101 rfl (by kernel_rfl)) rfl ?_
  exact ⟨rfl, below_setRow S0.below (Nat.le_refl _) _⟩
end Go.Proofs.Ytbaifchbpnmkpaa
namespace Go.Proofs.Ytbaifchbpnmkpaa
open Go.RowKit
/-- n bytes lie in block b from o on: byte i is f i. -/
structure Bt (W : World) (b o n : Nat) (f : Nat → Nat) : Prop where
  lt : b < W.heap.size
  cell : ∀ i, i < n → W.cell? ⟨b, o + i, none⟩ = some (.int .u8 ((f i : Nat) : Int))
theorem Bt.keep {W W' : World} {b o n : Nat} {f : Nat → Nat} (h : Bt W b o n f) (hb : Below W.heap.size W W') : Bt W' b o n f :=
  ⟨Nat.lt_of_lt_of_le h.lt hb.size, fun i hi => (hb.cell (p := ⟨b, o + i, none⟩) h.lt).trans (h.cell i hi)⟩
/-- The value of a slice. -/
@[reducible] def bsv (b o n c : Nat) : Value := .slice (some ⟨b, o, none⟩) n c
theorem sch_prefix (f : Nat → Nat) (n : Nat) : ∀ m j, j < 16 + n → nth (sch f (n + m)) j = nth (sch f n) j
  | 0, _, _ => rfl
  | m + 1, j, h => by
    rw [← Nat.add_assoc, sch, nth_append_left _ _ _ (by rw [sch_len]; omega)]
    exact sch_prefix f n m j h
theorem sch_low (f : Nat → Nat) (j : Nat) (h : j < 16) : nth (sch f 48) j = word f j := by
  have := sch_prefix f 0 48 j (by omega)
  rw [Nat.zero_add] at this
  rw [this, sch, nth_range _ _ _ h]
theorem sch_high (f : Nat → Nat) (n : Nat) (h : n < 48) : nth (sch f 48) (n + 16) = (((nth (sch f 48) n + nth (sch f 48) (n + 9)) % 4294967296 + sg0 (nth (sch f 48) (n + 1))) % 4294967296 + sg1 (nth (sch f 48) (n + 14))) % 4294967296 := by
  have e : ∀ j, j < 16 + n → nth (sch f 48) j = nth (sch f n) j := fun j hj => by
    have := sch_prefix f n (48 - n) j hj
    rwa [show n + (48 - n) = 48 by omega] at this
  have e2 : nth (sch f 48) (n + 16) = nextw (sch f n) n := by
    have := sch_prefix f (n + 1) (48 - (n + 1)) (n + 16) (by omega)
    rw [show n + 1 + (48 - (n + 1)) = 48 by omega] at this
    rw [this, sch, nth_append_right _ _ _ (by rw [sch_len]; omega), sch_len, show n + 16 - (16 + n) = 0 by omega]
    rfl
  rw [e2, e n (by omega), e (n + 9) (by omega), e (n + 1) (by omega), e (n + 14) (by omega)]
  rfl
theorem or_join (a b j : Nat) (hb : b < 2 ^ j) (h : a * 2 ^ j + b < 4294967296) : bits .or .u32 ((a * 2 ^ j : Nat) : Int) (b : Int) = ((a * 2 ^ j + b : Nat) : Int) := by
  rw [or32 _ _ (by omega) (by omega), Nat.mul_comm a, Nat.two_pow_add_eq_or_of_lt hb]
theorem four_or (y0 y1 y2 y3 : Nat) (h0 : y0 < 256) (h1 : y1 < 256) (h2 : y2 < 256) (h3 : y3 < 256) :
    bits .or .u32 (bits .or .u32 (bits .or .u32 (IntKind.u32.wrap (IntKind.u32.wrap (y0 : Int) * 16777216)) (IntKind.u32.wrap (IntKind.u32.wrap (y1 : Int) * 65536))) (IntKind.u32.wrap (IntKind.u32.wrap (y2 : Int) * 256))) (IntKind.u32.wrap (y3 : Int)) = ((((y0 * 256 + y1) * 256 + y2) * 256 + y3 : Nat) : Int) := by
  have e0 : IntKind.u32.wrap (IntKind.u32.wrap (y0 : Int) * 16777216) = ((y0 * 2 ^ 24 : Nat) : Int) := by rw [IntKind.wrap_u32, IntKind.wrap_u32]; omega
  have e1 : IntKind.u32.wrap (IntKind.u32.wrap (y1 : Int) * 65536) = ((y1 * 65536 : Nat) : Int) := by rw [IntKind.wrap_u32, IntKind.wrap_u32]; omega
  have e2 : IntKind.u32.wrap (IntKind.u32.wrap (y2 : Int) * 256) = ((y2 * 256 : Nat) : Int) := by rw [IntKind.wrap_u32, IntKind.wrap_u32]; omega
  have e3 : IntKind.u32.wrap (y3 : Int) = (y3 : Int) := by rw [IntKind.wrap_u32]; omega
  rw [e0, e1, e2, e3, or_join y0 (y1 * 65536) 24 (by omega) (by omega)]
  rw [show y0 * 2 ^ 24 + y1 * 65536 = (y0 * 256 + y1) * 2 ^ 16 by omega, or_join (y0 * 256 + y1) (y2 * 256) 16 (by omega) (by omega)]
  rw [show (y0 * 256 + y1) * 2 ^ 16 + y2 * 256 = ((y0 * 256 + y1) * 256 + y2) * 2 ^ 8 by omega, or_join ((y0 * 256 + y1) * 256 + y2) y3 8 (by omega) (by omega)]
/-- What spread's loops hold: the first n words. -/
structure SpInv (w : World) (S : List Nat) (n : Nat) (wr : World) : Prop where
  below : Below w.heap.size w wr
  res : wr.heap[w.heap.size]? = some (.cells (wcells .u32 (List.replicate 64 0)) 101 (0, 0))
  row : ∃ l : List Nat, l.length = 64 ∧ (∀ j, j < n → nth l j = nth S j) ∧ wr.heap[w.heap.size + 1]? = some (.cells (wcells .u32 l) 101 (0, 0))
theorem SpInv.step {w wr : World} {S : List Nat} {n : Nat} (h : SpInv w S n wr) (hn : n < 64) : SpInv w S (n + 1) (wr.setCell ⟨w.heap.size + 1, n, none⟩ (.int .u32 ((nth S n : Nat) : Int))) := by
  obtain ⟨l, hl, hp, hr⟩ := h.row
  refine ⟨h.below.setCell (by show w.heap.size ≤ w.heap.size + 1; omega) _, ?_, l.set n (nth S n), by simpa using hl, fun j hj => ?_, set_w hr n _⟩
  · rw [heap_setCell_other _ _ _ _ (by show w.heap.size ≠ w.heap.size + 1; omega)]; exact h.res
  · rw [nth_set _ _ _ _ (by omega)]
    split
    · next e => rw [e]
    · exact hp j (by omega)
theorem below_drewQ {B : Nat} {a w : World} (h : Below B a w) (n : Nat) : Below B a (w.drewN n) := h.trans ⟨rfl, rfl, rfl, Nat.le_refl _, fun _ _ => rfl⟩
theorem SpInv.drewN {w wr : World} {S : List Nat} {n : Nat} (h : SpInv w S n wr) (q : Nat) : SpInv w S n (wr.drewN q) := ⟨below_drewQ h.below q, h.res, h.row⟩
theorem SpInv.drew {w wr : World} {S : List Nat} {n : Nat} (h : SpInv w S n wr) : SpInv w S n wr.drew := ⟨h.below.drew, h.res, h.row⟩
set_option maxRecDepth 100000 in
set_option maxHeartbeats 2000000 in
theorem spread_c (b o c : Nat) (f : Nat → Nat) (hf : ∀ i, f i < 256) (w : World) (h : Bt w b o 64 f) :
    Calls Try.prog 64 #[bsv b o 64 c] w fun e w' => e = .returned (.agg (wcells .u32 (sch f 48))) ∧ Below w.heap.size w w' := by
  have HB := Lib.hid h; have HF := Lib.hid hf
  have hlow := sch_low f; have hhigh := sch_high f; have hw32 := sch_w f hf 48; have hlen := sch_len f 48
  obtain ⟨S, hS⟩ : ∃ S, S = sch f 48 := ⟨_, rfl⟩
  rw [← hS] at hlow hhigh hw32 hlen ⊢
  have HLow := Lib.hid hlow; have HHigh := Lib.hid hhigh; have HW := Lib.hid hw32; have HLen := Lib.hid hlen
  clear hlow hhigh hw32 hlen hS
  have S0 := ((St.nil w).alloc (.cells (wcells .u32 (List.replicate 64 0)) 101) _ rfl).alloc (.cells (wcells .u32 (List.replicate 64 0)) 101) (w.heap.size + 1) (by simp)
  have I0 : Hid (SpInv w S 0 ((w.alloc (.cells (wcells .u32 (List.replicate 64 0)) 101)).alloc (.cells (wcells .u32 (List.replicate 64 0)) 101))) :=
    ⟨S0.below, S0.get (List.Mem.tail _ (List.Mem.head _)), _, List.length_replicate .., fun j hj => absurd hj (by omega), S0.get (List.Mem.head _)⟩
  clear h hf S0
  go_enter Try.func64, Try.ntmps64
  go_wp2
  go_loopw [8] (fun v wr => ∃ k : Nat, v = .int .i64 (k : Int) ∧ k ≤ 16 ∧ Hid (SpInv w S k wr)) (fun v _ => (16 - intOf v).toNat)
  case atStart => exact ⟨0, rfl, by omega, I0⟩
  case round =>
    obtain ⟨k, rfl, hk, HI⟩ := hrel
    by_cases h16 : k = 16
    · have hge : ¬ (k : Int) < 16 := by omega
      go_wp2
      go_loopw [5] (fun v wr => ∃ n i : Nat, v = .int .i64 (i : Int) ∧ n + 16 = i ∧ n ≤ 48 ∧ Hid (SpInv w S i wr)) (fun v _ => (64 - intOf v).toNat)
      case atStart => exact ⟨0, 16, rfl, rfl, by omega, by rw [← h16]; exact HI⟩
      case round =>
        obtain ⟨n, i, rfl, hni, hn, HJ⟩ := hrel
        by_cases h64 : n = 48
        · obtain rfl : i = 64 := by omega
          obtain ⟨l, hl, hp, hr⟩ := HJ.out.row
          obtain rfl : S = l := (nth_ext _ _ (by rw [hl, HLen.out]) (fun j hj => hp j (by omega))).symm
          have HR := Lib.hid hr
          clear hl hp hr hni hn h64
          go_wp2_with (first
            | (refine wpList_load_row rfl 101 (.tmp 3) rfl (w.heap.size + 1) rfl 101 (wcells .u32 S) (0, 0) _ HR.out Try.underlying101 rfl (by rw [wcells_size, HLen.out]; kernel_rfl) ?_)
            | (refine wpList_store_row rfl 101 (.tmp 2) (.tmp 88) rfl w.heap.size (wcells .u32 S) rfl rfl 101 (wcells .u32 (List.replicate 64 0)) HJ.out.res (by rw [wcells_size, HLen.out]; kernel_rfl) (by rw [wcells_size, wcells_size, HLen.out]; rfl) (wcells_one _ _) ?_))
          refine bodyPost_ret (results_cell_row rfl _ _ w.heap.size 101 (wcells .u32 S) (0, 0) _ rfl (setRow_heap _ _ _ _ _ _ HJ.out.res) Try.underlying101 rfl (by rw [wcells_size, HLen.out]; kernel_rfl)) rfl ?_
          exact ⟨rfl, below_setRow HJ.out.below (Nat.le_refl _) _⟩
        · have hlt : (i : Int) < 64 := by omega
          obtain ⟨l, hl, hp, hr⟩ := HJ.out.row
          have hrb := lt_of_block hr
          obtain ⟨i15, h15⟩ : ∃ j, n + 1 = j := ⟨_, rfl⟩
          obtain ⟨i2, h2⟩ : ∃ j, n + 14 = j := ⟨_, rfl⟩
          obtain ⟨i7, h7⟩ : ∃ j, n + 9 = j := ⟨_, rfl⟩
          have c15 := cell_w hr i15 (by omega); have c2 := cell_w hr i2 (by omega); have c16 := cell_w hr n (by omega); have c7 := cell_w hr i7 (by omega)
          have ci := cell_w hr i (by omega)
          have fz := frozen_of_row wr _ i _ _ hr
          have HS := HHigh.out n (by omega)
          rw [hp i15 (by omega)] at c15; rw [hp i2 (by omega)] at c2; rw [hp n (by omega)] at c16; rw [hp i7 (by omega)] at c7
          rw [h15, h2, h7, hni] at HS
          have SW := HW.out
          have b15 := SW i15; have b2 := SW i2; have b16 := SW n; have b7 := SW i7
          obtain ⟨x15, e15⟩ : ∃ x, nth S i15 = x := ⟨_, rfl⟩
          obtain ⟨x2, e2⟩ : ∃ x, nth S i2 = x := ⟨_, rfl⟩
          obtain ⟨x16, e16⟩ : ∃ x, nth S n = x := ⟨_, rfl⟩
          obtain ⟨x7, e7⟩ : ∃ x, nth S i7 = x := ⟨_, rfl⟩
          rw [e15, e2, e16, e7] at HS; rw [e15] at c15 b15; rw [e2] at c2 b2; rw [e16] at c16 b16; rw [e7] at c7 b7
          clear e15 e2 e16 e7 SW hp
          have T1 : Hid (∀ W, Calls Try.prog 66 #[.int .u32 (x15 : Int), .int .i64 7] W fun e w' => e = .returned (.int .u32 ((rotr x15 7 : Nat) : Int)) ∧ w' = W) := fun W => (turn_c x15 7 b15 (by decide) W).mono fun _ _ h => ⟨h.1, h.2.symm⟩
          have T2 : Hid (∀ W, Calls Try.prog 66 #[.int .u32 (x15 : Int), .int .i64 18] W fun e w' => e = .returned (.int .u32 ((rotr x15 18 : Nat) : Int)) ∧ w' = W) := fun W => (turn_c x15 18 b15 (by decide) W).mono fun _ _ h => ⟨h.1, h.2.symm⟩
          have T3 : Hid (∀ W, Calls Try.prog 66 #[.int .u32 (x2 : Int), .int .i64 17] W fun e w' => e = .returned (.int .u32 ((rotr x2 17 : Nat) : Int)) ∧ w' = W) := fun W => (turn_c x2 17 b2 (by decide) W).mono fun _ _ h => ⟨h.1, h.2.symm⟩
          have T4 : Hid (∀ W, Calls Try.prog 66 #[.int .u32 (x2 : Int), .int .i64 19] W fun e w' => e = .returned (.int .u32 ((rotr x2 19 : Nat) : Int)) ∧ w' = W) := fun W => (turn_c x2 19 b2 (by decide) W).mono fun _ _ h => ⟨h.1, h.2.symm⟩
          have j15 : IntKind.i64.wrap ((i : Int) - 15) = (i15 : Int) := by rw [IntKind.wrap_i64]; omega
          have j2 : IntKind.i64.wrap ((i : Int) - 2) = (i2 : Int) := by rw [IntKind.wrap_i64]; omega
          have j16 : IntKind.i64.wrap ((i : Int) - 16) = (n : Int) := by rw [IntKind.wrap_i64]; omega
          have j7 : IntKind.i64.wrap ((i : Int) - 7) = (i7 : Int) := by rw [IntKind.wrap_i64]; omega
          have u15 : (i15 : Int) < 64 := by omega
          have u2 : (i2 : Int) < 64 := by omega
          have u16 : (n : Int) < 64 := by omega
          have u7 : (i7 : Int) < 64 := by omega
          have v1 : IntKind.u32.wrap ((x16 : Int) + x7) = (((x16 + x7) % 4294967296 : Nat) : Int) := by rw [IntKind.wrap_u32]; omega
          have v2 : bits .xor .u32 ((rotr x15 7 : Nat) : Int) ((rotr x15 18 : Nat) : Int) = ((rotr x15 7 ^^^ rotr x15 18 : Nat) : Int) := xor32 _ _ (rotr_lt _ _) (rotr_lt _ _)
          have v3 : bits .xor .u32 ((rotr x15 7 ^^^ rotr x15 18 : Nat) : Int) ((x15 : Int) / 8) = ((sg0 x15 : Nat) : Int) := by
            rw [show (x15 : Int) / 8 = ((x15 / 8 : Nat) : Int) by omega]; exact xor32 _ _ (xor_lt (rotr_lt _ _) (rotr_lt _ _)) (by omega)
          have v4 : bits .xor .u32 ((rotr x2 17 : Nat) : Int) ((rotr x2 19 : Nat) : Int) = ((rotr x2 17 ^^^ rotr x2 19 : Nat) : Int) := xor32 _ _ (rotr_lt _ _) (rotr_lt _ _)
          have v5 : bits .xor .u32 ((rotr x2 17 ^^^ rotr x2 19 : Nat) : Int) ((x2 : Int) / 1024) = ((sg1 x2 : Nat) : Int) := by
            rw [show (x2 : Int) / 1024 = ((x2 / 1024 : Nat) : Int) by omega]; exact xor32 _ _ (xor_lt (rotr_lt _ _) (rotr_lt _ _)) (by omega)
          obtain ⟨r7, hr7⟩ : ∃ r, rotr x15 7 = r := ⟨_, rfl⟩
          obtain ⟨r18, hr18⟩ : ∃ r, rotr x15 18 = r := ⟨_, rfl⟩
          obtain ⟨r17, hr17⟩ : ∃ r, rotr x2 17 = r := ⟨_, rfl⟩
          obtain ⟨r19, hr19⟩ : ∃ r, rotr x2 19 = r := ⟨_, rfl⟩
          rw [hr7] at v2 v3 T1; rw [hr18] at v2 v3 T2; rw [hr17] at v4 v5 T3; rw [hr19] at v4 v5 T4
          obtain ⟨p1, hp1⟩ : ∃ r, r7 ^^^ r18 = r := ⟨_, rfl⟩
          obtain ⟨p2, hp2⟩ : ∃ r, r17 ^^^ r19 = r := ⟨_, rfl⟩
          rw [hp1] at v2 v3; rw [hp2] at v4 v5
          obtain ⟨s1, hs1⟩ : ∃ r, (x16 + x7) % 4294967296 = r := ⟨_, rfl⟩
          obtain ⟨q1, hq1⟩ : ∃ r, sg0 x15 = r := ⟨_, rfl⟩
          obtain ⟨q2, hq2⟩ : ∃ r, sg1 x2 = r := ⟨_, rfl⟩
          rw [hs1] at v1; rw [hq1] at v3; rw [hq2] at v5
          have v6 : IntKind.u32.wrap ((s1 : Int) + q1) = (((s1 + q1) % 4294967296 : Nat) : Int) := by rw [IntKind.wrap_u32]; omega
          obtain ⟨s2, hs2⟩ : ∃ r, (s1 + q1) % 4294967296 = r := ⟨_, rfl⟩
          rw [hs2] at v6
          have v7 : IntKind.u32.wrap ((s2 : Int) + q2) = (((s2 + q2) % 4294967296 : Nat) : Int) := by rw [IntKind.wrap_u32]; omega
          obtain ⟨x, hx⟩ : ∃ r, (s2 + q2) % 4294967296 = r := ⟨_, rfl⟩
          rw [hx] at v7
          have HX : Hid (nth S i = x) := by rw [HS, hs1, hq1, hs2, hq2, hx]; exact rfl
          clear HS hs1 hq1 hs2 hq2 hx hp1 hp2 hr7 hr18 hr17 hr19 b15 b2 b16 b7
          go_wp2
          go_quiet (fail)
          obtain ⟨wq, hwq⟩ : ∃ wq, wq = wr.drewN nq := ⟨_, rfl⟩
          have d16 : wq.cell? ⟨w.heap.size + 1, n, none⟩ = some (.int .u32 (x16 : Int)) := by rw [hwq]; exact c16
          have d7 : wq.cell? ⟨w.heap.size + 1, i7, none⟩ = some (.int .u32 (x7 : Int)) := by rw [hwq]; exact c7
          have di : wq.cell? ⟨w.heap.size + 1, i, none⟩ = some (.int .u32 ((nth l i : Nat) : Int)) := by rw [hwq]; exact ci
          have fq : wq.frozen? ⟨w.heap.size + 1, i, none⟩ = false := by rw [hwq]; exact fz
          have HQ : Hid (SpInv w S i wq) := by rw [hwq]; exact HJ.out.drewN nq
          rw [← hwq]
          clear hwq c16 c7 ci fz c15 c2 hr hrb HJ
          go_wp2
          go_still_tail 29, (by kernel_rfl)
          still_call (T1.out _)
          repeat still_step
          still_call (T2.out _)
          repeat still_step
          still_call (T3.out _)
          repeat still_step
          still_call (T4.out _)
          repeat still_step
          refine wpStill_nil ?_
          change wpList _ _ _ _ _ wq.drew
          go_wp2
          go_roundw
          case rel => exact ⟨n + 1, i + 1, by go_num, by omega, by omega, by have := (HQ.out.step (by omega)).drew; rw [HX.out] at this; exact this⟩
          case measure => simp [intOf]; omega
    · have hlt : (k : Int) < 16 := by omega
      have B1 := HB.out.keep HI.out.below
      have b0 := B1.cell (4 * k) (by omega); have b1 := B1.cell (4 * k + 1) (by omega); have b2 := B1.cell (4 * k + 2) (by omega); have b3 := B1.cell (4 * k + 3) (by omega)
      have f0 := HF.out (4 * k); have f1 := HF.out (4 * k + 1); have f2 := HF.out (4 * k + 2); have f3 := HF.out (4 * k + 3)
      obtain ⟨y0, hy0⟩ : ∃ y, f (4 * k) = y := ⟨_, rfl⟩
      obtain ⟨y1, hy1⟩ : ∃ y, f (4 * k + 1) = y := ⟨_, rfl⟩
      obtain ⟨y2, hy2⟩ : ∃ y, f (4 * k + 2) = y := ⟨_, rfl⟩
      obtain ⟨y3, hy3⟩ : ∃ y, f (4 * k + 3) = y := ⟨_, rfl⟩
      rw [hy0] at b0 f0; rw [hy1] at b1 f1; rw [hy2] at b2 f2; rw [hy3] at b3 f3
      obtain ⟨l, hl, hp, hr⟩ := HI.out.row
      have hrb := lt_of_block hr
      have hbb := B1.lt
      have c0 := cell_w hr k (by omega)
      have fz := frozen_of_row wr _ k _ _ hr
      have m0 : IntKind.i64.wrap (4 * (k : Int)) = ((4 * k : Nat) : Int) := by rw [IntKind.wrap_i64]; omega
      have m1 : IntKind.i64.wrap (((4 * k : Nat) : Int) + 1) = ((4 * k + 1 : Nat) : Int) := by rw [IntKind.wrap_i64]; omega
      have m2 : IntKind.i64.wrap (((4 * k : Nat) : Int) + 2) = ((4 * k + 2 : Nat) : Int) := by rw [IntKind.wrap_i64]; omega
      have m3 : IntKind.i64.wrap (((4 * k : Nat) : Int) + 3) = ((4 * k + 3 : Nat) : Int) := by rw [IntKind.wrap_i64]; omega
      obtain ⟨k0, hk0⟩ : ∃ j, 4 * k = j := ⟨_, rfl⟩
      rw [hk0] at m0 m1 m2 m3 b0 b1 b2 b3 hy0 hy1 hy2 hy3
      obtain ⟨k1, hk1⟩ : ∃ j, k0 + 1 = j := ⟨_, rfl⟩
      obtain ⟨k2, hk2⟩ : ∃ j, k0 + 2 = j := ⟨_, rfl⟩
      obtain ⟨k3, hk3⟩ : ∃ j, k0 + 3 = j := ⟨_, rfl⟩
      rw [hk1] at m1 b1 hy1; rw [hk2] at m2 b2 hy2; rw [hk3] at m3 b3 hy3
      have l0 : (k0 : Int) < 64 := by omega
      have l1 : (k1 : Int) < 64 := by omega
      have l2 : (k2 : Int) < 64 := by omega
      have l3 : (k3 : Int) < 64 := by omega
      have l4 : (k : Int) < 64 := by omega
      have hw := four_or y0 y1 y2 y3 f0 f1 f2 f3
      obtain ⟨x, hx⟩ : ∃ x, ((y0 * 256 + y1) * 256 + y2) * 256 + y3 = x := ⟨_, rfl⟩
      rw [hx] at hw
      have HX : Hid (nth S k = x) := by rw [HLow.out k (by omega), word, hk0, hk1, hk2, hk3, hy0, hy1, hy2, hy3]; exact hx
      clear B1 hp h16 hk0 hk1 hk2 hk3 hx hy0 hy1 hy2 hy3 f0 f1 f2 f3
      go_wp2
      go_still_tail 35, (by kernel_rfl)
      change wpList _ _ _ _ _ wr.drew
      go_wp2
      go_roundw
      case rel => exact ⟨k + 1, by go_num, by omega, by have := (HI.out.step (show k < 64 by omega)).drew; rw [HX.out] at this; exact this⟩
      case measure => simp [intOf]; omega
end Go.Proofs.Ytbaifchbpnmkpaa
namespace Go.Proofs.Ytbaifchbpnmkpaa
open Go.RowKit
theorem wp_put_madeG {o : Oper} {a : Act} {W : World} {K : Act → World → Prop} {Q : Exit → Act → World → Prop} (ty : TypeId) (x y : Operand) (ho : o.op = .store ty x y) (v : Value) (hx : a.eval x = v) (r : Array Value) (hy : a.eval y = .agg r)
    (T : TypeId) (n : Nat) (k : Bool) (z : Array Value) (hM : Made W T n v k z r) (hk : k = false) (hi : (Try.prog.info? ty).map (·.size) = some r.size) (hs : z.size = r.size) (h1 : r.all (·.oneCell') = true)
    (h : ∀ g, v = .pointer (some ⟨g, 0, none⟩) → n ≤ g → W.heap[g]? = some (.cells z T (0, 0)) → K (a.put o.dst undef) (W.setRow g r)) : o.wp Try.prog a W K Q := by
  obtain ⟨g, hv, h2, h3⟩ := hM
  subst hk
  exact wp_store_row ty x y ho g r (hx.trans hv) hy T z h3 hi hs h1 (h g hv h2 h3)
/-- What mix's first loop holds behind k rounds. -/
structure MixInv (w : World) (L : List (Nat × Obj)) (g7 : Nat) (S x : List Nat) (k : Nat) (wr : World) : Prop where
  st : St w L wr
  cur : wr.heap[g7]? = some (.cells (wcells .u32 (rnds S x k)) 85 (0, 0))
theorem not32 (e : Nat) (he : e < 4294967296) : bits .xor .u32 IntKind.u32.max (e : Int) = ((4294967295 - e : Nat) : Int) := by
  have hm : IntKind.u32.max = ((4294967295 : Nat) : Int) := by decide
  rw [hm, xor32 _ _ (by decide) he]
  congr 1
  apply Nat.eq_of_testBit_eq
  intro i
  have h1 : 4294967295 - e = 2 ^ 32 - (e + 1) := by omega
  have h2 : (4294967295 : Nat) = 2 ^ 32 - 1 := by decide
  rw [Nat.testBit_xor, h1, Nat.testBit_two_pow_sub_succ he, h2, Nat.testBit_two_pow_sub_one]
  by_cases hi : i < 32
  · simp [hi]
  · have : e.testBit i = false := Nat.testBit_lt_two_pow (Nat.lt_of_lt_of_le he (Nat.pow_le_pow_right Nat.two_pos (Nat.le_of_not_lt hi)))
    simp [hi, this]
theorem set_all8 (X : List Nat) (h : X.length = 8) (p0 p1 p2 p3 p4 p5 p6 p7 : Nat) : (((((((X.set 0 p0).set 1 p1).set 2 p2).set 3 p3).set 4 p4).set 5 p5).set 6 p6).set 7 p7 = [p0, p1, p2, p3, p4, p5, p6, p7] := by
  match X, h with
  | [_, _, _, _, _, _, _, _], _ => rfl
theorem MixInv.step {w wr : World} {L : List (Nat × Obj)} {g7 : Nat} {S x : List Nat} {k : Nat} (h : MixInv w L g7 S x k wr) (hL : ∀ q, q ∈ L → q.1 ≠ g7) (hg : w.heap.size ≤ g7) (hl : (rnds S x k).length = 8) {p0 p1 p2 p3 p4 p5 p6 p7 : Nat}
    (hs : rnds S x (k + 1) = [p0, p1, p2, p3, p4, p5, p6, p7]) : MixInv w L g7 S x (k + 1) ((((((((wr.setCell ⟨g7, 0, none⟩ (.int .u32 ((p0 : Nat) : Int))).setCell ⟨g7, 1, none⟩ (.int .u32 ((p1 : Nat) : Int))).setCell ⟨g7, 2, none⟩ (.int .u32 ((p2 : Nat) : Int))).setCell ⟨g7, 3, none⟩ (.int .u32 ((p3 : Nat) : Int))).setCell ⟨g7, 4, none⟩ (.int .u32 ((p4 : Nat) : Int))).setCell ⟨g7, 5, none⟩ (.int .u32 ((p5 : Nat) : Int))).setCell ⟨g7, 6, none⟩ (.int .u32 ((p6 : Nat) : Int))).setCell ⟨g7, 7, none⟩ (.int .u32 ((p7 : Nat) : Int))) := by
  have one : ∀ (W : World) (i : Nat) (v : Value), St w L W → St w L (W.setCell ⟨g7, i, none⟩ v) := fun W i v hS => ⟨hS.below.setCell hg _, fun p hp => (heap_setCell_other _ _ _ _ (hL p hp)).trans (hS.rows p hp)⟩
  refine ⟨one _ _ _ (one _ _ _ (one _ _ _ (one _ _ _ (one _ _ _ (one _ _ _ (one _ _ _ (one _ _ _ h.st))))))), ?_⟩
  rw [hs, ← set_all8 _ hl p0 p1 p2 p3 p4 p5 p6 p7]
  exact set_w (set_w (set_w (set_w (set_w (set_w (set_w (set_w h.cur 0 p0) 1 p1) 2 p2) 3 p3) 4 p4) 5 p5) 6 p6) 7 p7
/-- What its second holds. -/
structure SumInv (w : World) (L : List (Nat × Obj)) (x y : List Nat) (k : Nat) (wr : World) : Prop where
  st : St w L wr
  row : ∃ l : List Nat, l.length = 8 ∧ (∀ j, j < k → nth l j = (nth x j + nth y j) % 4294967296) ∧ (∀ j, k ≤ j → nth l j = nth x j) ∧ wr.heap[w.heap.size]? = some (.cells (wcells .u32 l) 85 (0, 0))
theorem SumInv.step {w wr : World} {L : List (Nat × Obj)} {x y : List Nat} {k : Nat} (h : SumInv w L x y k wr) (hL : ∀ q, q ∈ L → q.1 ≠ w.heap.size) (hk : k < 8) :
    SumInv w L x y (k + 1) (wr.setCell ⟨w.heap.size, k, none⟩ (.int .u32 (((nth x k + nth y k) % 4294967296 : Nat) : Int))).drew := by
  obtain ⟨l, hl, hp, hq, hr⟩ := h.row
  refine ⟨St.drew ⟨h.st.below.setCell (Nat.le_refl _) _, fun p hpm => ?_⟩, l.set k ((nth x k + nth y k) % 4294967296), by simpa using hl, fun j hj => ?_, fun j hj => ?_, set_w hr k _⟩
  · rw [heap_setCell_other _ _ _ _ (hL p hpm)]; exact h.st.rows p hpm
  · rw [nth_set _ _ _ _ (by omega)]
    split
    · next e => rw [e]
    · exact hp j (by omega)
  · rw [nth_set _ _ _ _ (by omega), if_neg (by omega)]; exact hq j (by omega)
set_option maxRecDepth 100000 in
set_option maxHeartbeats 4000000 in
theorem mix_c (b o c : Nat) (x : List Nat) (f : Nat → Nat) (hf : ∀ i, f i < 256) (hx8 : x.length = 8) (hxw : W32 x) (w : World) (h : Bt w b o 64 f) :
    Calls Try.prog 48 #[.agg (wcells .u32 x), bsv b o 64 c] w fun e w' => e = .returned (.agg (wcells .u32 (mixS x f))) ∧ Below w.heap.size w w' := by
  have CS : Hid (∀ W, Below w.heap.size w W → Calls Try.prog 64 #[bsv b o 64 c] W fun e w' => e = .returned (.agg (wcells .u32 (sch f 48))) ∧ Below W.heap.size W w') := fun W hb => spread_c b o c f hf W (h.keep hb)
  have HSL0 := sch_len f 48; have HSW0 := sch_w f hf 48
  have HM : Hid (mixS x f = addL x (rnds (sch f 48) x 64)) := rfl
  obtain ⟨S, hS⟩ : ∃ S, S = sch f 48 := ⟨_, rfl⟩
  rw [← hS] at CS HSL0 HSW0 HM
  have HX8 := Lib.hid hx8; have HXW := Lib.hid hxw; have HSL : Hid (S.length = 64) := HSL0; have HSW := Lib.hid HSW0
  rw [HM.out]
  have S0 := (((St.nil w).alloc (.cells (wcells .u32 x) 85) _ rfl).alloc (.cells (wcells .u32 (List.replicate 8 0)) 85) (w.heap.size + 1) (by simp))
  obtain ⟨L0, hL0⟩ : ∃ L, L = [(w.heap.size + 1, Obj.cells (wcells .u32 (List.replicate 8 0)) 85 (0, 0)), (w.heap.size, Obj.cells (wcells .u32 x) 85 (0, 0))] := ⟨_, rfl⟩
  rw [← hL0] at S0
  have m1 : (w.heap.size + 1, Obj.cells (wcells .u32 (List.replicate 8 0)) 85 (0, 0)) ∈ L0 := by rw [hL0]; exact List.Mem.head _
  have m0 : (w.heap.size, Obj.cells (wcells .u32 x) 85 (0, 0)) ∈ L0 := by rw [hL0]; exact List.Mem.tail _ (List.Mem.head _)
  have hlow : Hid (∀ q, q ∈ L0 → q.1 < w.heap.size + 2) := by
    rw [hL0]; intro q hq; simp at hq; rcases hq with rfl | rfl <;> simp
  have hbase : w.heap.size + 2 ≤ ((w.alloc (.cells (wcells .u32 x) 85)).alloc (.cells (wcells .u32 (List.replicate 8 0)) 85)).heap.size := by simp
  clear h hf hx8 hxw hS HSL0 HSW0 hL0 HM
  go_enter Try.func48, Try.ntmps48
  go_wp2_with fail
  obtain ⟨I, hI0⟩ : ∃ I : Array Value → (Nat → Bool) → Act → World → Prop, I = (fun T0 L act W => ∃ vq0 vq1 vq2 vq3 vq4 vq5 vq6, act = ⟨sets T0 [(14, vq0), (15, vq1), (16, vq2), (17, vq3), (5, vq4), (6, vq5), (7, vq6)], []⟩ ∧ St w L0 W ∧ w.heap.size + 2 ≤ W.heap.size ∧ (L 0 = true → vq0 = bsv b o 64 c) ∧ (L 1 = true → vq1 = .agg (wcells .u32 S)) ∧ (L 2 = true → vq2 = .agg (wcells .u32 KL)) ∧ (L 3 = true → vq3 = .agg (wcells .u32 x)) ∧ (L 4 = true → Made W 101 (w.heap.size + 2) vq4 (L 7) (wcells .u32 (List.replicate 64 0)) (wcells .u32 S)) ∧ (L 7 = true → L 4 = true) ∧ (L 5 = true → Made W 101 (w.heap.size + 2) vq5 (L 8) (wcells .u32 (List.replicate 64 0)) (wcells .u32 KL)) ∧ (L 8 = true → L 5 = true) ∧ (L 6 = true → Made W 85 (w.heap.size + 2) vq6 (L 9) (wcells .u32 (List.replicate 8 0)) (wcells .u32 x)) ∧ (L 9 = true → L 6 = true) ∧ (L 4 = true → L 5 = true → vq4 ≠ vq5) ∧ (L 4 = true → L 6 = true → vq4 ≠ vq6) ∧ (L 5 = true → L 6 = true → vq5 ≠ vq6)) := ⟨_, rfl⟩
  have HI := Lib.hid hI0; clear hI0
  refine wp_region_frame (by kernel_rfl) (by kernel_rfl) I (fun T0 hT0 => ⟨?start, ?step, ?fin⟩)
  case start =>
    rw [HI.out]
    exact ⟨T0.getD 14 undef, T0.getD 15 undef, T0.getD 16 undef, T0.getD 17 undef, T0.getD 5 undef, T0.getD 6 undef, T0.getD 7 undef, by (refine Eq.trans ?_ (congrArg (fun T => Act.mk T []) (sets_self [14, 15, 16, 17, 5, 6, 7] T0).symm)); rw [hT0], S0.drew, hbase, nofun, nofun, nofun, nofun, nofun, nofun, nofun, nofun, nofun, nofun, nofun, nofun, nofun⟩
  case step =>
    refine ⟨?_, ?_, ?_, ?_, ?_, ?_, ?_, ?_, ?_, ?_, trivial⟩
    · intro L act W hI hno hdep
      rw [HI.out] at hI
      obtain ⟨vq0, vq1, vq2, vq3, vq4, vq5, vq6, hact, hS, hsz, hq0, hq1, hq2, hq3, mq4, dq7_4, mq5, dq8_5, mq6, dq9_6, eq4_5, eq4_6, eq5_6⟩ := hI
      subst hact
      rw [hT0]; simp only [sets, List.setIfInBounds_toArray, List.set_cons_zero, List.set_cons_succ]
      go_simp
      rw [HI.out]
      exact ⟨bsv b o 64 c, vq1, vq2, vq3, vq4, vq5, vq6, by simp only [sets, List.setIfInBounds_toArray, List.set_cons_zero, List.set_cons_succ], hS, hsz, fun _ => rfl, keepI hq1 rfl, keepI hq2 rfl, keepI hq3 rfl, fun h => by rw [also_of (by decide)] at h ⊢; exact mq4 h, keepD dq7_4 rfl, fun h => by rw [also_of (by decide)] at h ⊢; exact mq5 h, keepD dq8_5 rfl, fun h => by rw [also_of (by decide)] at h ⊢; exact mq6 h, keepD dq9_6 rfl, fun h h' => eq4_5 (by rw [also_of (by decide)] at h; exact h) (by rw [also_of (by decide)] at h'; exact h'), fun h h' => eq4_6 (by rw [also_of (by decide)] at h; exact h) (by rw [also_of (by decide)] at h'; exact h'), fun h h' => eq5_6 (by rw [also_of (by decide)] at h; exact h) (by rw [also_of (by decide)] at h'; exact h')⟩
    · intro L act W hI hno hdep
      rw [HI.out] at hI
      obtain ⟨vq0, vq1, vq2, vq3, vq4, vq5, vq6, hact, hS, hsz, hq0, hq1, hq2, hq3, mq4, dq7_4, mq5, dq8_5, mq6, dq9_6, eq4_5, eq4_6, eq5_6⟩ := hI
      subst hact
      obtain rfl := hq0 (hdep ⟨0, .data⟩ (by simp) rfl)
      rw [hT0]; simp only [sets, List.setIfInBounds_toArray, List.set_cons_zero, List.set_cons_succ]
      go_simp
      refine (CS.out _ hS.below).mono ?_
      rintro e W2 ⟨rfl, hb⟩
      have hsz2 := Nat.le_trans hsz hb.size
      rw [HI.out]
      exact ⟨bsv b o 64 c, .agg (wcells .u32 S), vq2, vq3, vq4, vq5, vq6, by simp only [sets, List.setIfInBounds_toArray, List.set_cons_zero, List.set_cons_succ], (hS.keep hb), hsz2, fun _ => rfl, fun _ => rfl, keepI hq2 rfl, keepI hq3 rfl, fun h => by rw [also_of (by decide)] at h ⊢; exact (fun h => (mq4 h).keep hb) h, keepD dq7_4 rfl, fun h => by rw [also_of (by decide)] at h ⊢; exact (fun h => (mq5 h).keep hb) h, keepD dq8_5 rfl, fun h => by rw [also_of (by decide)] at h ⊢; exact (fun h => (mq6 h).keep hb) h, keepD dq9_6 rfl, fun h h' => eq4_5 (by rw [also_of (by decide)] at h; exact h) (by rw [also_of (by decide)] at h'; exact h'), fun h h' => eq4_6 (by rw [also_of (by decide)] at h; exact h) (by rw [also_of (by decide)] at h'; exact h'), fun h h' => eq5_6 (by rw [also_of (by decide)] at h; exact h) (by rw [also_of (by decide)] at h'; exact h')⟩
    · intro L act W hI hno hdep
      rw [HI.out] at hI
      obtain ⟨vq0, vq1, vq2, vq3, vq4, vq5, vq6, hact, hS, hsz, hq0, hq1, hq2, hq3, mq4, dq7_4, mq5, dq8_5, mq6, dq9_6, eq4_5, eq4_6, eq5_6⟩ := hI
      subst hact
      rw [hT0]; simp only [sets, List.setIfInBounds_toArray, List.set_cons_zero, List.set_cons_succ]
      go_simp
      refine (constants_c _).mono ?_
      rintro e W2 ⟨rfl, hb⟩
      have hsz2 := Nat.le_trans hsz hb.size
      rw [HI.out]
      exact ⟨vq0, vq1, .agg (wcells .u32 KL), vq3, vq4, vq5, vq6, by simp only [sets, List.setIfInBounds_toArray, List.set_cons_zero, List.set_cons_succ], (hS.keep hb), hsz2, keepI hq0 rfl, keepI hq1 rfl, fun _ => rfl, keepI hq3 rfl, fun h => by rw [also_of (by decide)] at h ⊢; exact (fun h => (mq4 h).keep hb) h, keepD dq7_4 rfl, fun h => by rw [also_of (by decide)] at h ⊢; exact (fun h => (mq5 h).keep hb) h, keepD dq8_5 rfl, fun h => by rw [also_of (by decide)] at h ⊢; exact (fun h => (mq6 h).keep hb) h, keepD dq9_6 rfl, fun h h' => eq4_5 (by rw [also_of (by decide)] at h; exact h) (by rw [also_of (by decide)] at h'; exact h'), fun h h' => eq4_6 (by rw [also_of (by decide)] at h; exact h) (by rw [also_of (by decide)] at h'; exact h'), fun h h' => eq5_6 (by rw [also_of (by decide)] at h; exact h) (by rw [also_of (by decide)] at h'; exact h')⟩
    · intro L act W hI hno hdep
      rw [HI.out] at hI
      obtain ⟨vq0, vq1, vq2, vq3, vq4, vq5, vq6, hact, hS, hsz, hq0, hq1, hq2, hq3, mq4, dq7_4, mq5, dq8_5, mq6, dq9_6, eq4_5, eq4_6, eq5_6⟩ := hI
      subst hact
      rw [hT0]; simp only [sets, List.setIfInBounds_toArray, List.set_cons_zero, List.set_cons_succ]
      with_reducible refine wp_load_row 85 (Operand.tmp 2) rfl w.heap.size ?_ 85 (wcells .u32 x) (0, 0) _ (hS.get m0) Try.underlying85 rfl (by rw [wcells_size, HX8.out]; kernel_rfl) ?_
      · rfl
      rw [HI.out]
      exact ⟨vq0, vq1, vq2, .agg (wcells .u32 x), vq4, vq5, vq6, by simp only [sets, Act.put, List.setIfInBounds_toArray, List.set_cons_zero, List.set_cons_succ], hS, hsz, keepI hq0 rfl, keepI hq1 rfl, keepI hq2 rfl, fun _ => rfl, fun h => by rw [also_of (by decide)] at h ⊢; exact mq4 h, keepD dq7_4 rfl, fun h => by rw [also_of (by decide)] at h ⊢; exact mq5 h, keepD dq8_5 rfl, fun h => by rw [also_of (by decide)] at h ⊢; exact mq6 h, keepD dq9_6 rfl, fun h h' => eq4_5 (by rw [also_of (by decide)] at h; exact h) (by rw [also_of (by decide)] at h'; exact h'), fun h h' => eq4_6 (by rw [also_of (by decide)] at h; exact h) (by rw [also_of (by decide)] at h'; exact h'), fun h h' => eq5_6 (by rw [also_of (by decide)] at h; exact h) (by rw [also_of (by decide)] at h'; exact h')⟩
    · intro L act W hI hno hdep
      rw [HI.out] at hI
      obtain ⟨vq0, vq1, vq2, vq3, vq4, vq5, vq6, hact, hS, hsz, hq0, hq1, hq2, hq3, mq4, dq7_4, mq5, dq8_5, mq6, dq9_6, eq4_5, eq4_6, eq5_6⟩ := hI
      subst hact
      have hsF := noF dq7_4 hno
      rw [hT0]; simp only [sets, List.setIfInBounds_toArray, List.set_cons_zero, List.set_cons_succ]
      go_simp
      rw [HI.out]
      exact ⟨vq0, vq1, vq2, vq3, (.pointer (some ⟨W.heap.size, 0, none⟩)), vq5, vq6, by simp only [sets, List.setIfInBounds_toArray, List.set_cons_zero, List.set_cons_succ], (hS.alloc0 _), (by simp at *; omega), keepI hq0 rfl, keepI hq1 rfl, keepI hq2 rfl, keepI hq3 rfl, fun _ => Made.new' W _ _ (by omega) _ _ (by simp [also, hsF]), keepD dq7_4 rfl, fun h => by rw [also_of (by decide)] at h ⊢; exact (fun h => (mq5 h).alloc _) h, keepD dq8_5 rfl, fun h => by rw [also_of (by decide)] at h ⊢; exact (fun h => (mq6 h).alloc _) h, keepD dq9_6 rfl, fun _ h e => (mq5 (by rw [also_of (by decide)] at h; exact h)).ne e.symm, fun _ h e => (mq6 (by rw [also_of (by decide)] at h; exact h)).ne e.symm, fun h h' => eq5_6 (by rw [also_of (by decide)] at h; exact h) (by rw [also_of (by decide)] at h'; exact h')⟩
    · intro L act W hI hno hdep
      rw [HI.out] at hI
      obtain ⟨vq0, vq1, vq2, vq3, vq4, vq5, vq6, hact, hS, hsz, hq0, hq1, hq2, hq3, mq4, dq7_4, mq5, dq8_5, mq6, dq9_6, eq4_5, eq4_6, eq5_6⟩ := hI
      subst hact
      have hsF := noF dq8_5 hno
      rw [hT0]; simp only [sets, List.setIfInBounds_toArray, List.set_cons_zero, List.set_cons_succ]
      go_simp
      rw [HI.out]
      exact ⟨vq0, vq1, vq2, vq3, vq4, (.pointer (some ⟨W.heap.size, 0, none⟩)), vq6, by simp only [sets, List.setIfInBounds_toArray, List.set_cons_zero, List.set_cons_succ], (hS.alloc0 _), (by simp at *; omega), keepI hq0 rfl, keepI hq1 rfl, keepI hq2 rfl, keepI hq3 rfl, fun h => by rw [also_of (by decide)] at h ⊢; exact (fun h => (mq4 h).alloc _) h, keepD dq7_4 rfl, fun _ => Made.new' W _ _ (by omega) _ _ (by simp [also, hsF]), keepD dq8_5 rfl, fun h => by rw [also_of (by decide)] at h ⊢; exact (fun h => (mq6 h).alloc _) h, keepD dq9_6 rfl, fun h _ e => (mq4 (by rw [also_of (by decide)] at h; exact h)).ne e, fun h h' => eq4_6 (by rw [also_of (by decide)] at h; exact h) (by rw [also_of (by decide)] at h'; exact h'), fun _ h e => (mq6 (by rw [also_of (by decide)] at h; exact h)).ne e.symm⟩
    · intro L act W hI hno hdep
      rw [HI.out] at hI
      obtain ⟨vq0, vq1, vq2, vq3, vq4, vq5, vq6, hact, hS, hsz, hq0, hq1, hq2, hq3, mq4, dq7_4, mq5, dq8_5, mq6, dq9_6, eq4_5, eq4_6, eq5_6⟩ := hI
      subst hact
      have hsF := noF dq9_6 hno
      rw [hT0]; simp only [sets, List.setIfInBounds_toArray, List.set_cons_zero, List.set_cons_succ]
      go_simp
      rw [HI.out]
      exact ⟨vq0, vq1, vq2, vq3, vq4, vq5, (.pointer (some ⟨W.heap.size, 0, none⟩)), by simp only [sets, List.setIfInBounds_toArray, List.set_cons_zero, List.set_cons_succ], (hS.alloc0 _), (by simp at *; omega), keepI hq0 rfl, keepI hq1 rfl, keepI hq2 rfl, keepI hq3 rfl, fun h => by rw [also_of (by decide)] at h ⊢; exact (fun h => (mq4 h).alloc _) h, keepD dq7_4 rfl, fun h => by rw [also_of (by decide)] at h ⊢; exact (fun h => (mq5 h).alloc _) h, keepD dq8_5 rfl, fun _ => Made.new' W _ _ (by omega) _ _ (by simp [also, hsF]), keepD dq9_6 rfl, fun h h' => eq4_5 (by rw [also_of (by decide)] at h; exact h) (by rw [also_of (by decide)] at h'; exact h'), fun h _ e => (mq4 (by rw [also_of (by decide)] at h; exact h)).ne e, fun h _ e => (mq5 (by rw [also_of (by decide)] at h; exact h)).ne e⟩
    · intro L act W hI hno hdep
      rw [HI.out] at hI
      obtain ⟨vq0, vq1, vq2, vq3, vq4, vq5, vq6, hact, hS, hsz, hq0, hq1, hq2, hq3, mq4, dq7_4, mq5, dq8_5, mq6, dq9_6, eq4_5, eq4_6, eq5_6⟩ := hI
      subst hact
      obtain rfl := hq1 (hdep ⟨1, .data⟩ (by simp) rfl)
      rw [hT0]; simp only [sets, List.setIfInBounds_toArray, List.set_cons_zero, List.set_cons_succ]
      with_reducible refine wp_put_madeG 101 (Operand.tmp 5) (Operand.tmp 15) rfl vq4 ?_ (wcells .u32 S) ?_ 101 _ _ _ (mq4 (hdep ⟨4, .data⟩ (by simp) rfl)) hno (by rw [wcells_size, HSL.out]; kernel_rfl) (by rw [wcells_size, wcells_size, HSL.out, List.length_replicate]) (wcells_one _ _) ?_
      · rfl
      · rfl
      intro gx hgx hgn hg
      subst hgx
      rw [HI.out]
      exact ⟨vq0, .agg (wcells .u32 S), vq2, vq3, (.pointer (some ⟨gx, 0, none⟩)), vq5, vq6, by simp only [sets, Act.put, List.setIfInBounds_toArray, List.set_cons_zero, List.set_cons_succ], (hS.setRow (by omega) (fun p hp => Nat.ne_of_lt (Nat.lt_of_lt_of_le (hlow.out p hp) hgn)) _), (by simpa [World.setRow] using hsz), keepI hq0 rfl, fun _ => rfl, keepI hq2 rfl, keepI hq3 rfl, fun _ => by rw [also_self]; exact Made.stored hg hgn _ _, fun _ => alsoD (hdep ⟨4, .data⟩ (by simp) rfl), fun h => by rw [also_of (by decide)] at h ⊢; exact (fun h => (mq5 h).other ((fun e => eq4_5 (hdep ⟨4, .phase⟩ (by simp) rfl) (hdep ⟨5, .phase⟩ (by simp) rfl) e.symm)) _) h, keepD dq8_5 rfl, fun h => by rw [also_of (by decide)] at h ⊢; exact (fun h => (mq6 h).other ((fun e => eq4_6 (hdep ⟨4, .phase⟩ (by simp) rfl) (hdep ⟨6, .phase⟩ (by simp) rfl) e.symm)) _) h, keepD dq9_6 rfl, fun h h' => eq4_5 (by rw [also_of (by decide)] at h; exact h) (by rw [also_of (by decide)] at h'; exact h'), fun h h' => eq4_6 (by rw [also_of (by decide)] at h; exact h) (by rw [also_of (by decide)] at h'; exact h'), fun h h' => eq5_6 (by rw [also_of (by decide)] at h; exact h) (by rw [also_of (by decide)] at h'; exact h')⟩
    · intro L act W hI hno hdep
      rw [HI.out] at hI
      obtain ⟨vq0, vq1, vq2, vq3, vq4, vq5, vq6, hact, hS, hsz, hq0, hq1, hq2, hq3, mq4, dq7_4, mq5, dq8_5, mq6, dq9_6, eq4_5, eq4_6, eq5_6⟩ := hI
      subst hact
      obtain rfl := hq2 (hdep ⟨2, .data⟩ (by simp) rfl)
      rw [hT0]; simp only [sets, List.setIfInBounds_toArray, List.set_cons_zero, List.set_cons_succ]
      with_reducible refine wp_put_madeG 101 (Operand.tmp 6) (Operand.tmp 16) rfl vq5 ?_ (wcells .u32 KL) ?_ 101 _ _ _ (mq5 (hdep ⟨5, .data⟩ (by simp) rfl)) hno (by rw [wcells_size, KL_len]; kernel_rfl) (by rw [wcells_size, wcells_size, KL_len, List.length_replicate]) (wcells_one _ _) ?_
      · rfl
      · rfl
      intro gx hgx hgn hg
      subst hgx
      rw [HI.out]
      exact ⟨vq0, vq1, .agg (wcells .u32 KL), vq3, vq4, (.pointer (some ⟨gx, 0, none⟩)), vq6, by simp only [sets, Act.put, List.setIfInBounds_toArray, List.set_cons_zero, List.set_cons_succ], (hS.setRow (by omega) (fun p hp => Nat.ne_of_lt (Nat.lt_of_lt_of_le (hlow.out p hp) hgn)) _), (by simpa [World.setRow] using hsz), keepI hq0 rfl, keepI hq1 rfl, fun _ => rfl, keepI hq3 rfl, fun h => by rw [also_of (by decide)] at h ⊢; exact (fun h => (mq4 h).other (eq4_5 (hdep ⟨4, .phase⟩ (by simp) rfl) (hdep ⟨5, .phase⟩ (by simp) rfl)) _) h, keepD dq7_4 rfl, fun _ => by rw [also_self]; exact Made.stored hg hgn _ _, fun _ => alsoD (hdep ⟨5, .data⟩ (by simp) rfl), fun h => by rw [also_of (by decide)] at h ⊢; exact (fun h => (mq6 h).other ((fun e => eq5_6 (hdep ⟨5, .phase⟩ (by simp) rfl) (hdep ⟨6, .phase⟩ (by simp) rfl) e.symm)) _) h, keepD dq9_6 rfl, fun h h' => eq4_5 (by rw [also_of (by decide)] at h; exact h) (by rw [also_of (by decide)] at h'; exact h'), fun h h' => eq4_6 (by rw [also_of (by decide)] at h; exact h) (by rw [also_of (by decide)] at h'; exact h'), fun h h' => eq5_6 (by rw [also_of (by decide)] at h; exact h) (by rw [also_of (by decide)] at h'; exact h')⟩
    · intro L act W hI hno hdep
      rw [HI.out] at hI
      obtain ⟨vq0, vq1, vq2, vq3, vq4, vq5, vq6, hact, hS, hsz, hq0, hq1, hq2, hq3, mq4, dq7_4, mq5, dq8_5, mq6, dq9_6, eq4_5, eq4_6, eq5_6⟩ := hI
      subst hact
      obtain rfl := hq3 (hdep ⟨3, .data⟩ (by simp) rfl)
      rw [hT0]; simp only [sets, List.setIfInBounds_toArray, List.set_cons_zero, List.set_cons_succ]
      with_reducible refine wp_put_madeG 85 (Operand.tmp 7) (Operand.tmp 17) rfl vq6 ?_ (wcells .u32 x) ?_ 85 _ _ _ (mq6 (hdep ⟨6, .data⟩ (by simp) rfl)) hno (by rw [wcells_size, HX8.out]; kernel_rfl) (by rw [wcells_size, wcells_size, HX8.out, List.length_replicate]) (wcells_one _ _) ?_
      · rfl
      · rfl
      intro gx hgx hgn hg
      subst hgx
      rw [HI.out]
      exact ⟨vq0, vq1, vq2, .agg (wcells .u32 x), vq4, vq5, (.pointer (some ⟨gx, 0, none⟩)), by simp only [sets, Act.put, List.setIfInBounds_toArray, List.set_cons_zero, List.set_cons_succ], (hS.setRow (by omega) (fun p hp => Nat.ne_of_lt (Nat.lt_of_lt_of_le (hlow.out p hp) hgn)) _), (by simpa [World.setRow] using hsz), keepI hq0 rfl, keepI hq1 rfl, keepI hq2 rfl, fun _ => rfl, fun h => by rw [also_of (by decide)] at h ⊢; exact (fun h => (mq4 h).other (eq4_6 (hdep ⟨4, .phase⟩ (by simp) rfl) (hdep ⟨6, .phase⟩ (by simp) rfl)) _) h, keepD dq7_4 rfl, fun h => by rw [also_of (by decide)] at h ⊢; exact (fun h => (mq5 h).other (eq5_6 (hdep ⟨5, .phase⟩ (by simp) rfl) (hdep ⟨6, .phase⟩ (by simp) rfl)) _) h, keepD dq8_5 rfl, fun _ => by rw [also_self]; exact Made.stored hg hgn _ _, fun _ => alsoD (hdep ⟨6, .data⟩ (by simp) rfl), fun h h' => eq4_5 (by rw [also_of (by decide)] at h; exact h) (by rw [also_of (by decide)] at h'; exact h'), fun h h' => eq4_6 (by rw [also_of (by decide)] at h; exact h) (by rw [also_of (by decide)] at h'; exact h'), fun h h' => eq5_6 (by rw [also_of (by decide)] at h; exact h) (by rw [also_of (by decide)] at h'; exact h')⟩
  case fin =>
    intro L act W hall hI
    rw [HI.out] at hI
    obtain ⟨vq0, vq1, vq2, vq3, vq4, vq5, vq6, hact, hS, hsz, hq0, hq1, hq2, hq3, mq4, dq7_4, mq5, dq8_5, mq6, dq9_6, eq4_5, eq4_6, eq5_6⟩ := hI
    subst hact
    obtain rfl := hq0 (hall 0 (by decide))
    obtain rfl := hq1 (hall 1 (by decide))
    obtain rfl := hq2 (hall 2 (by decide))
    obtain rfl := hq3 (hall 3 (by decide))
    obtain ⟨g5, rfl, g5n, g5r⟩ := mq4 (hall 4 (by decide))
    rw [hall 7 (by decide)] at g5r
    have g5h := Lib.hid (show W.heap[g5]? = some (.cells (wcells .u32 S) 101 (0, 0)) from g5r); clear g5r
    obtain ⟨g6, rfl, g6n, g6r⟩ := mq5 (hall 5 (by decide))
    rw [hall 8 (by decide)] at g6r
    have g6h := Lib.hid (show W.heap[g6]? = some (.cells (wcells .u32 KL) 101 (0, 0)) from g6r); clear g6r
    obtain ⟨g7, rfl, g7n, g7r⟩ := mq6 (hall 6 (by decide))
    rw [hall 9 (by decide)] at g7r
    have g7h := Lib.hid (show W.heap[g7]? = some (.cells (wcells .u32 x) 85 (0, 0)) from g7r); clear g7r
    clear hq0 hq1 hq2 hq3 mq4 dq7_4 mq5 dq8_5 mq6 dq9_6 eq4_5 eq4_6 eq5_6 hall
    rw [hT0]; simp only [sets, List.setIfInBounds_toArray, List.set_cons_zero, List.set_cons_succ]
    clear hT0 HI
    have hn57 : g5 ≠ g7 := by
      rintro rfl
      have := g5h.out.symm.trans g7h.out
      simp at this
    have hn67 : g6 ≠ g7 := by
      rintro rfl
      have := g6h.out.symm.trans g7h.out
      simp at this
    have h7lo : w.heap.size + 2 ≤ g7 := g7n
    obtain ⟨L1, hL1⟩ : ∃ L, L = (g5, Obj.cells (wcells .u32 S) 101 (0, 0)) :: (g6, Obj.cells (wcells .u32 KL) 101 (0, 0)) :: L0 := ⟨_, rfl⟩
    have S1 := (hS.cons g6h.out).cons g5h.out
    rw [← hL1] at S1
    have n5 : (g5, Obj.cells (wcells .u32 S) 101 (0, 0)) ∈ L1 := by rw [hL1]; exact List.Mem.head _
    have n6 : (g6, Obj.cells (wcells .u32 KL) 101 (0, 0)) ∈ L1 := by rw [hL1]; exact List.Mem.tail _ (List.Mem.head _)
    have n1 : (w.heap.size + 1, Obj.cells (wcells .u32 (List.replicate 8 0)) 85 (0, 0)) ∈ L1 := by rw [hL1]; exact List.Mem.tail _ (List.Mem.tail _ m1)
    have n0 : (w.heap.size, Obj.cells (wcells .u32 x) 85 (0, 0)) ∈ L1 := by rw [hL1]; exact List.Mem.tail _ (List.Mem.tail _ m0)
    have h01 : Hid (∀ q, q ∈ L0 → q ∈ L1) := by rw [hL1]; exact fun q hq => List.Mem.tail _ (List.Mem.tail _ hq)
    have hn7 : Hid (∀ q, q ∈ L1 → q.1 ≠ g7) := by
      rw [hL1]; intro q hq
      rcases List.mem_cons.1 hq with rfl | hq
      · exact hn57
      · rcases List.mem_cons.1 hq with rfl | hq
        · exact hn67
        · have := hlow.out q hq; omega
    clear hL1
    have I0 : Hid (MixInv w L1 g7 S x 0 W) := ⟨S1, g7h.out⟩
    go_wp2_with fail
    go_loopw [18] (fun v wr => ∃ k : Nat, v = .int .i64 (k : Int) ∧ k ≤ 64 ∧ Hid (MixInv w L1 g7 S x k wr)) (fun v _ => (64 - intOf v).toNat)
    case atStart => exact ⟨0, rfl, by omega, I0⟩
    case round =>
      obtain ⟨k, rfl, hk, HI⟩ := hrel
      by_cases h64 : k = 64
      · have hge : ¬ (k : Int) < 64 := by omega
        have hcur := HI.out.cur
        rw [h64] at hcur
        have hy8 := rnds_len S x HX8.out 64
        obtain ⟨y, hy⟩ : ∃ y, rnds S x 64 = y := ⟨_, rfl⟩
        rw [hy] at hcur hy8
        have HY := Lib.hid hy; have HY8 := Lib.hid hy8
        obtain ⟨L2, hL2⟩ : ∃ L, L = [(g7, Obj.cells (wcells .u32 y) 85 (0, 0)), (w.heap.size + 1, Obj.cells (wcells .u32 (List.replicate 8 0)) 85 (0, 0))] := ⟨_, rfl⟩
        have S2 : St w L2 wr := by
          rw [hL2]
          exact (HI.out.st.drop (L' := [(w.heap.size + 1, Obj.cells (wcells .u32 (List.replicate 8 0)) 85 (0, 0))]) (by intro q hq; rcases List.mem_cons.1 hq with rfl | hq; exact n1; cases hq)).cons hcur
        have p7 : (g7, Obj.cells (wcells .u32 y) 85 (0, 0)) ∈ L2 := by rw [hL2]; exact List.Mem.head _
        have p1 : (w.heap.size + 1, Obj.cells (wcells .u32 (List.replicate 8 0)) 85 (0, 0)) ∈ L2 := by rw [hL2]; exact List.Mem.tail _ (List.Mem.head _)
        have hn2 : Hid (∀ q, q ∈ L2 → q.1 ≠ w.heap.size) := by
          rw [hL2]; intro q hq
          rcases List.mem_cons.1 hq with rfl | hq
          · show g7 ≠ _; omega
          · rcases List.mem_cons.1 hq with rfl | hq
            · show w.heap.size + 1 ≠ _; omega
            · cases hq
        have J0 : Hid (SumInv w L2 x y 0 wr) := ⟨S2, x, HX8.out, fun j hj => absurd hj (by omega), fun _ _ => rfl, HI.out.st.get n0⟩
        clear hL2 hcur hy hy8 S2 h64
        go_wp2_with fail
        go_loopw [98] (fun v wr => ∃ j : Nat, v = .int .i64 (j : Int) ∧ j ≤ 8 ∧ Hid (SumInv w L2 x y j wr)) (fun v _ => (8 - intOf v).toNat)
        case atStart => exact ⟨0, rfl, by omega, J0⟩
        case round =>
          obtain ⟨j, rfl, hj, HJ⟩ := hrel
          by_cases h8 : j = 8
          · have hge8 : ¬ (j : Int) < 8 := by omega
            obtain ⟨l, hl, hp, hq, hr⟩ := HJ.out.row
            have hle : l = addL x y := nth_ext _ _ (by rw [hl, addL_len]) (fun i hi => by rw [hp i (by omega), addL, nth_range _ _ _ (by omega)])
            have HLE := Lib.hid hle
            have HL8 := Lib.hid hl
            have HR := Lib.hid hr
            have hz := HJ.out.st.get p1
            have HZ := Lib.hid hz
            clear hle hl hp hq hr h8 hz
            go_wp2_with (first
              | (refine wpList_load_row rfl 85 (.tmp 2) rfl w.heap.size rfl 85 (wcells .u32 l) (0, 0) _ HR.out Try.underlying85 rfl (by rw [wcells_size, HL8.out]; kernel_rfl) ?_)
              | (refine wpList_store_row rfl 85 (.tmp 4) (.tmp 110) rfl (w.heap.size + 1) (wcells .u32 l) rfl rfl 85 (wcells .u32 (List.replicate 8 0)) HZ.out (by rw [wcells_size, HL8.out]; kernel_rfl) (by rw [wcells_size, wcells_size, HL8.out]; rfl) (wcells_one _ _) ?_))
            refine bodyPost_ret (results_cell_row rfl _ _ (w.heap.size + 1) 85 (wcells .u32 l) (0, 0) _ rfl (setRow_heap _ _ _ _ _ _ HZ.out) Try.underlying85 rfl (by rw [wcells_size, HL8.out]; kernel_rfl)) rfl ?_
            exact ⟨by rw [HY.out, ← HLE.out], below_setRow HJ.out.st.below (by omega) _⟩
          · have hlt8 : (j : Int) < 8 := by omega
            obtain ⟨l, hl, hp, hq, hr⟩ := HJ.out.row
            have c1 := cell_w hr j (by omega)
            have c2 := cell_w (HJ.out.st.get p7) j (by rw [HY8.out]; omega)
            have fz := frozen_of_row wr _ j _ _ hr
            have hb1 := lt_of_block hr; have hb2 := lt_of_block (HJ.out.st.get p7)
            rw [hq j (Nat.le_refl _)] at c1
            have hstep := Lib.hid (HJ.out.step hn2.out (show j < 8 by omega))
            obtain ⟨xj, hxj⟩ : ∃ r, nth x j = r := ⟨_, rfl⟩
            obtain ⟨yj, hyj⟩ : ∃ r, nth y j = r := ⟨_, rfl⟩
            rw [hxj, hyj] at hstep; rw [hxj] at c1; rw [hyj] at c2
            have v1 : IntKind.u32.wrap ((xj : Int) + yj) = (((xj + yj) % 4294967296 : Nat) : Int) := by rw [IntKind.wrap_u32]; omega
            obtain ⟨s, hs⟩ : ∃ r, (xj + yj) % 4294967296 = r := ⟨_, rfl⟩
            rw [hs] at v1 hstep
            clear hl hp hq hr hxj hyj hs h8
            go_wp2
            go_still_tail 8, (by kernel_rfl)
            change wpList _ _ _ _ _ wr.drew
            go_wp2
            go_roundw
            case rel => exact ⟨j + 1, by go_num, by omega, hstep.out⟩
            case measure => simp [intOf]; omega
      · have hlt : (k : Int) < 64 := by omega
        have hXl := rnds_len S x HX8.out k; have hXw := rnds_w S x HXW.out k
        have hstep : rnds S x (k + 1) = rnd (nth KL k) (nth S k) (rnds S x k) := rfl
        have hcur := HI.out.cur
        obtain ⟨X, hX⟩ : ∃ X, rnds S x k = X := ⟨_, rfl⟩
        rw [hX] at hXl hXw hcur hstep
        have x0 := cell_w hcur 0 (by omega); have x1 := cell_w hcur 1 (by omega); have x2 := cell_w hcur 2 (by omega); have x3 := cell_w hcur 3 (by omega)
        have x4 := cell_w hcur 4 (by omega); have x5 := cell_w hcur 5 (by omega); have x6 := cell_w hcur 6 (by omega); have x7 := cell_w hcur 7 (by omega)
        have hk1 := cell_w (HI.out.st.get n6) k (by rw [KL_len]; omega)
        have hw1 := cell_w (HI.out.st.get n5) k (by rw [HSL.out]; omega)
        have bA := hXw 0; have bB := hXw 1; have bC := hXw 2; have bD := hXw 3; have bE := hXw 4; have bF := hXw 5; have bG := hXw 6; have bH := hXw 7
        have bk := KL_lt k; have bw := HSW.out k
        unfold rnd tt1 tt2 at hstep
        obtain ⟨a, ea⟩ : ∃ r, nth X 0 = r := ⟨_, rfl⟩; obtain ⟨b2, eb⟩ : ∃ r, nth X 1 = r := ⟨_, rfl⟩; obtain ⟨c2, ec⟩ : ∃ r, nth X 2 = r := ⟨_, rfl⟩; obtain ⟨d, ed⟩ : ∃ r, nth X 3 = r := ⟨_, rfl⟩
        obtain ⟨e, ee⟩ : ∃ r, nth X 4 = r := ⟨_, rfl⟩; obtain ⟨f2, ef⟩ : ∃ r, nth X 5 = r := ⟨_, rfl⟩; obtain ⟨g2, eg⟩ : ∃ r, nth X 6 = r := ⟨_, rfl⟩; obtain ⟨h2, eh⟩ : ∃ r, nth X 7 = r := ⟨_, rfl⟩
        obtain ⟨kk, ek⟩ : ∃ r, nth KL k = r := ⟨_, rfl⟩; obtain ⟨ww, ew⟩ : ∃ r, nth S k = r := ⟨_, rfl⟩
        rw [ea] at x0 bA hstep; rw [eb] at x1 bB hstep; rw [ec] at x2 bC hstep; rw [ed] at x3 bD hstep; rw [ee] at x4 bE hstep; rw [ef] at x5 bF hstep; rw [eg] at x6 bG hstep; rw [eh] at x7 bH hstep
        rw [ek] at hk1 bk hstep; rw [ew] at hw1 bw hstep
        clear ea eb ec ed ee ef eg eh ek ew hXw
        have Te6 : Hid (∀ W, Calls Try.prog 66 #[.int .u32 (e : Int), .int .i64 6] W fun e' w' => e' = .returned (.int .u32 ((rotr e 6 : Nat) : Int)) ∧ w' = W) := fun W => (turn_c e 6 bE (by decide) W).mono fun _ _ h => ⟨h.1, h.2.symm⟩
        have Te11 : Hid (∀ W, Calls Try.prog 66 #[.int .u32 (e : Int), .int .i64 11] W fun e' w' => e' = .returned (.int .u32 ((rotr e 11 : Nat) : Int)) ∧ w' = W) := fun W => (turn_c e 11 bE (by decide) W).mono fun _ _ h => ⟨h.1, h.2.symm⟩
        have Te25 : Hid (∀ W, Calls Try.prog 66 #[.int .u32 (e : Int), .int .i64 25] W fun e' w' => e' = .returned (.int .u32 ((rotr e 25 : Nat) : Int)) ∧ w' = W) := fun W => (turn_c e 25 bE (by decide) W).mono fun _ _ h => ⟨h.1, h.2.symm⟩
        have Ta2 : Hid (∀ W, Calls Try.prog 66 #[.int .u32 (a : Int), .int .i64 2] W fun e' w' => e' = .returned (.int .u32 ((rotr a 2 : Nat) : Int)) ∧ w' = W) := fun W => (turn_c a 2 bA (by decide) W).mono fun _ _ h => ⟨h.1, h.2.symm⟩
        have Ta13 : Hid (∀ W, Calls Try.prog 66 #[.int .u32 (a : Int), .int .i64 13] W fun e' w' => e' = .returned (.int .u32 ((rotr a 13 : Nat) : Int)) ∧ w' = W) := fun W => (turn_c a 13 bA (by decide) W).mono fun _ _ h => ⟨h.1, h.2.symm⟩
        have Ta22 : Hid (∀ W, Calls Try.prog 66 #[.int .u32 (a : Int), .int .i64 22] W fun e' w' => e' = .returned (.int .u32 ((rotr a 22 : Nat) : Int)) ∧ w' = W) := fun W => (turn_c a 22 bA (by decide) W).mono fun _ _ h => ⟨h.1, h.2.symm⟩
        have v1 : bits .xor .u32 ((rotr e 6 : Nat) : Int) ((rotr e 11 : Nat) : Int) = ((rotr e 6 ^^^ rotr e 11 : Nat) : Int) := xor32 _ _ (rotr_lt _ _) (rotr_lt _ _)
        have v2 : bits .xor .u32 ((rotr e 6 ^^^ rotr e 11 : Nat) : Int) ((rotr e 25 : Nat) : Int) = ((bg1 e : Nat) : Int) := xor32 _ _ (xor_lt (rotr_lt _ _) (rotr_lt _ _)) (rotr_lt _ _)
        have v3 : bits .and .u32 (e : Int) (f2 : Int) = ((e &&& f2 : Nat) : Int) := and32 _ _ bE bF
        have v4 : bits .and .u32 ((4294967295 - e : Nat) : Int) (g2 : Int) = (((4294967295 - e) &&& g2 : Nat) : Int) := and32 _ _ (by omega) bG
        have v5 : bits .xor .u32 ((e &&& f2 : Nat) : Int) (((4294967295 - e) &&& g2 : Nat) : Int) = ((chs e f2 g2 : Nat) : Int) := xor32 _ _ (and_lt _ bE) (and_lt _ (by omega))
        have v6 : bits .xor .u32 ((rotr a 2 : Nat) : Int) ((rotr a 13 : Nat) : Int) = ((rotr a 2 ^^^ rotr a 13 : Nat) : Int) := xor32 _ _ (rotr_lt _ _) (rotr_lt _ _)
        have v7 : bits .xor .u32 ((rotr a 2 ^^^ rotr a 13 : Nat) : Int) ((rotr a 22 : Nat) : Int) = ((bg0 a : Nat) : Int) := xor32 _ _ (xor_lt (rotr_lt _ _) (rotr_lt _ _)) (rotr_lt _ _)
        have v8 : bits .and .u32 (a : Int) (b2 : Int) = ((a &&& b2 : Nat) : Int) := and32 _ _ bA bB
        have v9 : bits .and .u32 (a : Int) (c2 : Int) = ((a &&& c2 : Nat) : Int) := and32 _ _ bA bC
        have v10 : bits .and .u32 (b2 : Int) (c2 : Int) = ((b2 &&& c2 : Nat) : Int) := and32 _ _ bB bC
        have v11 : bits .xor .u32 ((a &&& b2 : Nat) : Int) ((a &&& c2 : Nat) : Int) = (((a &&& b2) ^^^ (a &&& c2) : Nat) : Int) := xor32 _ _ (and_lt _ bA) (and_lt _ bA)
        have v12 : bits .xor .u32 (((a &&& b2) ^^^ (a &&& c2) : Nat) : Int) ((b2 &&& c2 : Nat) : Int) = ((maj a b2 c2 : Nat) : Int) := xor32 _ _ (xor_lt (and_lt _ bA) (and_lt _ bA)) (and_lt _ bB)
        have v13 : bits .xor .u32 IntKind.u32.max (e : Int) = ((4294967295 - e : Nat) : Int) := not32 e bE
        have v14 : bits .xor .u32 (if IntKind.u32.signed = true then -1 else IntKind.u32.max) (e : Int) = ((4294967295 - e : Nat) : Int) := not32 e bE
        obtain ⟨r6, hr6⟩ : ∃ r, rotr e 6 = r := ⟨_, rfl⟩; rw [hr6] at Te6 v1 v2
        obtain ⟨r11, hr11⟩ : ∃ r, rotr e 11 = r := ⟨_, rfl⟩; rw [hr11] at Te11 v1 v2
        obtain ⟨r25, hr25⟩ : ∃ r, rotr e 25 = r := ⟨_, rfl⟩; rw [hr25] at Te25 v2
        obtain ⟨r2, hr2⟩ : ∃ r, rotr a 2 = r := ⟨_, rfl⟩; rw [hr2] at Ta2 v6 v7
        obtain ⟨r13, hr13⟩ : ∃ r, rotr a 13 = r := ⟨_, rfl⟩; rw [hr13] at Ta13 v6 v7
        obtain ⟨r22, hr22⟩ : ∃ r, rotr a 22 = r := ⟨_, rfl⟩; rw [hr22] at Ta22 v7
        obtain ⟨p1, hp1⟩ : ∃ r, r6 ^^^ r11 = r := ⟨_, rfl⟩; rw [hp1] at v1 v2
        obtain ⟨B1, hB1⟩ : ∃ r, bg1 e = r := ⟨_, rfl⟩; rw [hB1] at v2 hstep
        obtain ⟨ne, hne⟩ : ∃ r, 4294967295 - e = r := ⟨_, rfl⟩; rw [hne] at v4 v5 v13 v14
        obtain ⟨ef, hef⟩ : ∃ r, e &&& f2 = r := ⟨_, rfl⟩; rw [hef] at v3 v5
        obtain ⟨ng, hng⟩ : ∃ r, ne &&& g2 = r := ⟨_, rfl⟩; rw [hng] at v4 v5
        obtain ⟨C1, hC1⟩ : ∃ r, chs e f2 g2 = r := ⟨_, rfl⟩; rw [hC1] at v5 hstep
        obtain ⟨p2, hp2⟩ : ∃ r, r2 ^^^ r13 = r := ⟨_, rfl⟩; rw [hp2] at v6 v7
        obtain ⟨A1, hA1⟩ : ∃ r, bg0 a = r := ⟨_, rfl⟩; rw [hA1] at v7 hstep
        obtain ⟨ab, hab⟩ : ∃ r, a &&& b2 = r := ⟨_, rfl⟩; rw [hab] at v8 v11 v12
        obtain ⟨ac, hac⟩ : ∃ r, a &&& c2 = r := ⟨_, rfl⟩; rw [hac] at v9 v11 v12
        obtain ⟨bc, hbc⟩ : ∃ r, b2 &&& c2 = r := ⟨_, rfl⟩; rw [hbc] at v10 v12
        obtain ⟨m1', hm1'⟩ : ∃ r, ab ^^^ ac = r := ⟨_, rfl⟩; rw [hm1'] at v11 v12
        obtain ⟨M1, hM1⟩ : ∃ r, maj a b2 c2 = r := ⟨_, rfl⟩; rw [hM1] at v12 hstep
        have ws1 : IntKind.u32.wrap ((h2 : Int) + B1) = (((h2 + B1) % 4294967296 : Nat) : Int) := by rw [IntKind.wrap_u32]; omega
        obtain ⟨s1, hs1⟩ : ∃ r, (h2 + B1) % 4294967296 = r := ⟨_, rfl⟩; rw [hs1] at ws1 hstep
        have ws2 : IntKind.u32.wrap ((s1 : Int) + C1) = (((s1 + C1) % 4294967296 : Nat) : Int) := by rw [IntKind.wrap_u32]; omega
        obtain ⟨s2, hs2⟩ : ∃ r, (s1 + C1) % 4294967296 = r := ⟨_, rfl⟩; rw [hs2] at ws2 hstep
        have ws3 : IntKind.u32.wrap ((s2 : Int) + kk) = (((s2 + kk) % 4294967296 : Nat) : Int) := by rw [IntKind.wrap_u32]; omega
        obtain ⟨s3, hs3⟩ : ∃ r, (s2 + kk) % 4294967296 = r := ⟨_, rfl⟩; rw [hs3] at ws3 hstep
        have wtt : IntKind.u32.wrap ((s3 : Int) + ww) = (((s3 + ww) % 4294967296 : Nat) : Int) := by rw [IntKind.wrap_u32]; omega
        obtain ⟨tt, htt⟩ : ∃ r, (s3 + ww) % 4294967296 = r := ⟨_, rfl⟩; rw [htt] at wtt hstep
        have wuu : IntKind.u32.wrap ((A1 : Int) + M1) = (((A1 + M1) % 4294967296 : Nat) : Int) := by rw [IntKind.wrap_u32]; omega
        obtain ⟨uu, huu⟩ : ∃ r, (A1 + M1) % 4294967296 = r := ⟨_, rfl⟩; rw [huu] at wuu hstep
        have wn0' : IntKind.u32.wrap ((tt : Int) + uu) = (((tt + uu) % 4294967296 : Nat) : Int) := by rw [IntKind.wrap_u32]; omega
        obtain ⟨n0', hn0'⟩ : ∃ r, (tt + uu) % 4294967296 = r := ⟨_, rfl⟩; rw [hn0'] at wn0' hstep
        have wn4' : IntKind.u32.wrap ((d : Int) + tt) = (((d + tt) % 4294967296 : Nat) : Int) := by rw [IntKind.wrap_u32]; omega
        obtain ⟨n4', hn4'⟩ : ∃ r, (d + tt) % 4294967296 = r := ⟨_, rfl⟩; rw [hn4'] at wn4' hstep
        have HST := Lib.hid hstep
        have HST0 : Hid (MixInv w L1 g7 S x k wr) := HI
        have h7b := lt_of_block hcur
        clear hstep hX hXl bA bB bC bD bE bF bG bH bk bw hr6 hr11 hr25 hr2 hr13 hr22 hp1 hB1 hne hef hng hC1 hp2 hA1 hab hac hbc hm1' hM1 hs1 hs2 hs3 htt huu hn0' hn4' hcur
        have g6b := lt_of_block (HI.out.st.get n6); have g5b := lt_of_block (HI.out.st.get n5)
        clear HST0
        go_wp2_with fail
        go_quiet (fail)
        obtain ⟨wa, hwa⟩ : ∃ v, v = wr.drewN nq := ⟨_, rfl⟩
        rw [← hwa]
        replace x0 : wa.cell? ⟨g7, 0, none⟩ = some (.int .u32 (a : Int)) := by rw [hwa]; exact x0
        replace x1 : wa.cell? ⟨g7, 1, none⟩ = some (.int .u32 (b2 : Int)) := by rw [hwa]; exact x1
        replace x2 : wa.cell? ⟨g7, 2, none⟩ = some (.int .u32 (c2 : Int)) := by rw [hwa]; exact x2
        replace x3 : wa.cell? ⟨g7, 3, none⟩ = some (.int .u32 (d : Int)) := by rw [hwa]; exact x3
        replace x4 : wa.cell? ⟨g7, 4, none⟩ = some (.int .u32 (e : Int)) := by rw [hwa]; exact x4
        replace x5 : wa.cell? ⟨g7, 5, none⟩ = some (.int .u32 (f2 : Int)) := by rw [hwa]; exact x5
        replace x6 : wa.cell? ⟨g7, 6, none⟩ = some (.int .u32 (g2 : Int)) := by rw [hwa]; exact x6
        replace x7 : wa.cell? ⟨g7, 7, none⟩ = some (.int .u32 (h2 : Int)) := by rw [hwa]; exact x7
        replace hk1 : wa.cell? ⟨g6, k, none⟩ = some (.int .u32 (kk : Int)) := by rw [hwa]; exact hk1
        replace hw1 : wa.cell? ⟨g5, k, none⟩ = some (.int .u32 (ww : Int)) := by rw [hwa]; exact hw1
        replace HI : Hid (MixInv w L1 g7 S x k wa) := by rw [hwa]; exact ⟨⟨below_drewQ HI.out.st.below nq, HI.out.st.rows⟩, HI.out.cur⟩
        clear hwa nq
        go_wp2_with fail
        go_quiet ((first | (go_at_call 66; exact Calls.quiet_of_same (Te6.out _)) | (go_at_call 66; exact Calls.quiet_of_same (Te11.out _)) | (go_at_call 66; exact Calls.quiet_of_same (Te25.out _))))
        obtain ⟨wb, hwb⟩ : ∃ v, v = wa.drewN nq := ⟨_, rfl⟩
        rw [← hwb]
        replace x0 : wb.cell? ⟨g7, 0, none⟩ = some (.int .u32 (a : Int)) := by rw [hwb]; exact x0
        replace x1 : wb.cell? ⟨g7, 1, none⟩ = some (.int .u32 (b2 : Int)) := by rw [hwb]; exact x1
        replace x2 : wb.cell? ⟨g7, 2, none⟩ = some (.int .u32 (c2 : Int)) := by rw [hwb]; exact x2
        replace x3 : wb.cell? ⟨g7, 3, none⟩ = some (.int .u32 (d : Int)) := by rw [hwb]; exact x3
        replace x4 : wb.cell? ⟨g7, 4, none⟩ = some (.int .u32 (e : Int)) := by rw [hwb]; exact x4
        replace x5 : wb.cell? ⟨g7, 5, none⟩ = some (.int .u32 (f2 : Int)) := by rw [hwb]; exact x5
        replace x6 : wb.cell? ⟨g7, 6, none⟩ = some (.int .u32 (g2 : Int)) := by rw [hwb]; exact x6
        replace x7 : wb.cell? ⟨g7, 7, none⟩ = some (.int .u32 (h2 : Int)) := by rw [hwb]; exact x7
        replace hk1 : wb.cell? ⟨g6, k, none⟩ = some (.int .u32 (kk : Int)) := by rw [hwb]; exact hk1
        replace hw1 : wb.cell? ⟨g5, k, none⟩ = some (.int .u32 (ww : Int)) := by rw [hwb]; exact hw1
        replace HI : Hid (MixInv w L1 g7 S x k wb) := by rw [hwb]; exact ⟨⟨below_drewQ HI.out.st.below nq, HI.out.st.rows⟩, HI.out.cur⟩
        clear hwb nq
        go_wp2_with fail
        go_quiet ((first | (go_at_call 66; exact Calls.quiet_of_same (Ta2.out _)) | (go_at_call 66; exact Calls.quiet_of_same (Ta13.out _)) | (go_at_call 66; exact Calls.quiet_of_same (Ta22.out _))))
        obtain ⟨wc, hwc⟩ : ∃ v, v = wb.drewN nq := ⟨_, rfl⟩
        rw [← hwc]
        replace x0 : wc.cell? ⟨g7, 0, none⟩ = some (.int .u32 (a : Int)) := by rw [hwc]; exact x0
        replace x1 : wc.cell? ⟨g7, 1, none⟩ = some (.int .u32 (b2 : Int)) := by rw [hwc]; exact x1
        replace x2 : wc.cell? ⟨g7, 2, none⟩ = some (.int .u32 (c2 : Int)) := by rw [hwc]; exact x2
        replace x3 : wc.cell? ⟨g7, 3, none⟩ = some (.int .u32 (d : Int)) := by rw [hwc]; exact x3
        replace x4 : wc.cell? ⟨g7, 4, none⟩ = some (.int .u32 (e : Int)) := by rw [hwc]; exact x4
        replace x5 : wc.cell? ⟨g7, 5, none⟩ = some (.int .u32 (f2 : Int)) := by rw [hwc]; exact x5
        replace x6 : wc.cell? ⟨g7, 6, none⟩ = some (.int .u32 (g2 : Int)) := by rw [hwc]; exact x6
        replace x7 : wc.cell? ⟨g7, 7, none⟩ = some (.int .u32 (h2 : Int)) := by rw [hwc]; exact x7
        replace hk1 : wc.cell? ⟨g6, k, none⟩ = some (.int .u32 (kk : Int)) := by rw [hwc]; exact hk1
        replace hw1 : wc.cell? ⟨g5, k, none⟩ = some (.int .u32 (ww : Int)) := by rw [hwc]; exact hw1
        replace HI : Hid (MixInv w L1 g7 S x k wc) := by rw [hwc]; exact ⟨⟨below_drewQ HI.out.st.below nq, HI.out.st.rows⟩, HI.out.cur⟩
        clear hwc nq
        have fz0 := frozen_of_row wc g7 0 _ _ HI.out.cur
        have fz1 := frozen_of_row wc g7 1 _ _ HI.out.cur
        have fz2 := frozen_of_row wc g7 2 _ _ HI.out.cur
        have fz3 := frozen_of_row wc g7 3 _ _ HI.out.cur
        have fz4 := frozen_of_row wc g7 4 _ _ HI.out.cur
        have fz5 := frozen_of_row wc g7 5 _ _ HI.out.cur
        have fz6 := frozen_of_row wc g7 6 _ _ HI.out.cur
        have fz7 := frozen_of_row wc g7 7 _ _ HI.out.cur
        go_wp2_with fail
        go_roundw
        case rel => exact ⟨k + 1, by go_num, by omega, HI.out.step hn7.out (by have := HI.out.st.below.size; omega) (rnds_len S x HX8.out k) HST.out⟩
        case measure => simp [intOf]; omega
end Go.Proofs.Ytbaifchbpnmkpaa
namespace Go.Proofs.Ytbaifchbpnmkpaa
open Go.RowKit
theorem u8_row : (Try.prog.info? 5).map (fun i => (i.zero, i.size, i.bytes)) = some (some (.int .u8 0), 1, 1) := by kernel_rfl
/-- Bytes as cells. -/
def bcells (l : List Nat) : List Value := l.map fun n => Value.int .u8 ((n : Nat) : Int)
theorem bcells_len (l : List Nat) : (bcells l).length = l.length := by simp [bcells]
theorem bcells_get (l : List Nat) (i : Nat) (h : i < l.length) : (bcells l)[i]? = some (.int .u8 ((nth l i : Nat) : Int)) := by
  simp only [bcells, List.getElem?_map, nth_get l i h, Option.map_some]
theorem bcells_one (l : List Nat) : ∀ u ∈ bcells l, u.oneCell' = true := by
  intro u hu; simp only [bcells, List.mem_map] at hu; obtain ⟨_, -, rfl⟩ := hu; rfl
/-- What a step leaves as it was: all old blocks but those of F. -/
structure Keeps (F : Nat → Prop) (W W' : World) : Prop where
  os : W'.os = W.os
  tape : W'.tape = W.tape
  output : W'.output = W.output
  size : W.heap.size ≤ W'.heap.size
  block : ∀ b, b < W.heap.size → ¬ F b → W'.heap[b]? = W.heap[b]?
theorem Keeps.refl (F : Nat → Prop) (W : World) : Keeps F W W := ⟨rfl, rfl, rfl, Nat.le_refl _, fun _ _ _ => rfl⟩
theorem Keeps.trans {F G : Nat → Prop} {A B C : World} (h : Keeps F A B) (k : Keeps G B C) (hG : ∀ b, G b → F b ∨ A.heap.size ≤ b) : Keeps F A C :=
  ⟨k.os.trans h.os, k.tape.trans h.tape, k.output.trans h.output, Nat.le_trans h.size k.size, fun b hb hf => (k.block b (Nat.lt_of_lt_of_le hb h.size) (fun hg => by rcases hG b hg with h1 | h1; exact hf h1; omega)).trans (h.block b hb hf)⟩
theorem Keeps.of_below {F : Nat → Prop} {W W' : World} (h : Below W.heap.size W W') : Keeps F W W' := ⟨h.os, h.tape, h.output, h.size, fun b hb _ => h.block b hb⟩
theorem Keeps.below {F : Nat → Prop} {W W' : World} (h : Keeps F W W') (hF : ∀ b, F b → W.heap.size ≤ b) : Below W.heap.size W W' := ⟨h.os, h.tape, h.output, h.size, fun b hb => h.block b hb (fun hf => by have := hF b hf; omega)⟩
theorem Keeps.drew {F : Nat → Prop} {W W' : World} (h : Keeps F W W') : Keeps F W W'.drew := ⟨h.os, h.tape, h.output, h.size, h.block⟩
theorem Keeps.setCell {F : Nat → Prop} {A W : World} (h : Keeps F A W) {g o : Nat} (v : Value) (hF : F g ∨ A.heap.size ≤ g) : Keeps F A (W.setCell ⟨g, o, none⟩ v) :=
  h.trans (G := fun b => b = g) (let k := Below.setCell (Below.refl 0 W) (p := ⟨g, o, none⟩) (Nat.zero_le _) v; ⟨k.os, k.tape, k.output, k.size, fun b _ hb => heap_setCell_other W _ _ _ hb⟩) (fun b hb => by subst hb; exact hF)
theorem Keeps.setRow {F : Nat → Prop} {A W : World} (h : Keeps F A W) {g : Nat} (c : Array Value) (hF : F g ∨ A.heap.size ≤ g) : Keeps F A (W.setRow g c) :=
  h.trans (G := fun b => b = g) ⟨rfl, rfl, rfl, by simp [World.setRow], fun b _ hb => setRow_other W g b c hb⟩ (fun b hb => by subst hb; exact hF)
theorem Keeps.alloc {F : Nat → Prop} {A W : World} (h : Keeps F A W) (o : Obj) : Keeps F A (W.alloc o) := h.trans (Keeps.of_below (F := F) ((Below.refl _ _).alloc (Nat.le_refl _) o)) (fun _ hb => Or.inl hb)
/-- A slice of bytes that may be appended to: where it lies. -/
def RestV (W : World) (v : Value) (bs : List Nat) : Prop :=
  (v = .slice none 0 0 ∧ bs = []) ∨ ∃ g off cap cur, v = .slice (some ⟨g, off, none⟩) bs.length cap ∧ W.heap[g]? = some (.cells cur 5 (0, 0)) ∧ bs.length ≤ cap ∧ off + cap ≤ cur.size ∧ (∀ i, i < bs.length → cur[off + i]? = some (.int .u8 ((nth bs i : Nat) : Int)))
theorem RestV.keep {W W' : World} {v : Value} {bs : List Nat} {F : Nat → Prop} (h : RestV W v bs) (k : Keeps F W W') (hF : ∀ g, v.ownBlock = some g → ¬ F g) : RestV W' v bs := by
  rcases h with h | ⟨g, off, cap, cur, rfl, hg, h1, h2, h3⟩
  · exact Or.inl h
  · exact Or.inr ⟨g, off, cap, cur, rfl, (k.block g (lt_of_block hg) (hF g rfl)).trans hg, h1, h2, h3⟩
theorem RestV.shape {W : World} {v : Value} {bs : List Nat} (h : RestV W v bs) : ∃ a c, v = .slice a bs.length c := by
  rcases h with ⟨rfl, rfl⟩ | ⟨g, off, cap, cur, rfl, -⟩
  · exact ⟨_, _, rfl⟩
  · exact ⟨_, _, rfl⟩
/-- A source of bytes. -/
abbrev SrcB (W : World) (x : Value) (ys : List Nat) : Prop := Src Try.prog 1 22 x ys.length (bcells ys) W
theorem srcB_slice (W : World) (b o c : Nat) (ys : List Nat) (h : ∀ i, i < ys.length → W.cell? ⟨b, o + i, none⟩ = some (.int .u8 ((nth ys i : Nat) : Int))) : SrcB W (.slice (some ⟨b, o, none⟩) ys.length c) ys :=
  Src.ofSlice (w := W) Try.underlying22 ⟨b, o, none⟩ _ c _ (by rw [bcells_len, Nat.mul_one]) (fun j u hj => by
    have hl : j < ys.length := by have := (List.getElem?_eq_some_iff.1 hj).1; rwa [bcells_len] at this
    rw [bcells_get ys j hl] at hj
    have hadd : (⟨b, o, none⟩ : Addr).add j = ⟨b, o + j, none⟩ := by unfold Addr.add; split <;> simp_all
    rw [hadd, h j hl]; exact hj) (bcells_one ys)
theorem srcB_nil (W : World) (c : Nat) : SrcB W (.slice none 0 c) [] := Src.ofNil W Try.underlying22 c
theorem RestV.src {W : World} {v : Value} {bs : List Nat} (h : RestV W v bs) : SrcB W v bs := by
  rcases h with ⟨rfl, rfl⟩ | ⟨g, off, cap, cur, rfl, hg, h1, h2, h3⟩
  · exact srcB_nil W 0
  · exact srcB_slice W g off cap bs (fun i hi => (cell_of_row _ _ _ _ _ _ hg).trans (h3 i hi))
theorem run_app_room (ty : TypeId) (i : TypeInfo) (hi : Try.prog.info? 5 = some i) (h1 : i.size = 1) (W : World) (g off n cap : Nat) (cur : Array Value) (hg : W.heap[g]? = some (.cells cur 5 (0, 0))) (x : Value) (m : Nat) (news : List Value) (hs : Src Try.prog 1 22 x m news W)
    (hroom : n + m ≤ cap) (hfit : off + cap ≤ cur.size) :
    (Builtin.append_ #[22, 22] ty #[.slice (some ⟨g, off, none⟩) n cap, x]).run Try.prog W = .ok (.slice (some ⟨g, off, none⟩) (n + m) cap) (W.setRow g (cur.toList.take (off + n) ++ news ++ cur.toList.drop (off + n + news.length)).toArray) := by
  have hl := hs.newsLen
  have hst := run_storeCells_at Try.prog g (off + n) 5 news 0 cur W hg (by omega) hs.one
  simp only [Nat.add_zero] at hst
  rcases hs.kind with ⟨e', hk⟩ | hk <;> simp [Builtin.append_, run_underlying Try.underlying22, sizeOf, typeInfo, hi, h1, hs.len, hroom, hs.cells, Addr.add_lit, hst]
theorem run_append_nothing' (ty : TypeId) (i : TypeInfo) (hi : Try.prog.info? 5 = some i) (h1 : i.size = 1) (W : World) (base : Option Addr) (n cap : Nat) (hle : n ≤ cap) (x : Value) (hs : Src Try.prog 1 22 x 0 [] W) :
    (Builtin.append_ #[22, 22] ty #[.slice base n cap, x]).run Try.prog W = .ok (.slice base n cap) W := by
  rcases hs.kind with ⟨e', hk⟩ | hk <;> cases base <;> simp [Builtin.append_, run_underlying Try.underlying22, sizeOf, typeInfo, hi, h1, hs.len, hle, hs.cells, storeCells]
/-- append(s, x...). -/
theorem run_app (ty : TypeId) (W : World) (v x : Value) (bs ys : List Nat) (hv : RestV W v bs) (hs : SrcB W x ys) (hn : bs.length + ys.length ≤ 70368744177664) :
    ∃ v' W', (Builtin.append_ #[22, 22] ty #[v, x]).run Try.prog W = .ok v' W' ∧ RestV W' v' (bs ++ ys) ∧ Keeps (fun b => v.ownBlock = some b) W W' ∧ (∀ b, v'.ownBlock = some b → v.ownBlock = some b ∨ b = W.heap.size) := by
  obtain ⟨i, hi, hz, h1, h2⟩ := info_parts u8_row
  have hsm : ∀ k, k = bs.length + ys.length → ((k : Nat) : Int) ≤ 9223372036854775807 := fun k hk => by omega
  -- a new row
  have grow : ∀ (base : Option Addr) (cap : Nat), v = .slice base bs.length cap → cap < bs.length + ys.length → (Builtin.firstCells i.size bs.length (.slice base bs.length cap)).run Try.prog W.drew = .ok (bcells bs).toArray W.drew →
      ∃ v' W', (Builtin.append_ #[22, 22] ty #[v, x]).run Try.prog W = .ok v' W' ∧ RestV W' v' (bs ++ ys) ∧ Keeps (fun b => v.ownBlock = some b) W W' ∧ (∀ b, v'.ownBlock = some b → v.ownBlock = some b ∨ b = W.heap.size) := by
    rintro base cap rfl hlt hold
    have hfit : Builtin.nextslicecap (bs.length + ys.length) cap * i.bytes ≤ 281474976710656 := growslice_fits (by omega) (by rw [h2]; omega)
    have hr := run_append_grow_src (P := Try.prog) (w := W) 22 22 ty 5 i (.int .u8 0) Try.underlying22 hi hz base bs.length cap (bcells bs) hold x ys.length (bcells ys) (by rw [h1]; exact hs) hlt (hsm _ rfl) hfit
    have hge := grownCap_ge W (bs.length + ys.length) cap 5
    generalize grownCap W (bs.length + ys.length) cap 5 = gc at hr hge
    refine ⟨_, _, hr, Or.inr ⟨W.heap.size, 0, gc, _, by rw [List.length_append], heap_alloc_new W.drew _, by rw [List.length_append]; exact hge, ?_, ?_⟩, ?_, ?_⟩
    · simp only [Array.size_append, List.size_toArray, List.length_append, bcells_len, size_zeroCells]
      simp [Value.cells]; omega
    · intro k hk
      rw [Nat.zero_add, Array.getElem?_append_left (by simpa [bcells_len] using hk), List.getElem?_toArray]
      rw [show bcells bs ++ bcells ys = bcells (bs ++ ys) by simp [bcells]]
      exact bcells_get _ k hk
    · exact Keeps.of_below ((Below.refl _ _).drew.alloc (Nat.le_refl _) _)
    · intro b hb; simp [Value.ownBlock] at hb; exact Or.inr hb.symm
  rcases hv with ⟨rfl, rfl⟩ | ⟨g, off, cap, cur, rfl, hg, hc1, hc2, hc3⟩
  · by_cases hm : ys.length = 0
    · obtain rfl : ys = [] := List.eq_nil_of_length_eq_zero hm
      have hr := run_append_nothing' ty i hi h1 W none 0 0 (Nat.le_refl _) x hs
      exact ⟨_, _, hr, Or.inl ⟨rfl, rfl⟩, Keeps.refl _ _, fun b hb => Or.inl hb⟩
    · exact grow none 0 rfl (by simp; omega) (run_firstCells_none (P := Try.prog) W.drew i.size 0 0 0)
  · by_cases hroom : bs.length + ys.length ≤ cap
    · have hr := run_app_room ty i hi h1 W g off bs.length cap cur hg x ys.length (bcells ys) hs hroom hc2
      refine ⟨_, _, hr, Or.inr ⟨g, off, cap, _, by rw [List.length_append], setRow_heap W g cur _ _ _ hg, by rw [List.length_append]; exact hroom, ?_, ?_⟩, ?_, ?_⟩
      · simp only [List.size_toArray, List.length_append, List.length_take, List.length_drop, Array.length_toList, bcells_len]; omega
      · intro k hk
        rw [List.getElem?_toArray]
        have htl : (List.take (off + bs.length) cur.toList).length = off + bs.length := by simp; omega
        by_cases hkb : k < bs.length
        · rw [List.append_assoc, List.getElem?_append_left (by rw [htl]; omega), List.getElem?_take, if_pos (by omega), nth_append_left _ _ _ hkb]
          have := hc3 k hkb
          simpa using this
        · rw [List.length_append] at hk
          rw [List.append_assoc, List.getElem?_append_right (by rw [htl]; omega), htl, List.getElem?_append_left (by rw [bcells_len]; omega), show off + k - (off + bs.length) = k - bs.length by omega, bcells_get ys _ (by omega), nth_append_right _ _ _ (by omega)]
      · exact (Keeps.refl _ W).setRow _ (Or.inl rfl)
      · intro b hb; exact Or.inl hb
    · refine grow (some ⟨g, off, none⟩) cap rfl (by omega) ?_
      rw [h1]
      exact run_firstCells_some (P := Try.prog) W.drew 1 bs.length ⟨g, off, none⟩ bs.length cap (bcells bs) (by rw [bcells_len, Nat.mul_one]) (fun j u hj => by
        have hl : j < bs.length := by have := (List.getElem?_eq_some_iff.1 hj).1; rwa [bcells_len] at this
        rw [bcells_get bs j hl] at hj
        have hadd : (⟨g, off, none⟩ : Addr).add j = ⟨g, off + j, none⟩ := by unfold Addr.add; split <;> simp_all
        rw [hadd, ← hj]
        exact (cell_of_row W g (off + j) cur _ _ hg).trans (hc3 j hl))
/-- The operation, where it stands in a list. -/
theorem wpList_app {ops : Array Oper} {rest : List Oper} {o : Oper} {a : Act} {Q : Exit → Act → World → Prop} {W : World} (hgd : o.guard = none) (s x : Operand)
    (ho : o.op = .call { callee := .builtin .append, args := #[s, x], argTypes := #[22, 22] }) (v xv : Value) (hsv : a.eval s = v) (hxv : a.eval x = xv) (bs ys : List Nat) (hv : RestV W v bs) (hs : SrcB W xv ys) (hn : bs.length + ys.length ≤ 70368744177664)
    (h : ∀ v' W', RestV W' v' (bs ++ ys) → Keeps (fun b => v.ownBlock = some b) W W' → (∀ b, v'.ownBlock = some b → v.ownBlock = some b ∨ b = W.heap.size) → wpList Try.prog ops Q rest (a.put o.dst v') W') : wpList Try.prog ops Q (o :: rest) a W := by
  refine wpList_plain hgd fun K hK => ?_
  obtain ⟨v', W', hr, h2, h3, h4⟩ := run_app o.type W v xv bs ys hv hs hn
  unfold Oper.wp execOp
  simp only [ho, resolve, invoke, builtin, Sem.run_bind, Sem.run_pure, Result.andThen_ok, List.map_toArray, List.map_cons, List.map_nil, hsv, hxv, hr]
  exact hK _ _ (h v' W' h2 h3 h4)
end Go.Proofs.Ytbaifchbpnmkpaa
namespace Go.Proofs.Ytbaifchbpnmkpaa
open Go.RowKit
/-- A slice of words that the call owns, from block B on. -/
structure OwnW (W : World) (B g n c : Nat) (ws : List Nat) : Prop where
  own : W.ownsRow B 71 1 (bsv g 0 n c) n (ws.map fun d => Value.int .u64 ((d : Nat) : Int))
  len : ws.length = n
theorem OwnW.base {W : World} {B g n c : Nat} {ws : List Nat} (h : OwnW W B g n c ws) : B ≤ g ∧ g < W.heap.size := h.own.lt g rfl
theorem OwnW.cell {W : World} {B g n c : Nat} {ws : List Nat} (h : OwnW W B g n c ws) (i : Nat) (hi : i < n) : W.cell? ⟨g, i, none⟩ = some (.int .u64 ((nth ws i : Nat) : Int)) := by
  have hl := h.len
  have e := h.own.cells (g := g) rfl i (.int .u64 ((nth ws i : Nat) : Int)) (by
    rw [List.getElem?_map, nth_get ws i (by omega)]; rfl)
  have hadd : (⟨g, 0, none⟩ : Addr).add i = ⟨g, 0 + i, none⟩ := by unfold Addr.add; split <;> simp_all
  rw [hadd, Nat.zero_add] at e; exact e
theorem OwnW.keep {W W' : World} {B g n c : Nat} {ws : List Nat} (h : OwnW W B g n c ws) (hb : Below W.heap.size W W') : OwnW W' B g n c ws :=
  ⟨h.own.kept (row := none) ⟨hb.os, hb.tape, hb.output, hb.size, fun k hk _ => hb.block k hk⟩ (.inr (by simp [Value.ownBlock])), h.len⟩
theorem OwnW.start (W : World) (B : Nat) (hB : B ≤ W.heap.size) : OwnW (W.alloc (.cells #[] 71)) B W.heap.size 0 0 [] :=
  ⟨World.ownsRow_made W #[] 0 hB (by decide) rfl, rfl⟩
end Go.Proofs.Ytbaifchbpnmkpaa
namespace Go.Proofs.Ytbaifchbpnmkpaa
open Go.RowKit
/-- What loop 4 holds behind k rounds. -/
structure RndInv (w : World) (gx : Nat) (S x : List Nat) (k : Nat) (wr : World) : Prop where
  keeps : Keeps (fun b => b = gx) w wr
  cur : wr.heap[gx]? = some (.cells (wcells .u64 (rnds S x k)) 126 (0, 0))
theorem RndInv.drewN {w wr : World} {gx : Nat} {S x : List Nat} {k : Nat} (h : RndInv w gx S x k wr) (q : Nat) : RndInv w gx S x k (wr.drewN q) :=
  ⟨h.keeps.trans (Keeps.of_below (F := fun _ => False) (below_drewQ (Below.refl _ _) q)) (fun _ hb => hb.elim), h.cur⟩
theorem set_rnd (X : List Nat) (h : X.length = 8) (p1 p2 p3 p4 p5 p6 p7 n4 n0 : Nat) : ((((((((X.set 7 p7).set 6 p6).set 5 p5).set 4 p4).set 3 p3).set 2 p2).set 1 p1).set 4 n4).set 0 n0 = [n0, p1, p2, p3, n4, p5, p6, p7] := by
  match X, h with
  | [_, _, _, _, _, _, _, _], _ => rfl
theorem RndInv.step {w wr : World} {gx : Nat} {S x : List Nat} {k : Nat} (h : RndInv w gx S x k wr) (hl : (rnds S x k).length = 8) {p1 p2 p3 p4 p5 p6 p7 n4 n0 : Nat} (hs : rnds S x (k + 1) = [n0, p1, p2, p3, n4, p5, p6, p7]) :
    RndInv w gx S x (k + 1) (((((((((wr.setCell ⟨gx, 7, none⟩ (.int .u64 (p7 : Int))).setCell ⟨gx, 6, none⟩ (.int .u64 (p6 : Int))).setCell ⟨gx, 5, none⟩ (.int .u64 (p5 : Int))).setCell ⟨gx, 4, none⟩ (.int .u64 (p4 : Int))).setCell ⟨gx, 3, none⟩ (.int .u64 (p3 : Int))).setCell ⟨gx, 2, none⟩ (.int .u64 (p2 : Int))).setCell ⟨gx, 1, none⟩ (.int .u64 (p1 : Int))).setCell ⟨gx, 4, none⟩ (.int .u64 (n4 : Int))).setCell ⟨gx, 0, none⟩ (.int .u64 (n0 : Int))) := by
  refine ⟨((((((((h.keeps.setCell _ (Or.inl rfl)).setCell _ (Or.inl rfl)).setCell _ (Or.inl rfl)).setCell _ (Or.inl rfl)).setCell _ (Or.inl rfl)).setCell _ (Or.inl rfl)).setCell _ (Or.inl rfl)).setCell _ (Or.inl rfl)).setCell _ (Or.inl rfl), ?_⟩
  rw [hs, ← set_rnd _ hl p1 p2 p3 p4 p5 p6 p7 n4 n0]
  exact set_w (set_w (set_w (set_w (set_w (set_w (set_w (set_w (set_w h.cur 7 p7) 6 p6) 5 p5) 4 p4) 3 p3) 2 p2) 1 p1) 4 n4) 0 n0
end Go.Proofs.Ytbaifchbpnmkpaa
namespace Go.Proofs.Ytbaifchbpnmkpaa
open Go.RowKit
/-- What loop 6 holds behind k rounds. -/
structure AddV (w : World) (gv : Nat) (x y : List Nat) (k : Nat) (wr : World) : Prop where
  keeps : Keeps (fun b => b = gv) w wr
  row : ∃ l : List Nat, l.length = 8 ∧ (∀ j, j < k → nth l j = (nth x j + nth y j) % 4294967296) ∧ (∀ j, k ≤ j → nth l j = nth x j) ∧ wr.heap[gv]? = some (.cells (wcells .u64 l) 126 (0, 0))
theorem AddV.step {w wr : World} {gv : Nat} {x y : List Nat} {k : Nat} (h : AddV w gv x y k wr) (hk : k < 8) :
    AddV w gv x y (k + 1) (wr.setCell ⟨gv, k, none⟩ (.int .u64 (((nth x k + nth y k) % 4294967296 : Nat) : Int))).drew := by
  obtain ⟨l, hl, hp, hq, hr⟩ := h.row
  refine ⟨(h.keeps.setCell _ (Or.inl rfl)).drew, l.set k ((nth x k + nth y k) % 4294967296), by simpa using hl, fun j hj => ?_, fun j hj => ?_, set_w hr k _⟩
  · rw [nth_set _ _ _ _ (by omega)]
    split
    · next e => rw [e]
    · exact hp j (by omega)
  · rw [nth_set _ _ _ _ (by omega), if_neg (by omega)]; exact hq j (by omega)
theorem AddV.done {w wr : World} {gv : Nat} {x y : List Nat} (h : AddV w gv x y 8 wr) : wr.heap[gv]? = some (.cells (wcells .u64 (addL x y)) 126 (0, 0)) := by
  obtain ⟨l, hl, hp, -, hr⟩ := h.row
  have e : l = addL x y := nth_ext _ _ (by rw [hl, addL_len]) (fun j hj => by rw [hp j (by omega)]; unfold addL; rw [nth_range _ _ _ (by omega)])
  rw [e] at hr; exact hr
/-- What loop 7 holds: the bytes of i words. -/
structure OutV (w : World) (gO : Nat) (fs : List Nat) (i : Nat) (wr : World) : Prop where
  keeps : Keeps (fun b => b = gO) w wr
  row : ∃ l : List Nat, l.length = 32 ∧ (∀ j, j < 4 * i → nth l j = nth (outB fs) j) ∧ wr.heap[gO]? = some (.cells (wcells .u8 l) 26 (0, 0))
theorem OutV.step {w wr : World} {gO : Nat} {fs : List Nat} {i : Nat} (h : OutV w gO fs i wr) (hi : i < 8) (y0 y1 y2 y3 : Nat) (h0 : nth (outB fs) (4 * i + 0) = y0) (h1 : nth (outB fs) (4 * i + 1) = y1) (h2 : nth (outB fs) (4 * i + 2) = y2) (h3 : nth (outB fs) (4 * i + 3) = y3) :
    OutV w gO fs (i + 1) ((((wr.setCell ⟨gO, 4 * i + 3, none⟩ (.int .u8 (y3 : Int))).setCell ⟨gO, 4 * i + 2, none⟩ (.int .u8 (y2 : Int))).setCell ⟨gO, 4 * i + 1, none⟩ (.int .u8 (y1 : Int))).setCell ⟨gO, 4 * i + 0, none⟩ (.int .u8 (y0 : Int))) := by
  obtain ⟨l, hl, hp, hr⟩ := h.row
  refine ⟨(((h.keeps.setCell _ (Or.inl rfl)).setCell _ (Or.inl rfl)).setCell _ (Or.inl rfl)).setCell _ (Or.inl rfl), (((l.set (4 * i + 3) y3).set (4 * i + 2) y2).set (4 * i + 1) y1).set (4 * i + 0) y0, by simpa using hl, fun j hj => ?_, set_w (set_w (set_w (set_w hr _ _) _ _) _ _) _ _⟩
  rw [nth_set _ _ _ _ (by simp; omega), nth_set _ _ _ _ (by simp; omega), nth_set _ _ _ _ (by simp; omega), nth_set _ _ _ _ (by omega)]
  split
  · next e => rw [← e, h0]
  · split
    · next e => rw [← e, h1]
    · split
      · next e => rw [← e, h2]
      · split
        · next e => rw [← e, h3]
        · exact hp j (by omega)
theorem OutV.done {w wr : World} {gO : Nat} {fs : List Nat} (h : OutV w gO fs 8 wr) : wr.heap[gO]? = some (.cells (wcells .u8 (outB fs)) 26 (0, 0)) := by
  obtain ⟨l, hl, hp, hr⟩ := h.row
  have e : l = outB fs := nth_ext _ _ (by rw [hl, outB_len]) (fun j hj => hp j (by omega))
  rw [e] at hr; exact hr
end Go.Proofs.Ytbaifchbpnmkpaa
namespace Go.Proofs.Ytbaifchbpnmkpaa
open Go.RowKit
/-- What loop 1 holds behind k pieces. -/
structure BlkV (w : World) (gv : Nat) (pd : List Nat) (k : Nat) (wr : World) : Prop where
  keeps : Keeps (fun b => b = gv) w wr
  row : wr.heap[gv]? = some (.cells (wcells .u64 (runB HL pd k)) 126 (0, 0))
end Go.Proofs.Ytbaifchbpnmkpaa
