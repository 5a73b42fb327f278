/-
  Slices of bytes among what is known of a world: pieces that are read, slices of one's own that are appended to.
-/
import Derived.Test.YtbjcigokimieoaaSx
import Derived.Test.YtbjcigokimieoaaId
namespace Go.Proofs.Ytbjcigokimieoaa
open Go.RowKit

theorem cell_same {W W' : World} {b o : Nat} (h : W'.heap[b]? = W.heap[b]?) : W'.cell? ⟨b, o, none⟩ = W.cell? ⟨b, o, none⟩ := World.cell?_of_block (a := ⟨b, o, none⟩) h
theorem PieceS.stays {W W' : World} {S : Nat → Prop} {v : Value} {bs : List Nat} (h : PieceS W S v bs) (hb : ∀ b, S b → b < W.heap.size) (hk : ∀ b, S b → b < W.heap.size → W'.heap[b]? = W.heap[b]?) : PieceS W' S v bs := by
  rcases h with h | ⟨b, o, c, h1, rfl, h⟩
  · exact Or.inl h
  · exact Or.inr ⟨b, o, c, h1, rfl, fun i hi => (cell_same (hk b h1 (hb b h1))).trans (h i hi)⟩
/-- A piece below B. -/
def xpc (B : Nat) (v : Value) (bs : List Nat) : Xt := ⟨false, fun b => b < B, fun W => B ≤ W.heap.size ∧ PieceV W B v bs, fun _ _ hk hs h => ⟨Nat.le_trans h.1 hs, PieceS.stays h.2 (fun _ hb => Nat.lt_of_lt_of_le hb h.1) hk⟩⟩
/-- A piece in blocks of S. -/
def xps (S : Nat → Prop) (v : Value) (bs : List Nat) : Xt := ⟨false, S, fun W => (∀ b, S b → b < W.heap.size) ∧ PieceS W S v bs, fun _ _ hk hs h => ⟨fun b hb => Nat.lt_of_lt_of_le (h.1 b hb) hs, PieceS.stays h.2 h.1 hk⟩⟩
theorem PcsS.stays {W W' : World} {S : Nat → Prop} {v : Value} {pss : List (List Nat)} (h : PcsS W S v pss) (hk : ∀ b, S b → b < W.heap.size → W'.heap[b]? = W.heap[b]?) (hs : W.heap.size ≤ W'.heap.size) : PcsS W' S v pss := by
  refine ⟨fun b hb => Nat.lt_of_lt_of_le (h.le b hb) hs, ?_⟩
  have hle := h.le
  rcases h.shape with h1 | ⟨lb, lo, c, hb, rfl, h2⟩
  · exact Or.inl h1
  · refine Or.inr ⟨lb, lo, c, hb, rfl, fun i ys hi => ?_⟩
    obtain ⟨xv, h3, h4⟩ := h2 i ys hi
    exact ⟨xv, (cell_same (hk lb hb (hle lb hb))).trans h3, PieceS.stays h4 hle hk⟩
/-- Pieces in a list, in blocks of S. -/
def xpcs (S : Nat → Prop) (v : Value) (pss : List (List Nat)) : Xt := ⟨false, S, fun W => PcsS W S v pss, fun _ _ hk hs h => PcsS.stays h hk hs⟩
theorem PieceS.mono {W : World} {S S' : Nat → Prop} {v : Value} {bs : List Nat} (h : PieceS W S v bs) (hS : ∀ b, S b → S' b) : PieceS W S' v bs := h.imp id (fun ⟨b, o, c, h1, h2, h3⟩ => ⟨b, o, c, hS b h1, h2, h3⟩)
theorem PcsS.mono {W : World} {S S' : Nat → Prop} {v : Value} {pss : List (List Nat)} (h : PcsS W S v pss) (hS : ∀ b, S b → S' b) (hle : ∀ b, S' b → b < W.heap.size) : PcsS W S' v pss :=
  ⟨hle, h.shape.imp id (fun ⟨lb, lo, c, h1, h2, h3⟩ => ⟨lb, lo, c, hS _ h1, h2, fun i ys hi => by
    obtain ⟨xv, h4, h5⟩ := h3 i ys hi
    exact ⟨xv, h4, h5.mono hS⟩⟩)⟩
theorem Sx.pc {w W : World} {L : List (Nat × Obj)} {X : List Xt} (h : Sx w L X W) (i : Nat) {B : Nat} {v : Value} {bs : List Nat} (hi : X[i]? = some (xpc B v bs)) : PieceV W W.heap.size v bs :=
  have k : B ≤ W.heap.size ∧ PieceV W B v bs := h.x i hi
  PieceV.mono k.2 k.1
theorem Sx.ps {w W : World} {L : List (Nat × Obj)} {X : List Xt} (h : Sx w L X W) (i : Nat) {S : Nat → Prop} {v : Value} {bs : List Nat} (hi : X[i]? = some (xps S v bs)) : PieceV W W.heap.size v bs :=
  have k : (∀ b, S b → b < W.heap.size) ∧ PieceS W S v bs := h.x i hi
  PieceS.mono k.2 k.1
theorem Sx.pcs {w W : World} {L : List (Nat × Obj)} {X : List Xt} (h : Sx w L X W) (i : Nat) {S : Nat → Prop} {v : Value} {pss : List (List Nat)} (hi : X[i]? = some (xpcs S v pss)) : Pcs W W.heap.size v pss :=
  have k : PcsS W S v pss := h.x i hi
  PcsS.mono k k.le (fun _ h => h)
theorem RestV.stays {W W' : World} {v : Value} {bs : List Nat} (h : RestV W v bs) (hk : ∀ b, v.ownBlock = some b → b < W.heap.size → W'.heap[b]? = W.heap[b]?) : RestV W' v bs := by
  rcases h with h | ⟨g, off, cap, cur, rfl, hg, h1, h2, h3⟩
  · exact Or.inl h
  · exact Or.inr ⟨g, off, cap, cur, rfl, (hk g rfl (lt_of_block hg)).trans hg, h1, h2, h3⟩
theorem RestV.lt {W : World} {v : Value} {bs : List Nat} (h : RestV W v bs) : ∀ b, v.ownBlock = some b → b < W.heap.size := fun b hb => by
  rcases h with ⟨rfl, -⟩ | ⟨g, off, cap, cur, rfl, hg, -⟩
  · cases hb
  · simp [Value.ownBlock] at hb; subst hb; exact lt_of_block hg
/-- A slice of bytes of one's own. -/
def xown (w : World) (v : Value) (bs : List Nat) : Xt := ⟨true, fun b => v.ownBlock = some b, fun W => RestV W v bs ∧ ∀ b, v.ownBlock = some b → w.heap.size ≤ b, fun _ _ hk _ h => ⟨RestV.stays h.1 hk, h.2⟩⟩
theorem Sx.own {w W : World} {L : List (Nat × Obj)} {X : List Xt} (h : Sx w L X W) (i : Nat) {v : Value} {bs : List Nat} (hi : X[i]? = some (xown w v bs)) : RestV W v bs := (show RestV W v bs ∧ _ from h.x i hi).1
theorem Sx.ownpc {w W : World} {L : List (Nat × Obj)} {X : List Xt} (h : Sx w L X W) (i : Nat) {v : Value} {bs : List Nat} (hi : X[i]? = some (xown w v bs)) : PieceV W W.heap.size v bs := (h.own i hi).piece
theorem Sx.app {w W W' : World} {L : List (Nat × Obj)} {X : List Xt} (h : Sx w L X W) (i : Nat) {v v' : Value} {bs zs : List Nat} (hi : X[i]? = some (xown w v bs)) (R : RestV W' v' zs) (K : Keeps (fun b => v.ownBlock = some b) W W') (Nn : ∀ b, v'.ownBlock = some b → v.ownBlock = some b ∨ b = W.heap.size) : Sx w L (X.set i (xown w v' zs)) W' := by
  have ho : RestV W v bs ∧ ∀ b, v.ownBlock = some b → w.heap.size ≤ b := h.x i hi
  refine h.writeX i hi rfl rfl ⟨R, fun b hb => ?_⟩ (fun b hb => ?_) (fun b hb => R.lt b hb) (fun b hb => ho.2 b hb) K.os K.tape K.output K.size K.block
  · rcases Nn b hb with h1 | h1
    · exact ho.2 b h1
    · rw [h1]; exact h.below.size
  · rcases Nn b hb with h1 | h1
    · exact Or.inl h1
    · exact Or.inr (by omega)
/-- What a call has given: a slice of bytes of its own. -/
theorem Sx.gave {w W W' : World} {L : List (Nat × Obj)} {X : List Xt} (h : Sx w L X W) {v : Value} {bs : List Nat} (p : PadR W v bs W') : Sx w L (xown w v bs :: X) W' :=
  h.madeX p.below _ ⟨p.rest, fun b hb => Nat.le_trans h.below.size (p.own b hb)⟩ (fun b hb => p.own b hb) (fun b hb => p.rest.lt b hb)
/-- What a function gives back. -/
theorem Sx.padr {w W : World} {L : List (Nat × Obj)} {X : List Xt} (h : Sx w L X W) (i : Nat) {v : Value} {bs : List Nat} (hi : X[i]? = some (xown w v bs)) : PadR w v bs W :=
  have ho : RestV W v bs ∧ ∀ b, v.ownBlock = some b → w.heap.size ≤ b := h.x i hi
  ⟨h.below, ho.1, ho.2⟩
/-- append(s, x...), as a step. -/
theorem wp_app {o : Oper} {a : Act} {K : Act → World → Prop} {Q : Exit → Act → World → Prop} {w W : World} {L : List (Nat × Obj)} {X : List Xt} (S : Sx w L X W) (i : Nat) (s x : Operand)
    (ho : o.op = .call { callee := .builtin .append, args := #[s, x], argTypes := #[22, 22] }) {v xv : Value} (hsv : a.eval s = v) (hxv : a.eval x = xv) {bs ys : List Nat} (hi : X[i]? = some (xown w v bs)) (hs : SrcB W xv ys) (hn : bs.length + ys.length ≤ 70368744177664)
    (h : ∀ v' W', Sx w L (X.set i (xown w v' (bs ++ ys))) W' → K (a.put o.dst v') W') : o.wp Try.prog a W K Q := by
  obtain ⟨v', W', hr, h2, h3, h4⟩ := run_app o.type W v xv bs ys (S.own i hi) hs hn
  unfold Oper.wp execOp
  simp only [ho, resolve, invoke, builtin, Sem.run_bind, Sem.run_pure, Result.andThen_ok, List.map_toArray, List.map_cons, List.map_nil, hsv, hxv, hr]
  exact h _ _ (S.app i hi h2 h3 h4)
/-- A row of bytes that a region has made, as a source. -/
theorem src_row {W : World} {g n c : Nat} {cs : Array Value} {l : List Nat} {t : TypeId} (h : W.heap[g]? = some (.cells cs t (0, 0))) (hl : cs.toList = bcells l) (hn : n = l.length) : SrcB W (.slice (some ⟨g, 0, none⟩) n c) l := by
  subst hn
  refine srcB_slice W g 0 c l (fun i hi => (cell_of_row _ _ _ _ _ _ h).trans ?_)
  have := bcells_get l i hi
  rw [← hl] at this
  rw [Nat.zero_add]; simpa using this
/-- A row of no bytes is a slice of one's own. -/
theorem Sx.empty {w W : World} {L : List (Nat × Obj)} {X : List Xt} (h : Sx w L X W) : Sx w L (xown w (.slice (some ⟨W.heap.size, 0, none⟩) 0 0) [] :: X) (W.alloc (.cells #[] 5)) := h.gave (PadR.new W)

/-- b[lo:hi]. -/
theorem piece_cut {W : World} {S : Nat → Prop} {a : Option Addr} {n c : Nat} {bs : List Nat} (h : PieceS W S (.slice a n c) bs) (lo hi : Nat) (h1 : lo ≤ hi) (h2 : hi ≤ bs.length) (hc : bs.length ≤ c) :
    ∃ a', sliced a lo hi c 1 = .slice a' (hi - lo) (c - lo) ∧ PieceS W S (.slice a' (hi - lo) (c - lo)) ((bs.drop lo).take (hi - lo)) := by
  have hl : ((bs.drop lo).take (hi - lo)).length = hi - lo := by rw [List.length_take, List.length_drop]; omega
  refine ⟨_, rfl, ?_⟩
  by_cases h0 : hi = lo
  · subst h0
    refine Or.inl ⟨⟨_, _, by rw [Nat.sub_self]⟩, by rw [Nat.sub_self]; rfl⟩
  · rcases h with ⟨-, h3⟩ | ⟨b, o, c', hb, h3, h4⟩
    · exfalso; rw [h3] at h2; simp at h2; omega
    · injection h3 with e1 e2 e3
      subst e1
      rw [if_neg (by omega)]
      refine Or.inr ⟨b, o + lo, c - lo, hb, ?_, fun i hi' => ?_⟩
      · have : (⟨b, o, none⟩ : Addr).add (lo * 1) = ⟨b, o + lo, none⟩ := by unfold Addr.add; split <;> simp_all
        simp only [Option.map_some, this, hl]
      · rw [hl] at hi'
        rw [nth_take _ _ _ hi', nth_drop, Nat.add_assoc]; exact h4 (lo + i) (by omega)
section cuts
variable {o : Oper} {a : Act} {K : Act → World → Prop} {Q : Exit → Act → World → Prop} {W : World} {S : Nat → Prop} {A : Option Addr} {n c : Nat} {bs : List Nat} {x y z : Operand} {k k' : IntKind}
theorem wp_cut_lh {lo hi : Nat} (ho : o.op = .slice 22 x (some y) (some z) none) (hx : a.eval x = .slice A n c) (hy : a.eval y = .int k (lo : Int)) (hz : a.eval z = .int k' (hi : Int)) (hp : PieceS W S (.slice A n c) bs) (h1 : lo ≤ hi) (h2 : hi ≤ bs.length) (hc : bs.length ≤ c)
    (hk : ∀ a', PieceS W S (.slice a' (hi - lo) (c - lo)) ((bs.drop lo).take (hi - lo)) → K (a.put o.dst (.slice a' (hi - lo) (c - lo))) W) : o.wp Try.prog a W K Q := by
  obtain ⟨a', e, h⟩ := piece_cut hp lo hi h1 h2 hc
  have hr : (Instr.sliceAt 22 (.slice A n c) (some (.int k (lo : Int))) (some (.int k' (hi : Int))) none).run Try.prog W = .ok (.slice a' (hi - lo) (c - lo)) W := by
    rw [run_sliceAt_slice _ _ _ _ _ _ bytes_slice, run_slice_lh W 22 A n c bytes_slice k k' (lo : Int) (hi : Int) (Int.natCast_nonneg _) (by omega) (by omega), byte_size]
    simp only [Result.andThen_ok, Int.toNat_natCast, e]
  unfold Oper.wp execOp
  simp only [ho, hx, hy, hz, Option.map_some, Option.map_none, Sem.run_bind, hr, Result.andThen_ok, Sem.run_pure]
  exact hk a' h
theorem wp_cut_l {lo : Nat} (ho : o.op = .slice 22 x (some y) none none) (hx : a.eval x = .slice A n c) (hy : a.eval y = .int k (lo : Int)) (hp : PieceS W S (.slice A n c) bs) (hn : n = bs.length) (h1 : lo ≤ bs.length) (hc : bs.length ≤ c)
    (hk : ∀ a', PieceS W S (.slice a' (bs.length - lo) (c - lo)) (bs.drop lo) → K (a.put o.dst (.slice a' (bs.length - lo) (c - lo))) W) : o.wp Try.prog a W K Q := by
  subst hn
  obtain ⟨a', e, h⟩ := piece_cut hp lo bs.length h1 (Nat.le_refl _) hc
  rw [show (bs.drop lo).take (bs.length - lo) = bs.drop lo from List.take_of_length_le (by rw [List.length_drop]; omega)] at h
  have hr : (Instr.sliceAt 22 (.slice A bs.length c) (some (.int k (lo : Int))) none none).run Try.prog W = .ok (.slice a' (bs.length - lo) (c - lo)) W := by
    rw [run_sliceAt_slice _ _ _ _ _ _ bytes_slice, run_slice_l W 22 A bs.length c bytes_slice k (lo : Int) (Int.natCast_nonneg _) (by omega), byte_size]
    simp only [Result.andThen_ok, Int.toNat_natCast, e]
  unfold Oper.wp execOp
  simp only [ho, hx, hy, Option.map_some, Option.map_none, Sem.run_bind, hr, Result.andThen_ok, Sem.run_pure]
  exact hk a' h
theorem wp_cut_h {hi : Nat} (ho : o.op = .slice 22 x none (some z) none) (hx : a.eval x = .slice A n c) (hz : a.eval z = .int k' (hi : Int)) (hp : PieceS W S (.slice A n c) bs) (h2 : hi ≤ bs.length) (hc : bs.length ≤ c)
    (hk : ∀ a', PieceS W S (.slice a' hi c) (bs.take hi) → K (a.put o.dst (.slice a' hi c)) W) : o.wp Try.prog a W K Q := by
  obtain ⟨a', e, h⟩ := piece_cut hp 0 hi (Nat.zero_le _) h2 hc
  rw [List.drop_zero, Nat.sub_zero, Nat.sub_zero] at h
  rw [Nat.sub_zero, Nat.sub_zero] at e
  have hr : (Instr.sliceAt 22 (.slice A n c) none (some (.int k' (hi : Int))) none).run Try.prog W = .ok (.slice a' hi c) W := by
    rw [run_sliceAt_slice _ _ _ _ _ _ bytes_slice, run_slice_h W 22 A n c bytes_slice k' (hi : Int) (Int.natCast_nonneg _) (by omega), byte_size]
    simp only [Result.andThen_ok, Int.toNat_natCast, e]
  unfold Oper.wp execOp
  simp only [ho, hx, hz, Option.map_some, Option.map_none, Sem.run_bind, hr, Result.andThen_ok, Sem.run_pure]
  exact hk a' h
end cuts
/-- A piece of one byte or more lies somewhere. -/
theorem Sx.lies {w W : World} {L : List (Nat × Obj)} {X : List Xt} (h : Sx w L X W) (i : Nat) {q : Xt} (hi : X[i]? = some q) {B : Nat} {A : Option Addr} {n c : Nat} {bs : List Nat} (hq : q = xpc B (.slice A n c) bs) (h0 : 0 < bs.length) : ∃ b o, A = some ⟨b, o, none⟩ := by
  subst hq
  rcases h.pc i hi with ⟨-, h1⟩ | ⟨b, o, c', -, h1, -⟩
  · rw [h1] at h0; simp at h0
  · injection h1 with e; exact ⟨b, o, e⟩
theorem PieceS.at {W : World} {S : Nat → Prop} {b o n c : Nat} {bs : List Nat} (h : PieceS W S (.slice (some ⟨b, o, none⟩) n c) bs) (k a : Nat) (hk : k < bs.length) (ha : a = o + k) : W.cell? ⟨b, a, none⟩ = some (.int .u8 ((nth bs k : Nat) : Int)) := by
  subst ha
  rcases h with ⟨-, h1⟩ | ⟨b', o', c', -, h1, h2⟩
  · rw [h1] at hk; simp at hk
  · injection h1 with e; injection e with e; injection e with e1 e2; subst e1 e2; exact h2 k hk
/-- What is sliced off hangs on the same blocks. -/
theorem Sx.cutpc {w W : World} {L : List (Nat × Obj)} {X : List Xt} (h : Sx w L X W) (i : Nat) {B : Nat} {v v' : Value} {bs bs' : List Nat} (hi : X[i]? = some (xpc B v bs)) (hp : PieceS W (fun b => b < B) v' bs') : Sx w L (xpc B v' bs' :: X) W :=
  h.dup i hi rfl _ rfl (fun _ h => h) ⟨(show B ≤ W.heap.size ∧ _ from h.x i hi).1, hp⟩
theorem Sx.cutps {w W : World} {L : List (Nat × Obj)} {X : List Xt} (h : Sx w L X W) (i : Nat) {S : Nat → Prop} {v v' : Value} {bs bs' : List Nat} (hi : X[i]? = some (xps S v bs)) (hp : PieceS W S v' bs') : Sx w L (xps S v' bs' :: X) W :=
  h.dup i hi rfl _ rfl (fun _ h => h) ⟨(show (∀ b, S b → b < W.heap.size) ∧ _ from h.x i hi).1, hp⟩
theorem Sx.pcS {w W : World} {L : List (Nat × Obj)} {X : List Xt} (h : Sx w L X W) (i : Nat) {B : Nat} {v : Value} {bs : List Nat} (hi : X[i]? = some (xpc B v bs)) : PieceS W (fun b => b < B) v bs := (show B ≤ W.heap.size ∧ PieceV W B v bs from h.x i hi).2
theorem Sx.psS {w W : World} {L : List (Nat × Obj)} {X : List Xt} (h : Sx w L X W) (i : Nat) {S : Nat → Prop} {v : Value} {bs : List Nat} (hi : X[i]? = some (xps S v bs)) : PieceS W S v bs := (show (∀ b, S b → b < W.heap.size) ∧ PieceS W S v bs from h.x i hi).2
theorem RestV.shapeP {W : World} {v : Value} {bs : List Nat} (h : RestV W v bs) : ∃ a c, v = .slice a bs.length c := h.shape
end Go.Proofs.Ytbjcigokimieoaa
