/-
  Texts Hg, Hi, Hj, Hu, Hp, Ia, Ib, Id, Sp, Sq, Sw, Sv, Su, Jp, Gn, Gs, Bm, Bz, Jq, Va, Tb, Jr, Js, Jt, Cl, Io, Op of the claim, merged. (Printed by shake.py.)
-/
import Derived.Test.YthmcejhcidchhaaZy3
namespace Go.Proofs.Ythmcejhcidchhaa
open Go.RowKit
/-- A piece: bytes in a block of S. -/
def PieceS (W : World) (S : Nat → Prop) (xv : Value) (ys : List Nat) : Prop :=
  ((∃ a c, xv = .slice a 0 c) ∧ ys = []) ∨ ∃ b o c, S b ∧ xv = .slice (some ⟨b, o, none⟩) ys.length c ∧ ∀ i, i < ys.length → W.cell? ⟨b, o + i, none⟩ = some (.int .u8 ((nth ys i : Nat) : Int))
/-- .. below B. -/
@[reducible] def PieceV (W : World) (B : Nat) (xv : Value) (ys : List Nat) : Prop := PieceS W (fun b => b < B) xv ys
theorem PieceS.src {W : World} {S : Nat → Prop} {xv : Value} {ys : List Nat} (h : PieceS W S xv ys) : SrcB W xv ys := by
  rcases h with ⟨⟨a, c, rfl⟩, rfl⟩ | ⟨b, o, c, -, rfl, h⟩
  · cases a with
    | none => exact srcB_nil W c
    | some a => exact Src.ofSlice (w := W) Try.underlying49 a 0 c _ rfl (fun j u hj => by simp [bcells] at hj) (fun u hu => by simp [bcells] at hu)
  · exact srcB_slice W b o c ys h
theorem PieceS.shape {W : World} {S : Nat → Prop} {xv : Value} {ys : List Nat} (h : PieceS W S xv ys) : ∃ a c, xv = .slice a ys.length c := by
  rcases h with ⟨⟨a, c, rfl⟩, rfl⟩ | ⟨b, o, c, -, rfl, -⟩
  · exact ⟨_, _, rfl⟩
  · exact ⟨_, _, rfl⟩
theorem PieceV.src {W : World} {B : Nat} {xv : Value} {ys : List Nat} (h : PieceV W B xv ys) : SrcB W xv ys := PieceS.src h
theorem PieceV.shape {W : World} {B : Nat} {xv : Value} {ys : List Nat} (h : PieceV W B xv ys) : ∃ a c, xv = .slice a ys.length c := PieceS.shape h
/-- Pieces, in a list of S. -/
structure PcsS (W : World) (S : Nat → Prop) (lv : Value) (pss : List (List Nat)) : Prop where
  le : ∀ b, S b → b < W.heap.size
  shape : ((∃ a c, lv = .slice a 0 c) ∧ pss = []) ∨ ∃ lb lo c, S lb ∧ lv = .slice (some ⟨lb, lo, none⟩) pss.length c ∧ ∀ i ys, pss[i]? = some ys → ∃ xv, W.cell? ⟨lb, lo + i, none⟩ = some xv ∧ PieceS W S xv ys
@[reducible] def Pcs (W : World) (B : Nat) (lv : Value) (pss : List (List Nat)) : Prop := PcsS W (fun b => b < B) lv pss
theorem Keeps.cell {F : Nat → Prop} {W W' : World} (k : Keeps F W W') {b o : Nat} (hb : b < W.heap.size) (hF : ¬ F b) : W'.cell? ⟨b, o, none⟩ = W.cell? ⟨b, o, none⟩ := World.cell?_of_block (a := ⟨b, o, none⟩) (k.block b hb hF)
theorem PieceS.keep {W W' : World} {S : Nat → Prop} {xv : Value} {ys : List Nat} {F : Nat → Prop} (h : PieceS W S xv ys) (hS : ∀ b, S b → b < W.heap.size) (k : Keeps F W W') (hF : ∀ b, S b → ¬ F b) : PieceS W' S xv ys := by
  rcases h with h | ⟨b, o, c, hb, rfl, h⟩
  · exact Or.inl h
  · exact Or.inr ⟨b, o, c, hb, rfl, fun i hi => (k.cell (hS b hb) (hF b hb)).trans (h i hi)⟩
theorem PieceV.keep {W W' : World} {B : Nat} {xv : Value} {ys : List Nat} {F : Nat → Prop} (h : PieceV W B xv ys) (hB : B ≤ W.heap.size) (k : Keeps F W W') (hF : ∀ b, b < B → ¬ F b) : PieceV W' B xv ys := PieceS.keep h (fun _ hb => Nat.lt_of_lt_of_le hb hB) k hF
theorem PcsS.keep {W W' : World} {S : Nat → Prop} {lv : Value} {pss : List (List Nat)} {F : Nat → Prop} (h : PcsS W S lv pss) (k : Keeps F W W') (hF : ∀ b, S b → ¬ F b) : PcsS W' S lv pss := by
  refine ⟨fun b hb => Nat.lt_of_lt_of_le (h.le b hb) k.size, ?_⟩
  have hle := h.le
  rcases h.shape with h1 | ⟨lb, lo, c, hb, rfl, h2⟩
  · exact Or.inl h1
  · refine Or.inr ⟨lb, lo, c, hb, rfl, fun i ys hi => ?_⟩
    obtain ⟨xv, h3, h4⟩ := h2 i ys hi
    exact ⟨xv, (k.cell (hle lb hb) (hF lb hb)).trans h3, h4.keep hle k hF⟩
theorem Pcs.keep {W W' : World} {B : Nat} {lv : Value} {pss : List (List Nat)} {F : Nat → Prop} (h : Pcs W B lv pss) (k : Keeps F W W') (hF : ∀ b, b < B → ¬ F b) : Pcs W' B lv pss := PcsS.keep h k hF
/-- Where a hasher writes. -/
def HF (hg : Nat) (v : Value) (b : Nat) : Prop := b = hg ∨ v.ownBlock = some b
end Go.Proofs.Ythmcejhcidchhaa
namespace Go.Proofs.Ythmcejhcidchhaa
open Go.RowKit
theorem outB_at (fs : List Nat) (i j : Nat) (hi : i < 8) (hj : j < 4) : nth (outB fs) (4 * i + j) = nth fs i / 2 ^ (24 - 8 * j) % 256 := by
  unfold outB
  rw [nth_range _ _ _ (by omega), show (4 * i + j) / 4 = i by omega, show (4 * i + j) % 4 = j by omega]
end Go.Proofs.Ythmcejhcidchhaa
namespace Go.Proofs.Ythmcejhcidchhaa
open Go.RowKit
theorem PieceV.mono {W : World} {B B' : Nat} {xv : Value} {ys : List Nat} (h : PieceV W B xv ys) (hB : B ≤ B') : PieceV W B' xv ys := h.imp id (fun ⟨b, o, c, h1, h2, h3⟩ => ⟨b, o, c, Nat.lt_of_lt_of_le h1 hB, h2, h3⟩)
theorem Pcs.mono {W : World} {B B' : Nat} {lv : Value} {pss : List (List Nat)} (h : Pcs W B lv pss) (hB : B ≤ B') (hW : B' ≤ W.heap.size) : Pcs W B' lv pss :=
  ⟨fun b hb => Nat.lt_of_lt_of_le hb hW, h.shape.imp id (fun ⟨lb, lo, c, h1, h2, h3⟩ => ⟨lb, lo, c, Nat.lt_of_lt_of_le h1 hB, h2, fun i ys hi => by
    obtain ⟨xv, h4, h5⟩ := h3 i ys hi
    exact ⟨xv, h4, PieceV.mono h5 hB⟩⟩)⟩
end Go.Proofs.Ythmcejhcidchhaa
namespace Go.Proofs.Ythmcejhcidchhaa
open Go.RowKit
/-- Are two rows the same? -/
def heq (a b : List Nat) : Bool := decide (a = b)
theorem St.ne {w W : World} {L : List (Nat × Obj)} (h : St w L W) {p : Nat × Obj} (hp : p ∈ L) {g : Nat} (hg : g = W.heap.size) : p.1 ≠ g := by have := lt_of_block (h.rows p hp); omega
end Go.Proofs.Ythmcejhcidchhaa
namespace Go.Proofs.Ythmcejhcidchhaa
open Go.RowKit
/-- What Padded holds while it writes: z so far. -/
structure PadR (w : World) (v : Value) (z : List Nat) (wr : World) : Prop where
  below : Below w.heap.size w wr
  rest : RestV wr v z
  own : ∀ b, v.ownBlock = some b → w.heap.size ≤ b
theorem PadR.app {w wr W2 : World} {v v2 : Value} {z zz : List Nat} (h : PadR w v z wr) (R : RestV W2 v2 zz) (K : Keeps (fun b => v.ownBlock = some b) wr W2) (Nn : ∀ b, v2.ownBlock = some b → v.ownBlock = some b ∨ b = wr.heap.size) : PadR w v2 zz W2 := by
  refine ⟨?_, R, fun b hb => ?_⟩
  · exact h.below.trans ⟨K.os, K.tape, K.output, K.size, fun b hb => K.block b (Nat.lt_of_lt_of_le hb h.below.size) (fun e => by have := h.own _ e; omega)⟩
  · rcases Nn b hb with h1 | h1
    · exact h.own b h1
    · rw [h1]; exact h.below.size
theorem PadR.alloc {w wr : World} {v : Value} {z : List Nat} (h : PadR w v z wr) (o : Obj) : PadR w v z (wr.alloc o) :=
  ⟨h.below.alloc h.below.size o, h.rest.keep (F := fun _ => False) (Keeps.of_below ((Below.refl _ _).alloc (Nat.le_refl _) o)) (fun _ _ h => h), h.own⟩
theorem PadR.new (w : World) : PadR w (.slice (some ⟨w.heap.size, 0, none⟩) 0 0) [] (w.alloc (.cells #[] 5)) := by
  have S := (St.nil w).alloc (.cells #[] 5) _ rfl
  refine ⟨S.below, Or.inr ⟨w.heap.size, 0, 0, #[], rfl, S.get (List.Mem.head _), Nat.le_refl _, Nat.le_refl _, fun i hi => absurd hi (by simp)⟩, fun b hb => ?_⟩
  simp [Value.ownBlock] at hb; omega
end Go.Proofs.Ythmcejhcidchhaa
namespace Go.Proofs.Ythmcejhcidchhaa
open Go.RowKit
theorem nth_take (l : List Nat) (k i : Nat) (h : i < k) : nth (l.take k) i = nth l i := by
  unfold nth; rw [List.getD_eq_getElem?_getD, List.getD_eq_getElem?_getD, List.getElem?_take, if_pos h]
end Go.Proofs.Ythmcejhcidchhaa
namespace Go.Proofs.Ythmcejhcidchhaa
open Go.RowKit
theorem RestV.piece {W : World} {v : Value} {bs : List Nat} (h : RestV W v bs) : PieceV W W.heap.size v bs := by
  rcases h with ⟨rfl, rfl⟩ | ⟨g, off, cap, cur, rfl, hg, h1, h2, h3⟩
  · exact Or.inl ⟨⟨_, _, rfl⟩, rfl⟩
  · exact Or.inr ⟨g, off, cap, lt_of_block hg, rfl, fun i hi => (cell_of_row _ _ _ _ _ _ hg).trans (h3 i hi)⟩
theorem PadR.keep {w W W' : World} {v : Value} {z : List Nat} (h : PadR w v z W) (hb : Below W.heap.size W W') : PadR w v z W' :=
  ⟨below_step h.below hb, h.rest.keep (F := fun _ => False) (Keeps.of_below hb) (fun _ _ h => h), h.own⟩
end Go.Proofs.Ythmcejhcidchhaa
namespace Go.Proofs.Ythmcejhcidchhaa
open Go.RowKit
theorem bytes_elem : Try.prog.elem 49 = 5 := by kernel_rfl
theorem bytes_slice : Try.prog.underlying 49 = some (.slice (Try.prog.elem 49)) := by rw [bytes_elem]; exact Try.underlying49
theorem byte_size (w : World) : (Go.sizeOf (Try.prog.elem 49)).run Try.prog w = .ok 1 w := by rw [bytes_elem]; exact Try.sizeOf5 w
/-- A string of bytes. -/
def nst (l : List Nat) : ByteArray := ⟨(l.map UInt8.ofNat).toArray⟩
theorem bln_nst (l : List Nat) (h : ∀ y, y ∈ l → y < 256) : (nst l).data.toList.map UInt8.toNat = l := by
  unfold nst
  simp only [List.map_map]
  rw [show (List.map (UInt8.toNat ∘ UInt8.ofNat) l) = List.map id l from List.map_congr_left (fun x hx => by
    have := h x hx
    simp; omega), List.map_id]
theorem run_str {W : World} {S : Nat → Prop} {v : Value} {bs : List Nat} (h : PieceS W S v bs) : (convert 49 9 v).run Try.prog W = .ok (.string (nst bs)) W := by
  rcases h with ⟨⟨a, c, rfl⟩, rfl⟩ | ⟨b, o, c, -, rfl, h⟩
  · cases a with
    | none => exact Lib.run_convert_nil_bytes W _ _ 5 c Try.underlying49 Try.underlying5 Try.underlying9
    | some a =>
      rw [run_convert_bytes_string W 49 9 5 (some a) 0 c Try.underlying49 Try.underlying5 Try.underlying9]
      simp [Conv.bytesToString, loadCells, nst]
      rfl
  · rw [run_convert_bytes_arg W 49 5 Try.underlying49 Try.underlying5 b o bs.length c (bs.map Int.ofNat) (by simp) (fun i hi => by
      rw [h i hi, List.getD_eq_getElem?_getD, List.getElem?_map, nth_get bs i hi]; rfl) 9 Try.underlying9]
    congr 2
    apply ByteArray.ext
    apply Array.toList_inj.1
    rw [strOfNums_data]
    simp [nst]
end Go.Proofs.Ythmcejhcidchhaa
namespace Go.Proofs.Ythmcejhcidchhaa
open Go.RowKit
theorem cell_same {W W' : World} {b o : Nat} (h : W'.heap[b]? = W.heap[b]?) : W'.cell? ⟨b, o, none⟩ = W.cell? ⟨b, o, none⟩ := World.cell?_of_block (a := ⟨b, o, none⟩) h
theorem PieceS.stays {W W' : World} {S : Nat → Prop} {v : Value} {bs : List Nat} (h : PieceS W S v bs) (hb : ∀ b, S b → b < W.heap.size) (hk : ∀ b, S b → b < W.heap.size → W'.heap[b]? = W.heap[b]?) : PieceS W' S v bs := by
  rcases h with h | ⟨b, o, c, h1, rfl, h⟩
  · exact Or.inl h
  · exact Or.inr ⟨b, o, c, h1, rfl, fun i hi => (cell_same (hk b h1 (hb b h1))).trans (h i hi)⟩
/-- A piece below B. -/
def xpc (B : Nat) (v : Value) (bs : List Nat) : Xt := ⟨false, fun b => b < B, fun W => B ≤ W.heap.size ∧ PieceV W B v bs, fun _ _ hk hs h => ⟨Nat.le_trans h.1 hs, PieceS.stays h.2 (fun _ hb => Nat.lt_of_lt_of_le hb h.1) hk⟩⟩
theorem PcsS.stays {W W' : World} {S : Nat → Prop} {v : Value} {pss : List (List Nat)} (h : PcsS W S v pss) (hk : ∀ b, S b → b < W.heap.size → W'.heap[b]? = W.heap[b]?) (hs : W.heap.size ≤ W'.heap.size) : PcsS W' S v pss := by
  refine ⟨fun b hb => Nat.lt_of_lt_of_le (h.le b hb) hs, ?_⟩
  have hle := h.le
  rcases h.shape with h1 | ⟨lb, lo, c, hb, rfl, h2⟩
  · exact Or.inl h1
  · refine Or.inr ⟨lb, lo, c, hb, rfl, fun i ys hi => ?_⟩
    obtain ⟨xv, h3, h4⟩ := h2 i ys hi
    exact ⟨xv, (cell_same (hk lb hb (hle lb hb))).trans h3, PieceS.stays h4 hle hk⟩
/-- Pieces in a list, in blocks of S. -/
def xpcs (S : Nat → Prop) (v : Value) (pss : List (List Nat)) : Xt := ⟨false, S, fun W => PcsS W S v pss, fun _ _ hk hs h => PcsS.stays h hk hs⟩
theorem PieceS.mono {W : World} {S S' : Nat → Prop} {v : Value} {bs : List Nat} (h : PieceS W S v bs) (hS : ∀ b, S b → S' b) : PieceS W S' v bs := h.imp id (fun ⟨b, o, c, h1, h2, h3⟩ => ⟨b, o, c, hS b h1, h2, h3⟩)
theorem PcsS.mono {W : World} {S S' : Nat → Prop} {v : Value} {pss : List (List Nat)} (h : PcsS W S v pss) (hS : ∀ b, S b → S' b) (hle : ∀ b, S' b → b < W.heap.size) : PcsS W S' v pss :=
  ⟨hle, h.shape.imp id (fun ⟨lb, lo, c, h1, h2, h3⟩ => ⟨lb, lo, c, hS _ h1, h2, fun i ys hi => by
    obtain ⟨xv, h4, h5⟩ := h3 i ys hi
    exact ⟨xv, h4, h5.mono hS⟩⟩)⟩
theorem Sx.pc {w W : World} {L : List (Nat × Obj)} {X : List Xt} (h : Sx w L X W) (i : Nat) {B : Nat} {v : Value} {bs : List Nat} (hi : X[i]? = some (xpc B v bs)) : PieceV W W.heap.size v bs :=
  have k : B ≤ W.heap.size ∧ PieceV W B v bs := h.x i hi
  PieceV.mono k.2 k.1
theorem Sx.pcs {w W : World} {L : List (Nat × Obj)} {X : List Xt} (h : Sx w L X W) (i : Nat) {S : Nat → Prop} {v : Value} {pss : List (List Nat)} (hi : X[i]? = some (xpcs S v pss)) : Pcs W W.heap.size v pss :=
  have k : PcsS W S v pss := h.x i hi
  PcsS.mono k k.le (fun _ h => h)
theorem RestV.stays {W W' : World} {v : Value} {bs : List Nat} (h : RestV W v bs) (hk : ∀ b, v.ownBlock = some b → b < W.heap.size → W'.heap[b]? = W.heap[b]?) : RestV W' v bs := by
  rcases h with h | ⟨g, off, cap, cur, rfl, hg, h1, h2, h3⟩
  · exact Or.inl h
  · exact Or.inr ⟨g, off, cap, cur, rfl, (hk g rfl (lt_of_block hg)).trans hg, h1, h2, h3⟩
theorem RestV.lt {W : World} {v : Value} {bs : List Nat} (h : RestV W v bs) : ∀ b, v.ownBlock = some b → b < W.heap.size := fun b hb => by
  rcases h with ⟨rfl, -⟩ | ⟨g, off, cap, cur, rfl, hg, -⟩
  · cases hb
  · simp [Value.ownBlock] at hb; subst hb; exact lt_of_block hg
/-- A slice of bytes of one's own. -/
def xown (w : World) (v : Value) (bs : List Nat) : Xt := ⟨true, fun b => v.ownBlock = some b, fun W => RestV W v bs ∧ ∀ b, v.ownBlock = some b → w.heap.size ≤ b, fun _ _ hk _ h => ⟨RestV.stays h.1 hk, h.2⟩⟩
theorem Sx.own {w W : World} {L : List (Nat × Obj)} {X : List Xt} (h : Sx w L X W) (i : Nat) {v : Value} {bs : List Nat} (hi : X[i]? = some (xown w v bs)) : RestV W v bs := (show RestV W v bs ∧ _ from h.x i hi).1
theorem Sx.ownpc {w W : World} {L : List (Nat × Obj)} {X : List Xt} (h : Sx w L X W) (i : Nat) {v : Value} {bs : List Nat} (hi : X[i]? = some (xown w v bs)) : PieceV W W.heap.size v bs := (h.own i hi).piece
theorem Sx.app {w W W' : World} {L : List (Nat × Obj)} {X : List Xt} (h : Sx w L X W) (i : Nat) {v v' : Value} {bs zs : List Nat} (hi : X[i]? = some (xown w v bs)) (R : RestV W' v' zs) (K : Keeps (fun b => v.ownBlock = some b) W W') (Nn : ∀ b, v'.ownBlock = some b → v.ownBlock = some b ∨ b = W.heap.size) : Sx w L (X.set i (xown w v' zs)) W' := by
  have ho : RestV W v bs ∧ ∀ b, v.ownBlock = some b → w.heap.size ≤ b := h.x i hi
  refine h.writeX i hi rfl rfl ⟨R, fun b hb => ?_⟩ (fun b hb => ?_) (fun b hb => R.lt b hb) (fun b hb => ho.2 b hb) K.os K.tape K.output K.size K.block
  · rcases Nn b hb with h1 | h1
    · exact ho.2 b h1
    · rw [h1]; exact h.below.size
  · rcases Nn b hb with h1 | h1
    · exact Or.inl h1
    · exact Or.inr (by omega)
/-- What a call has given: a slice of bytes of its own. -/
theorem Sx.gave {w W W' : World} {L : List (Nat × Obj)} {X : List Xt} (h : Sx w L X W) {v : Value} {bs : List Nat} (p : PadR W v bs W') : Sx w L (xown w v bs :: X) W' :=
  h.madeX p.below _ ⟨p.rest, fun b hb => Nat.le_trans h.below.size (p.own b hb)⟩ (fun b hb => p.own b hb) (fun b hb => p.rest.lt b hb)
/-- b[lo:hi]. -/
theorem piece_cut {W : World} {S : Nat → Prop} {a : Option Addr} {n c : Nat} {bs : List Nat} (h : PieceS W S (.slice a n c) bs) (lo hi : Nat) (h1 : lo ≤ hi) (h2 : hi ≤ bs.length) (hc : bs.length ≤ c) :
    ∃ a', sliced a lo hi c 1 = .slice a' (hi - lo) (c - lo) ∧ PieceS W S (.slice a' (hi - lo) (c - lo)) ((bs.drop lo).take (hi - lo)) := by
  have hl : ((bs.drop lo).take (hi - lo)).length = hi - lo := by rw [List.length_take, List.length_drop]; omega
  refine ⟨_, rfl, ?_⟩
  by_cases h0 : hi = lo
  · subst h0
    refine Or.inl ⟨⟨_, _, by rw [Nat.sub_self]⟩, by rw [Nat.sub_self]; rfl⟩
  · rcases h with ⟨-, h3⟩ | ⟨b, o, c', hb, h3, h4⟩
    · exfalso; rw [h3] at h2; simp at h2; omega
    · injection h3 with e1 e2 e3
      subst e1
      rw [if_neg (by omega)]
      refine Or.inr ⟨b, o + lo, c - lo, hb, ?_, fun i hi' => ?_⟩
      · have : (⟨b, o, none⟩ : Addr).add (lo * 1) = ⟨b, o + lo, none⟩ := by unfold Addr.add; split <;> simp_all
        simp only [Option.map_some, this, hl]
      · rw [hl] at hi'
        rw [nth_take _ _ _ hi', nth_drop, Nat.add_assoc]; exact h4 (lo + i) (by omega)
section cuts
variable {o : Oper} {a : Act} {K : Act → World → Prop} {Q : Exit → Act → World → Prop} {W : World} {S : Nat → Prop} {A : Option Addr} {n c : Nat} {bs : List Nat} {x y z : Operand} {k k' : IntKind}
end cuts
/-- A piece of one byte or more lies somewhere. -/
theorem Sx.lies {w W : World} {L : List (Nat × Obj)} {X : List Xt} (h : Sx w L X W) (i : Nat) {q : Xt} (hi : X[i]? = some q) {B : Nat} {A : Option Addr} {n c : Nat} {bs : List Nat} (hq : q = xpc B (.slice A n c) bs) (h0 : 0 < bs.length) : ∃ b o, A = some ⟨b, o, none⟩ := by
  subst hq
  rcases h.pc i hi with ⟨-, h1⟩ | ⟨b, o, c', -, h1, -⟩
  · rw [h1] at h0; simp at h0
  · injection h1 with e; exact ⟨b, o, e⟩
theorem PieceS.at {W : World} {S : Nat → Prop} {b o n c : Nat} {bs : List Nat} (h : PieceS W S (.slice (some ⟨b, o, none⟩) n c) bs) (k a : Nat) (hk : k < bs.length) (ha : a = o + k) : W.cell? ⟨b, a, none⟩ = some (.int .u8 ((nth bs k : Nat) : Int)) := by
  subst ha
  rcases h with ⟨-, h1⟩ | ⟨b', o', c', -, h1, h2⟩
  · rw [h1] at hk; simp at hk
  · injection h1 with e; injection e with e; injection e with e1 e2; subst e1 e2; exact h2 k hk
/-- What is sliced off hangs on the same blocks. -/
theorem Sx.cutpc {w W : World} {L : List (Nat × Obj)} {X : List Xt} (h : Sx w L X W) (i : Nat) {B : Nat} {v v' : Value} {bs bs' : List Nat} (hi : X[i]? = some (xpc B v bs)) (hp : PieceS W (fun b => b < B) v' bs') : Sx w L (xpc B v' bs' :: X) W :=
  h.dup i hi rfl _ rfl (fun _ h => h) ⟨(show B ≤ W.heap.size ∧ _ from h.x i hi).1, hp⟩
theorem Sx.pcS {w W : World} {L : List (Nat × Obj)} {X : List Xt} (h : Sx w L X W) (i : Nat) {B : Nat} {v : Value} {bs : List Nat} (hi : X[i]? = some (xpc B v bs)) : PieceS W (fun b => b < B) v bs := (show B ≤ W.heap.size ∧ PieceV W B v bs from h.x i hi).2
end Go.Proofs.Ythmcejhcidchhaa
namespace Go.Proofs.Ythmcejhcidchhaa
open Go.RowKit
/-- A slice that may be appended to: where it lies. -/
def RestG (E : TypeId) (W : World) (v : Value) (cs : List Value) : Prop :=
  (v = .slice none 0 0 ∧ cs = []) ∨ ∃ g off cap cur, v = .slice (some ⟨g, off, none⟩) cs.length cap ∧ W.heap[g]? = some (.cells cur E (0, 0)) ∧ cs.length ≤ cap ∧ off + cap ≤ cur.size ∧ (∀ i, i < cs.length → cur[off + i]? = cs[i]?)
theorem RestG.shape {E : TypeId} {W : World} {v : Value} {cs : List Value} (h : RestG E W v cs) : ∃ a c, v = .slice a cs.length c := by
  rcases h with ⟨rfl, rfl⟩ | ⟨g, off, cap, cur, rfl, -⟩
  · exact ⟨_, _, rfl⟩
  · exact ⟨_, _, rfl⟩
theorem RestG.stays {E : TypeId} {W W' : World} {v : Value} {cs : List Value} (h : RestG E W v cs) (hk : ∀ b, v.ownBlock = some b → b < W.heap.size → W'.heap[b]? = W.heap[b]?) : RestG E W' v cs := by
  rcases h with h | ⟨g, off, cap, cur, rfl, hg, h1, h2, h3⟩
  · exact Or.inl h
  · exact Or.inr ⟨g, off, cap, cur, rfl, (hk g rfl (lt_of_block hg)).trans hg, h1, h2, h3⟩
theorem RestG.lt {E : TypeId} {W : World} {v : Value} {cs : List Value} (h : RestG E W v cs) : ∀ b, v.ownBlock = some b → b < W.heap.size := fun b hb => by
  rcases h with ⟨rfl, -⟩ | ⟨g, off, cap, cur, rfl, hg, -⟩
  · cases hb
  · simp [Value.ownBlock] at hb; subst hb; exact lt_of_block hg
theorem RestG.at {E : TypeId} {W : World} {g off n c : Nat} {cs : List Value} (h : RestG E W (.slice (some ⟨g, off, none⟩) n c) cs) (i a : Nat) (x : Value) (hi : cs[i]? = some x) (ha : a = off + i) : W.cell? ⟨g, a, none⟩ = some x := by
  subst ha
  have hlt : i < cs.length := (List.getElem?_eq_some_iff.1 hi).1
  rcases h with ⟨h1, -⟩ | ⟨g', off', cap, cur, h1, hg, -, -, h3⟩
  · cases h1
  · injection h1 with e; injection e with e; injection e with e1 e2; subst e1 e2
    exact (cell_of_row _ _ _ _ _ _ hg).trans ((h3 i hlt).trans hi)
/-- A slice of one's own. -/
def xog (E : TypeId) (w : World) (v : Value) (cs : List Value) : Xt := ⟨true, fun b => v.ownBlock = some b, fun W => RestG E W v cs ∧ ∀ b, v.ownBlock = some b → w.heap.size ≤ b, fun _ _ hk _ h => ⟨RestG.stays h.1 hk, h.2⟩⟩
theorem Sx.og {w W : World} {L : List (Nat × Obj)} {X : List Xt} (h : Sx w L X W) (i : Nat) {E : TypeId} {v : Value} {cs : List Value} (hi : X[i]? = some (xog E w v cs)) : RestG E W v cs := (show RestG E W v cs ∧ _ from h.x i hi).1
theorem Sx.ogown {w W : World} {L : List (Nat × Obj)} {X : List Xt} (h : Sx w L X W) (i : Nat) {E : TypeId} {v : Value} {cs : List Value} (hi : X[i]? = some (xog E w v cs)) : ∀ b, v.ownBlock = some b → w.heap.size ≤ b := (show RestG E W v cs ∧ _ from h.x i hi).2
theorem Sx.appg {w W W' : World} {L : List (Nat × Obj)} {X : List Xt} (h : Sx w L X W) (i : Nat) {E : TypeId} {v v' : Value} {cs zs : List Value} (hi : X[i]? = some (xog E w v cs)) (R : RestG E W' v' zs) (K : Keeps (fun b => v.ownBlock = some b) W W') (Nn : ∀ b, v'.ownBlock = some b → v.ownBlock = some b ∨ b = W.heap.size) : Sx w L (X.set i (xog E w v' zs)) W' := by
  have ho : RestG E W v cs ∧ ∀ b, v.ownBlock = some b → w.heap.size ≤ b := h.x i hi
  refine h.writeX i hi rfl rfl ⟨R, fun b hb => ?_⟩ (fun b hb => ?_) (fun b hb => R.lt b hb) (fun b hb => ho.2 b hb) K.os K.tape K.output K.size K.block
  · rcases Nn b hb with h1 | h1
    · exact ho.2 b h1
    · rw [h1]; exact h.below.size
  · rcases Nn b hb with h1 | h1
    · exact Or.inl h1
    · exact Or.inr (by omega)
theorem runG_room {T E : TypeId} (hT : Try.prog.underlying T = some (.slice E)) (ty : TypeId) (i : TypeInfo) (hi : Try.prog.info? E = some i) (h1 : i.size = 1) (W : World) (g off n cap : Nat) (cur : Array Value) (hg : W.heap[g]? = some (.cells cur E (0, 0))) (x : Value) (m : Nat) (news : List Value) (hs : Src Try.prog 1 T x m news W)
    (hroom : n + m ≤ cap) (hfit : off + cap ≤ cur.size) :
    (Builtin.append_ #[T, T] ty #[.slice (some ⟨g, off, none⟩) n cap, x]).run Try.prog W = .ok (.slice (some ⟨g, off, none⟩) (n + m) cap) (W.setRow g (cur.toList.take (off + n) ++ news ++ cur.toList.drop (off + n + news.length)).toArray) := by
  have hl := hs.newsLen
  have hst := run_storeCells_at Try.prog g (off + n) E news 0 cur W hg (by omega) hs.one
  simp only [Nat.add_zero] at hst
  rcases hs.kind with ⟨e', hk⟩ | hk <;> simp [Builtin.append_, run_underlying hT, sizeOf, typeInfo, hi, h1, hs.len, hroom, hs.cells, Addr.add_lit, hst]
theorem runG_nothing {T E : TypeId} (hT : Try.prog.underlying T = some (.slice E)) (ty : TypeId) (i : TypeInfo) (hi : Try.prog.info? E = some i) (h1 : i.size = 1) (W : World) (base : Option Addr) (n cap : Nat) (hle : n ≤ cap) (x : Value) (hs : Src Try.prog 1 T x 0 [] W) :
    (Builtin.append_ #[T, T] ty #[.slice base n cap, x]).run Try.prog W = .ok (.slice base n cap) W := by
  rcases hs.kind with ⟨e', hk⟩ | hk <;> cases base <;> simp [Builtin.append_, run_underlying hT, sizeOf, typeInfo, hi, h1, hs.len, hle, hs.cells, storeCells]
/-- A slice that begins where its block begins. -/
def Z0 (v : Value) : Prop := ∀ b o m n c, v = .slice (some ⟨b, o, m⟩) n c → o = 0
theorem runG_app {T E : TypeId} (hT : Try.prog.underlying T = some (.slice E)) {z : Value} {sb' : Nat} (hE : (Try.prog.info? E).map (fun i => (i.zero, i.size, i.bytes)) = some (some z, 1, sb')) (hzs : z.cells.size = 1) (ty : TypeId) (W : World) (v x : Value) (cs ys : List Value) (hv : RestG E W v cs) (hs : Src Try.prog 1 T x ys.length ys W) (hn : (cs.length + ys.length) * sb' ≤ 70368744177664) (hn2 : cs.length + ys.length ≤ 1000000000000) :
    ∃ v' W', (Builtin.append_ #[T, T] ty #[v, x]).run Try.prog W = .ok v' W' ∧ RestG E W' v' (cs ++ ys) ∧ Keeps (fun b => v.ownBlock = some b) W W' ∧ (∀ b, v'.ownBlock = some b → v.ownBlock = some b ∨ b = W.heap.size) ∧ (Z0 v → Z0 v') := by
  obtain ⟨i, hi, hz, h1, h2⟩ := info_parts hE
  have hsm : ∀ k, k = cs.length + ys.length → ((k : Nat) : Int) ≤ 9223372036854775807 := fun k hk => by omega
  have grow : ∀ (base : Option Addr) (cap : Nat), v = .slice base cs.length cap → cap < cs.length + ys.length → (Builtin.firstCells i.size cs.length (.slice base cs.length cap)).run Try.prog W.drew = .ok cs.toArray W.drew →
      ∃ v' W', (Builtin.append_ #[T, T] ty #[v, x]).run Try.prog W = .ok v' W' ∧ RestG E W' v' (cs ++ ys) ∧ Keeps (fun b => v.ownBlock = some b) W W' ∧ (∀ b, v'.ownBlock = some b → v.ownBlock = some b ∨ b = W.heap.size) ∧ (Z0 v → Z0 v') := by
    rintro base cap rfl hlt hold
    have hfit : Builtin.nextslicecap (cs.length + ys.length) cap * i.bytes ≤ 281474976710656 := growslice_fits (by omega) (by rw [h2]; omega)
    have hr := run_append_grow_src (P := Try.prog) (w := W) T T ty E i z hT hi hz base cs.length cap cs hold x ys.length ys (by rw [h1]; exact hs) hlt (hsm _ rfl) hfit
    have hge := grownCap_ge W (cs.length + ys.length) cap E
    generalize grownCap W (cs.length + ys.length) cap E = gc at hr hge
    refine ⟨_, _, hr, Or.inr ⟨W.heap.size, 0, gc, _, by rw [List.length_append], heap_alloc_new W.drew _, by rw [List.length_append]; exact hge, ?_, ?_⟩, ?_, ?_⟩
    · simp only [Array.size_append, List.size_toArray, List.length_append, size_zeroCells, hzs]
      omega
    · intro k hk
      rw [Nat.zero_add, Array.getElem?_append_left (by simpa using hk), List.getElem?_toArray]
    · exact Keeps.of_below ((Below.refl _ _).drew.alloc (Nat.le_refl _) _)
    · exact ⟨fun b hb => by simp [Value.ownBlock] at hb; exact Or.inr hb.symm, fun _ b o m n c e => by cases e; rfl⟩
  rcases hv with ⟨rfl, rfl⟩ | ⟨g, off, cap, cur, rfl, hg, hc1', hc2, hc3⟩
  · by_cases hm : ys.length = 0
    · obtain rfl : ys = [] := List.eq_nil_of_length_eq_zero hm
      have hr := runG_nothing hT ty i hi h1 W none 0 0 (Nat.le_refl _) x hs
      exact ⟨_, _, hr, Or.inl ⟨rfl, rfl⟩, Keeps.refl _ _, fun b hb => Or.inl hb, id⟩
    · exact grow none 0 rfl (by simp; omega) (run_firstCells_none (P := Try.prog) W.drew i.size 0 0 0)
  · by_cases hroom : cs.length + ys.length ≤ cap
    · have hr := runG_room hT ty i hi h1 W g off cs.length cap cur hg x ys.length ys hs hroom hc2
      refine ⟨_, _, hr, Or.inr ⟨g, off, cap, _, by rw [List.length_append], setRow_heap W g cur _ _ _ hg, by rw [List.length_append]; exact hroom, ?_, ?_⟩, ?_, ?_⟩
      · simp only [List.size_toArray, List.length_append, List.length_take, List.length_drop, Array.length_toList]; omega
      · intro k hk
        rw [List.getElem?_toArray]
        have htl : (List.take (off + cs.length) cur.toList).length = off + cs.length := by simp; omega
        by_cases hkb : k < cs.length
        · rw [List.append_assoc, List.getElem?_append_left (by rw [htl]; omega), List.getElem?_take, if_pos (by omega), List.getElem?_append_left hkb]
          have := hc3 k hkb
          simpa using this
        · rw [List.length_append] at hk
          rw [List.append_assoc, List.getElem?_append_right (by rw [htl]; omega), htl, List.getElem?_append_left (by omega), show off + k - (off + cs.length) = k - cs.length by omega, List.getElem?_append_right (by omega)]
      · exact (Keeps.refl _ W).setRow _ (Or.inl rfl)
      · exact ⟨fun b hb => Or.inl hb, fun h b o m n c e => by cases e; exact h _ _ _ _ _ rfl⟩
    · refine grow (some ⟨g, off, none⟩) cap rfl (by omega) ?_
      rw [h1]
      exact run_firstCells_some (P := Try.prog) W.drew 1 cs.length ⟨g, off, none⟩ cs.length cap cs (by rw [Nat.mul_one]) (fun j u hj => by
        have hl : j < cs.length := (List.getElem?_eq_some_iff.1 hj).1
        have hadd : (⟨g, off, none⟩ : Addr).add j = ⟨g, off + j, none⟩ := by unfold Addr.add; split <;> simp_all
        rw [hadd, ← hj]
        exact (cell_of_row W g (off + j) cur _ _ hg).trans (hc3 j hl))
end Go.Proofs.Ythmcejhcidchhaa
namespace Go.Proofs.Ythmcejhcidchhaa
open Go.RowKit
section walkapp
variable {f : Func} {r i N : Nat} {Q : Exit → Act → World → Prop} {F : List (Nat × Value)} {w : World} {L : List (Nat × Obj)} {X : List Xt}
/-- What an operation appends to what. -/
def appB (T : Array Value) (F : List (Nat × Value)) (o : Oper) : Option (Nat × TypeId × TypeId × Value × Value) := match o.dst, o.op with
  | some d, .call c => match c.callee, c.args.toList, c.argTypes.toList with
    | .builtin .append, [s, x], [t1, t2] => some (d, t1, t2, opd F T s, opd F T x)
    | _, _, _ => none
  | _, _ => none
theorem toList_two {α : Type} {a : Array α} {x y : α} (h : a.toList = [x, y]) : a = #[x, y] := by
  cases a; simp only at h; rw [h]
theorem At.app (n : Nat) (hs : List Nat) (d : Nat) {TT E : TypeId} {z : Value} {sb' : Nat} {v xv : Value} {cs ys : List Value} (j : Nat) (hj : X[j]? = some (xog E w v cs)) (hsrc : ∀ W, Sx w L X W → Src Try.prog 1 TT xv ys.length ys W) (hn : (cs.length + ys.length) * sb' ≤ 70368744177664) (hn2 : cs.length + ys.length ≤ 1000000000000)
    (k : ∀ y : Lt, y.n = (cs ++ ys).length → (Z0 v → Z0 y.sl) → At Try.prog f r (i + n + 1) Q N ((d, y.sl) :: F) w L (X.set j (xog E w y.sl (cs ++ ys))))
    (hT : Try.prog.underlying TT = some (.slice E) := by kernel_rfl) (hE : (Try.prog.info? E).map (fun i => (i.zero, i.size, i.bytes)) = some (some z, 1, sb') := by kernel_rfl) (hzs : z.cells.size = 1 := by rfl)
    (hk : ∀ T T', opL Try.prog f r i n L F hs T (appB T') = opR Try.prog f r i n L F hs T (d, TT, TT, v, xv) := by intro T T'; kernel_rfl) : At Try.prog f r i Q N F w L X := by
  intro hN T W hF hS
  refine op_run hN hF hS hk (fun T' F1 o hF' hF1 hb hw hdN => ?_)
  refine wpSeq_step fun K hK => ?_
  rw [if_pos hw]
  unfold appB at hb
  split at hb
  · rename_i d' c e1 e2
    obtain ⟨callee, args, argTypes⟩ := c
    split at hb
    · rename_i s x t1 t2 h1 h2 h3
      simp only at h1 h2 h3
      have h2 := toList_two h2
      have h3 := toList_two h3
      subst h1 h2 h3
      simp only [Option.some.injEq, Prod.mk.injEq] at hb
      obtain ⟨rfl, rfl, rfl, rfl, rfl⟩ := hb
      obtain ⟨v', W', hr, h4, h5, h6, h7⟩ := runG_app hT hE hzs o.type W _ _ cs ys (hS.og j hj) (hsrc W hS) hn hn2
      unfold Oper.wp
      rw [opd_eq hF1]
      unfold execOp
      simp only [e2, resolve, invoke, builtin, Sem.run_bind, Sem.run_pure, Result.andThen_ok, List.map_toArray, List.map_cons, List.map_nil, hr]
      obtain ⟨a, c, rfl⟩ := h4.shape
      show K ((⟨T', []⟩ : Act).put o.dst (.slice a (cs ++ ys).length c)) W'
      rw [e1]
      exact hK _ _ (k (lt0 a (cs ++ ys).length c) rfl h7 hN _ W' (hF'.put _ _ (hdN _ e1)) (hS.appg j hj h4 h5 h6))
    · cases hb
  · cases hb
end walkapp
/-- A row that a function has made, as what is appended. -/
theorem Sx.srcg {w W : World} {L : List (Nat × Obj)} {X : List Xt} (S : Sx w L X W) {TT E : TypeId} {ys : List Value} {g m c : Nat} (j : Nat) (hj : L[j]? = some (g, .cells ys.toArray E (0, 0))) (hm : m = ys.length) (hT : Try.prog.underlying TT = some (.slice E) := by kernel_rfl) (h1 : ys.all (·.oneCell') = true := by rfl) : Src Try.prog 1 TT (.slice (some ⟨g, 0, none⟩) m c) ys.length ys W := by
  subst hm
  have hrw : W.heap[g]? = some (.cells ys.toArray E (0, 0)) := S.rows _ (List.mem_of_getElem? hj)
  exact Src.ofSlice (w := W) hT ⟨g, 0, none⟩ _ c _ (by rw [Nat.mul_one]) (fun j u hj => by
    have hadd : (⟨g, 0, none⟩ : Addr).add j = ⟨g, 0 + j, none⟩ := by unfold Addr.add; split <;> simp_all
    rw [hadd, cell_of_row _ _ _ _ _ _ hrw, Nat.zero_add, List.getElem?_toArray]; exact hj) (fun u hu => List.all_eq_true.1 h1 u hu)
theorem Sx.tl {w W : World} {p : Nat × Obj} {L : List (Nat × Obj)} {X : List Xt} (h : Sx w (p :: L) X W) : Sx w L X W := ⟨h.below, fun p hp => h.rows p (List.mem_cons_of_mem _ hp), (List.pairwise_cons.1 h.apart).2, h.ext, fun p hp => h.sep p (List.mem_cons_of_mem _ hp), h.bound, h.excl⟩
/-- A row that a function has made becomes a slice of its own. -/
theorem Sx.ogrow {w W : World} {E : TypeId} {g n : Nat} {cs : List Value} {L : List (Nat × Obj)} {X : List Xt} (h : Sx w ((g, .cells cs.toArray E (0, 0)) :: L) X W) (hw : w.heap.size ≤ g) (hn : n = cs.length) : Sx w L (xog E w (.slice (some ⟨g, 0, none⟩) n n) cs :: X) W := by
  subst hn
  have hg : W.heap[g]? = some (.cells cs.toArray E (0, 0)) := h.rows _ (List.mem_cons_self ..)
  have h' : Sx w L X W := ⟨h.below, fun p hp => h.rows p (List.mem_cons_of_mem _ hp), (List.pairwise_cons.1 h.apart).2, h.ext, fun p hp => h.sep p (List.mem_cons_of_mem _ hp), h.bound, h.excl⟩
  have hb1 : ∀ b, (Value.slice (some ⟨g, 0, none⟩) cs.length cs.length).ownBlock = some b → b = g := fun b hb => by
    have hb : some g = some b := hb
    cases hb; rfl
  refine h'.addX _ ⟨Or.inr ⟨g, 0, cs.length, _, rfl, hg, Nat.le_refl _, by simp, fun i hi => by simp⟩, fun b hb => by rw [hb1 b hb]; exact hw⟩ (fun p hp e => ?_) (fun b hb => ?_) (fun q hq _ b hb hqb => ?_)
  · exact (List.pairwise_cons.1 h.apart).1 p hp (hb1 _ e).symm
  · rw [hb1 b hb]; exact lt_of_block hg
  · rw [hb1 b hb] at hqb; exact h.sep _ (List.mem_cons_self ..) q hq hqb
end Go.Proofs.Ythmcejhcidchhaa
namespace Go.Proofs.Ythmcejhcidchhaa
open Go.RowKit
section late
variable {P : Program} {K K' : Act → World → Prop} {Q : Exit → Act → World → Prop}
theorem upon_halt {o : Oper} {a : Act} {f : Halt} {W : World} (hQ : ∀ c a W, ¬ Q (.panic c) a W) : ¬ o.upon P a K Q (.halt f W) := fun h => by
  unfold Oper.upon at h
  cases f <;> first | exact hQ _ _ _ h | exact h
theorem store_same {o : Oper} {t : TypeId} {x y : Operand} {a a' : Act} {W : World} (ho : o.op = .store t x y) (hd : o.dst = none) (h1 : a.eval x = a'.eval x) (h2 : a.eval y = a'.eval y) (hQ : ∀ c a W, ¬ Q (.panic c) a W) (hK : ∀ W, K' a' W → K a W) (h : o.wp P a' W K' Q) : o.wp P a W K Q := by
  unfold Oper.wp execOp at h ⊢
  simp only [ho, Sem.run_bind, Sem.run_pure] at h ⊢
  rw [h1, h2]
  cases hs : (Instr.storeAt t (a'.eval x) (a'.eval y)).run P W with
  | ok u w' =>
    rw [hs] at h
    have h : K' (a'.put o.dst undef) w' := h
    rw [hd] at h
    show K (a.put o.dst undef) w'
    rw [hd]; exact hK w' h
  | halt f w' => rw [hs] at h; exact absurd h (upon_halt hQ)
theorem extract_run {o : Oper} {x : Operand} {n : Nat} {a : Act} (ho : o.op = .extract x n) : (∃ v, ∀ W, (execOp a.eval o).run P W = .ok (.value v) W) ∨ ∀ W, ∃ f, (execOp a.eval o).run P W = .halt f W := by
  unfold execOp
  simp only [ho, Sem.run_bind, Sem.run_pure, Instr.extract]
  split
  · split
    · rename_i v e; exact Or.inl ⟨v, fun W => rfl⟩
    · exact Or.inr fun W => ⟨_, rfl⟩
  · exact Or.inr fun W => ⟨_, rfl⟩
end late
def slotNot (d : Nat) : Operand → Bool
  | .tmp k => !(Nat.beq k d)
  | _ => true
/-- The n1-th operation is a store that waits for all ahead of it but the q-th, which takes a part out of a tuple; behind it each waits for all. -/
def lateOk (l : List Oper) (n1 q : Nat) : Bool := decide (n1 < l.length) && (decide (q < n1) && ((match l[n1]?, l[q]? with
  | some o, some oq => o.guard.isNone && (o.dst.isNone && (oq.guard.isNone && (match o.op, oq.op, oq.dst with
    | .store _ x y, .extract _ _, some d => slotNot d x && slotNot d y
    | _, _, _ => false)))
  | _, _ => false) && ((List.range l.length).all fun m => decide (m < n1) || (List.range m).all fun j => (Nat.beq m n1 && Nat.beq j q) || leans l m j)))
section
variable {P : Program} {l : List Oper} {N n1 q : Nat} {F : List (Nat × Value)} {w : World} {L : List (Nat × Obj)} {X : List Xt} {D : Dw} {E : (Nat → Lt) → List (Nat × Value)} {T0 : Array Value} {Q : Exit → Act → World → Prop}
theorem late_parts (h : lateOk l n1 q = true) : ∃ o oq t x y z n d, l[n1]? = some o ∧ l[q]? = some oq ∧ q < n1 ∧ o.guard = none ∧ o.dst = none ∧ o.op = .store t x y ∧ oq.guard = none ∧ oq.op = .extract z n ∧ oq.dst = some d ∧ slotNot d x = true ∧ slotNot d y = true ∧ (∀ m j, n1 ≤ m → m < l.length → j < m → (m = n1 ∧ j = q) ∨ leans l m j = true) := by
  unfold lateOk at h
  simp only [Bool.and_eq_true, decide_eq_true_eq] at h
  obtain ⟨h0, hq, h1, h2⟩ := h
  split at h1
  · rename_i o oq e1 e2
    simp only [Bool.and_eq_true, Option.isNone_iff_eq_none] at h1
    obtain ⟨g1, g2, g3, h1⟩ := h1
    split at h1
    · rename_i t x y z n d e3 e4 e5
      rw [Bool.and_eq_true] at h1
      refine ⟨o, oq, t, x, y, z, n, d, e1, e2, hq, g1, g2, e3, g3, e4, e5, h1.1, h1.2, fun m j hm hml hj => ?_⟩
      have h3 := List.all_eq_true.1 h2 m (List.mem_range.2 hml)
      rw [Bool.or_eq_true, decide_eq_true_eq] at h3
      rcases h3 with h3 | h3
      · omega
      · have h4 := List.all_eq_true.1 h3 j (List.mem_range.2 hj)
        simp only [Bool.or_eq_true, Bool.and_eq_true] at h4
        rcases h4 with h4 | h4
        · exact Or.inl ⟨Nat.eq_of_beq_eq_true h4.1, Nat.eq_of_beq_eq_true h4.2⟩
        · exact Or.inr h4
    · cases h1
  · cases h1
theorem slot_eval {d : Nat} {x : Operand} {T : Array Value} {v : Value} (h : slotNot d x = true) : (⟨T, []⟩ : Act).eval x = (⟨T.setIfInBounds d v, []⟩ : Act).eval x := by
  cases x with
  | tmp k =>
    simp only [slotNot, Bool.not_eq_true'] at h
    have : k ≠ d := fun e => by subst e; simp at h
    show T.getD k undef = (T.setIfInBounds d v).getD k undef
    rw [Array.getD_eq_getD_getElem?, Array.getD_eq_getD_getElem?, Array.getElem?_setIfInBounds, if_neg (Ne.symm this)]
  | _ => rfl
theorem wp_region_late {id : Nat} {a : Act} {W : World} (hm : P.follows .mixedOrders = true) (hp : Plain l N) (hlate : lateOk l n1 q = true) (hQ : ∀ c a W, ¬ Q (.panic c) a W) (hst : D.Stays) (hF : Fq N T0 F) (ha : a = ⟨T0, []⟩) {hs : List Nat} (hok : D.Ok P L F l n1 hs E) (hpf : Pf w L X (D.Hs l) (D.obs P E F l 0 (l.take n1))) (hS : Sx w L X W)
    (fin : ∀ u Ld T W', (∀ i, i < n1 → Ld i = true) → (∀ m, n1 ≤ m → m < l.length → Ld m = false) → GInv l N n1 w W L X D E T0 u Ld T W' → wpSeq P l Q (l.drop n1) ⟨T, []⟩ W') : (Code.region id l.toArray true).wp P Q a W := by
  obtain ⟨o1, oq, st, sx, sy, sz, sn, dq, hl1, hlq, hq1, g1, d1, op1, gq, opq, dstq, nx, ny, tail⟩ := late_parts hlate
  have hn1 : n1 < l.length := (List.getElem?_eq_some_iff.1 hl1).1
  have unf : ∀ {k : Nat} {o : Oper} {a : Act} {W : World}, l[k]? = some o → wpSeq P l Q (l.drop k) a W → (∀ K : Act → World → Prop, (∀ a W, wpSeq P l Q (l.drop (k + 1)) a W → K a W) → if Region.wanted o (yielded l.toArray a.tmps) = true then o.wp P a W K Q else K (a.put o.dst undef) W) := by
    intro k o a W ho h K hK
    obtain ⟨h1, h2⟩ := List.getElem?_eq_some_iff.1 ho
    rw [List.drop_eq_getElem_cons h1, h2] at h
    unfold wpSeq at h
    split
    · rename_i hw; rw [if_pos hw] at h; exact Oper.wp_mono hK h
    · rename_i hw; rw [if_neg hw] at h; exact hK _ _ h
  have wantN : ∀ {o : Oper} {T : Array Value}, o.guard = none → Region.wanted o (yielded l.toArray T) = true := fun h => by unfold Region.wanted; rw [h]
  -- the parts of the invariant: nothing of the tail; the store, the q-th not yet; the rest
  refine wp_region_inv l.length (by simp) hm (fun i o ho e he hb => hp.back i o e.on (by simpa using ho) (of_waits he hb rfl))
    (fun Ld a W' => Shut l Ld ∧ ((a.defers = [] ∧ (∀ m, n1 ≤ m → m < l.length → Ld m = false) ∧ ∃ u, GInv l N n1 w W L X D E T0 u Ld a.tmps W') ∨ ((∀ i, i < n1 → i ≠ q → Ld i = true) ∧ Ld q = false ∧ (∀ m, n1 ≤ m → m < l.length → (Ld m = true ↔ m < n1 + 1)) ∧ ∃ v, (∀ W, (execOp a.eval oq).run P W = .ok (.value v) W) ∧ wpSeq P l Q (l.drop (n1 + 1)) (a.put oq.dst v) W') ∨ ((∀ i, i < n1 → Ld i = true) ∧ ∃ k, n1 < k ∧ (∀ m, n1 ≤ m → m < l.length → (Ld m = true ↔ m < k)) ∧ wpSeq P l Q (l.drop k) a W'))) ?_ ?_ ?_
  · subst ha
    have h0 : Shut l (fun _ => false) := fun k ok _ h => Bool.noConfusion h
    have h1 : GInv l N n1 w W L X D E T0 (fun _ => lt0 none 0 0) (fun _ => false) T0 W.drew := ⟨hF.size, hS.drew, Nat.le_refl _, fun i o d v _ _ h => Bool.noConfusion h, fun _ _ => rfl, fun _ _ _ h => Bool.noConfusion h, fun _ _ _ _ _ _ h => Bool.noConfusion h, fun _ _ _ h => Bool.noConfusion h⟩
    exact ⟨h0, Or.inl ⟨rfl, fun _ _ _ => rfl, _, h1⟩⟩
  · intro i o ho Ld a W' hI hf hd
    have ho' : l[i]? = some o := by simpa using ho
    have hil : i < l.length := (List.getElem?_eq_some_iff.1 ho').1
    have hd' : ∀ j, waits o j = true → Ld j = true := fun j hj => by
      obtain ⟨e, he, hb, rfl⟩ := waits_of hj
      exact hd e he hb
    obtain ⟨hsh, hI⟩ := hI
    have hsh' : Shut l (also Ld i) := fun j oj hj hLj m hm => by
      by_cases e : j = i
      · subst e; rw [ho'] at hj; cases hj
        simp [also, hd' m hm]
      · rw [also_ne e] at hLj
        simp [also, hsh j oj hj hLj m hm]
    have hall' : ∀ j, n1 ≤ i → j < i → (i = n1 ∧ j = q) ∨ Ld j = true := fun j h1 h2 => (tail i j h1 hil h2).imp (fun h => h) fun h => leans_in hsh (fun o' k hk hw => by rw [ho'] at hk; cases hk; exact hd' k hw) h
    rcases hI with ⟨hdef, hno, u, hG⟩ | ⟨hall, hq, hkm, v, hv, hw⟩ | ⟨hall, k, hk, hkm, hw⟩
    · obtain ⟨T, ds⟩ := a
      obtain rfl : ds = [] := hdef
      by_cases hi : i < n1
      · refine Dw.step hp hst hF hok hpf hG hsh ho' hi hf hd' _ (fun u' T' W2 hG' => ⟨hsh', Or.inl ⟨rfl, fun m h1 h2 => ?_, u', hG'⟩⟩)
        rw [also_ne (by omega)]; exact hno m h1 h2
      · have hin : i = n1 := by
          rcases Nat.lt_or_ge n1 i with h1 | h1
          · have h3 : Ld n1 = true := (hall' n1 (by omega) h1).resolve_left (fun h => by omega)
            rw [hno n1 (Nat.le_refl _) (by omega)] at h3; cases h3
          · omega
        subst hin
        rw [hl1] at ho'; cases ho'
        rw [if_pos (wantN g1)]
        have halln : ∀ j, j < i → j ≠ q → Ld j = true := fun j hj hne => (hall' j (Nat.le_refl _) hj).resolve_left (fun h => hne h.2)
        cases eq : Ld q with
        | true =>
          have hall : ∀ j, j < i → Ld j = true := fun j hj => by
            by_cases e : j = q
            · rw [e]; exact eq
            · exact halln j hj e
          have h1 := unf hl1 (fin u Ld T W' hall hno hG) (fun a2 W2 => Shut l (also Ld i) ∧ wpSeq P l Q (l.drop (i + 1)) a2 W2) (fun a2 W2 h2 => ⟨hsh', h2⟩)
          rw [if_pos (wantN g1)] at h1
          refine Oper.wp_mono (fun a2 W2 h2 => ⟨h2.1, Or.inr (Or.inr ⟨fun j hj => by rw [also_ne (by omega)]; exact hall j hj, i + 1, by omega, fun m h3 h4 => ?_, h2.2⟩)⟩) h1
          by_cases e : m = i
          · subst e; simp [also]
          · rw [also_ne e, hno m h3 h4]
            constructor
            · intro h; cases h
            · intro h; omega
        | false =>
          have hdq : ∀ j, waits oq j = true → Ld j = true := fun j hj => by
            have := hp.back q oq j hlq hj
            exact halln j (by omega) (by omega)
          have hshq : Shut l (also Ld q) := fun j oj hj hLj m hm => by
            by_cases e : j = q
            · subst e; rw [hlq] at hj; cases hj
              simp [also, hdq m hm]
            · rw [also_ne e] at hLj
              simp [also, hsh j oj hj hLj m hm]
          have hstep := Dw.step hp hst hF hok hpf hG hsh hlq hq1 eq hdq (Q := Q) (fun a W => a.defers = [] ∧ ∃ u', GInv l N i w _ L X D E T0 u' (also Ld q) a.tmps W) (fun u' T' W2 hG' => ⟨rfl, u', hG'⟩)
          rw [if_pos (wantN gq)] at hstep
          rcases extract_run (P := P) (a := ⟨T, []⟩) opq with ⟨v, hv⟩ | hb
          · unfold Oper.wp at hstep
            rw [hv W'] at hstep
            obtain ⟨-, u', hG'⟩ := hstep
            have hall : ∀ j, j < i → also Ld q j = true := fun j hj => by
              by_cases e : j = q
              · subst e; simp [also]
              · rw [also_ne e]; exact halln j hj e
            have hno' : ∀ m, i ≤ m → m < l.length → also Ld q m = false := fun m h1 h2 => by rw [also_ne (by omega)]; exact hno m h1 h2
            have h1 := unf hl1 (fin u' (also Ld q) _ W' hall hno' hG') (fun a2 W2 => wpSeq P l Q (l.drop (i + 1)) a2 W2) (fun a2 W2 h2 => h2)
            rw [if_pos (wantN g1)] at h1
            have hput : ∀ {T : Array Value}, (⟨T, []⟩ : Act).put oq.dst v = ⟨T.setIfInBounds dq v, []⟩ := by intro T; rw [dstq]; rfl
            rw [hput] at h1
            refine store_same op1 d1 (slot_eval nx) (slot_eval ny) hQ (fun W2 h2 => ⟨hsh', Or.inr (Or.inl ⟨fun j hj hne => by rw [also_ne (by omega)]; exact halln j hj hne, by rw [also_ne (by omega)]; exact eq, fun m h3 h4 => ?_, v, hv, by rw [hput]; exact h2⟩)⟩) h1
            by_cases e : m = i
            · subst e; simp [also]
            · rw [also_ne e, hno m h3 h4]
              constructor
              · intro h; cases h
              · intro h; omega
          · obtain ⟨f, hf'⟩ := hb W'
            unfold Oper.wp at hstep
            rw [hf'] at hstep
            exact absurd hstep (upon_halt hQ)
    · have hiq : i = q := by
        rcases Nat.lt_or_ge i n1 with h1 | h1
        · by_cases e : i = q
          · exact e
          · rw [hall i h1 e] at hf; cases hf
        · have h3 : ¬ i < n1 + 1 := fun h => by rw [(hkm i h1 hil).2 h] at hf; cases hf
          rcases hall' q h1 (by omega) with h4 | h4
          · omega
          · rw [hq] at h4; cases h4
      subst hiq
      rw [hlq] at ho'; cases ho'
      rw [if_pos (wantN gq)]
      unfold Oper.wp
      rw [hv W']
      refine ⟨hsh', Or.inr (Or.inr ⟨fun j hj => ?_, n1 + 1, by omega, fun m h1 h3 => ?_, hw⟩)⟩
      · by_cases e : j = i
        · subst e; simp [also]
        · rw [also_ne e]; exact hall j hj e
      · rw [also_ne (by omega)]; exact hkm m h1 h3
    · have hni : n1 ≤ i := by
        rcases Nat.lt_or_ge i n1 with h1 | h1
        · rw [hall i h1] at hf; cases hf
        · exact h1
      have hki : i = k := by
        have h1 : ¬ i < k := fun h => by rw [(hkm i hni hil).2 h] at hf; cases hf
        rcases Nat.lt_or_ge k i with h2 | h2
        · have h4 : Ld k = true := by
            rcases hall' k hni h2 with h4 | h4
            · omega
            · exact h4
          have h3 := (hkm k (by omega) (by omega)).1 h4
          omega
        · omega
      subst hki
      refine unf ho' hw _ (fun a2 W2 h2 => ⟨hsh', Or.inr (Or.inr ⟨fun j hj => by rw [also_ne (by omega)]; exact hall j hj, i + 1, by omega, fun m h1 h3 => ?_, h2⟩)⟩)
      by_cases e : m = i
      · subst e; simp [also]
      · rw [also_ne e, hkm m h1 h3]; omega
  · intro Ld a W' hall hI
    rcases hI.2 with ⟨hdef, hno, u, hG⟩ | ⟨-, hq, -⟩ | ⟨-, k, hk, hkm, hw⟩
    · have := hno n1 (Nat.le_refl _) hn1
      rw [hall n1 hn1] at this; cases this
    · rw [hall q (by omega)] at hq; cases hq
    · have : l.length ≤ k := by
        rcases Nat.lt_or_ge k l.length with h1 | h1
        · have := (hkm k (by omega) h1).1 (hall k h1); omega
        · exact h1
      rw [List.drop_eq_nil_of_le this] at hw
      exact hw
variable {f : Func} {r : Nat}
/-- How a region ends. -/
def endsU (N : Nat) (w : World) (p : (Nat → Lt) → Prop) (F2 : (Nat → Lt) → List (Nat × Value)) (L2 : (Nat → Lt) → List (Nat × Obj)) (X2 : (Nat → Lt) → List Xt) (e : Exit) (a : Act) (W : World) : Prop := e = .normal ∧ ∃ u, p u ∧ ∃ T, a = ⟨T, []⟩ ∧ Fq N T (F2 u) ∧ Sx w (L2 u) (X2 u) W
theorem endsU_of {p : (Nat → Lt) → Prop} {F2 : (Nat → Lt) → List (Nat × Value)} {L2 : (Nat → Lt) → List (Nat × Obj)} {X2 : (Nat → Lt) → List Xt} (u : Nat → Lt) (hu : p u) (hk : (F2 u).map (fun p => look F p.1) = (F2 u).map (fun p => some p.2) := by kernel_rfl) (hS : ∀ W, Sx w L X W → Sx w (L2 u) (X2 u) W := by exact fun _ S => S) : ∀ T W, Fq N T F → Sx w L X W → endsU N w p F2 L2 X2 .normal ⟨T, []⟩ W :=
  fun T W hF h => ⟨rfl, u, hu, T, rfl, hF.sub hk, hS W h⟩
/-- A region that draws its order, with a store that one taking-out need not wait for. -/
theorem Cd.drLA (n1 q : Nat) (hs : List Nat) (D : Dw) (new : (Nat → Lt) → List (Nat × Value)) {L' : (Nat → Lt) → List (Nat × Obj)} {X' : (Nat → Lt) → List Xt} {Cs : List (Nat × ((Nat → Lt) → World → Prop))}
    (hst : D.Stays) (hes : D.Eqs) (hpf : Pf w L X (D.Hs (rops f r)) Cs) (hX : ∀ u W, Sx w (D.rows u ++ L) X W → (∀ m R, lookL D.Rs m = some R → R.2 (u m) W) → Sx w (L' u) (X' u) W)
    (F2 : (Nat → Lt) → List (Nat × Value)) (L2 : (Nat → Lt) → List (Nat × Obj)) (X2 : (Nat → Lt) → List Xt)
    (k : ∀ u, (∀ m A, lookL D.As m = some A → w.heap.size ≤ (u m).n) → At P f r n1 (endsU N w (fun u => ∀ m A, lookL D.As m = some A → w.heap.size ≤ (u m).n) F2 L2 X2) N (new u ++ F) w (L' u) (X' u))
    (k2 : ∀ u, (∀ m A, lookL D.As m = some A → w.heap.size ≤ (u m).n) → ∀ T W, Fq N T (F2 u) → Sx w (L2 u) (X2 u) W → Q .normal ⟨T, []⟩ W)
    (hm : P.follows .mixedOrders = true) (h1 : ((rdrawn f r).getD false && relOps N (rops f r) && lateOk (rops f r) n1 q && dstsOk N (rops f r) && keysOk D.As && D.letters.all (fun m => decide (m < n1))) = true)
    (h2 : ∀ u g T, mapI (D.stL P L F (rops f r) hs (D.E P L F (rops f r) n1 hs u) g T) 0 ((rops f r).take n1) = mapI (D.stR P L F (rops f r) hs (D.E P L F (rops f r) n1 hs u) u g T) 0 ((rops f r).take n1))
    (h3 : ∀ u y, D.letters.map (fun m => indF (rops f r) n1 m (D.E P L F (rops f r) n1 hs (upd u m y))) = D.letters.map (fun m => indF (rops f r) n1 m (D.E P L F (rops f r) n1 hs u)))
    (h4 : ∀ u, (newF (rops f r) n1 (D.E P L F (rops f r) n1 hs u) (new u), loneD (rops f r) n1 F (new u)) = ((new u).map (fun p => some p.2), true))
    (h5 : Cs = D.obs P (D.E P L F (rops f r) n1 hs) F (rops f r) 0 ((rops f r).take n1)) : Cd P (rgn f r) Q N F w L X := by
  intro T W hF hS
  simp only [Bool.and_eq_true] at h1
  obtain ⟨⟨⟨⟨⟨hd, hrel⟩, htail⟩, hN⟩, hk⟩, hlt⟩ := h1
  have hd' : rdrawn f r = some true := by
    cases e : rdrawn f r with
    | none => rw [e] at hd; cases hd
    | some b => rw [e] at hd; cases b <;> first | rfl | cases hd
  obtain ⟨id, he⟩ := rgn_drawn hd'
  rw [he]
  have hp := plain_of hrel
  have hok : D.Ok P L F (rops f r) n1 hs (D.E P L F (rops f r) n1 hs) := ⟨h2, fun u m y hl j hj hne hle => by
    have hm : m ∈ D.letters := by
      unfold Dw.letters
      rcases hl with hl | hl
      · exact List.mem_append_left _ (look_isSome hl)
      · exact List.mem_append_right _ (look_isSome hl)
    have h := List.map_inj_left.1 (h3 u y) m hm
    have h' := List.map_inj_left.1 h j (List.mem_range.2 hj)
    rw [hle, Bool.or_false] at h'
    have : Nat.beq j m = false := by
      cases e : Nat.beq j m with
      | true => exact absurd (Nat.eq_of_beq_eq_true e) hne
      | false => rfl
    rw [this] at h'
    exact h', hes⟩
  have hQ : ∀ c a W, ¬ endsU N w (fun u => ∀ m A, lookL D.As m = some A → w.heap.size ≤ (u m).n) F2 L2 X2 (.panic c) a W := fun c a W h => by cases h.1
  refine Code.wp_mono (fun e a W h => ?_) (wp_region_late (Q := endsU N w (fun u => ∀ m A, lookL D.As m = some A → w.heap.size ≤ (u m).n) F2 L2 X2) hm hp htail hQ hst hF rfl hok (h5 ▸ hpf) hS (fun u Ld T' W' hall hno hG => ?_))
  · obtain ⟨rfl, u, hu, T2, rfl, h6, h7⟩ := h
    exact k2 u hu T2 W h6 h7
  have hlet : ∀ m, m ∈ D.letters → m < n1 := fun m hm => of_decide_eq_true (List.all_eq_true.1 hlt m hm)
  refine k u (fun m A hA => ?_) hN T' W' ⟨hG.size, fun s v hs => ?_⟩ (hX u W' (hG.rows hS hk (fun p hp => hall p.1 (hlet _ (List.mem_append_left _ (List.mem_map_of_mem hp))))) (fun m R hR => hG.rs m R hR (hall m (hlet m (List.mem_append_right _ (look_isSome (by rw [hR]; rfl)))))))
  · exact Nat.le_trans hS.below.size (hG.al m A hA (hall m (hlet m (List.mem_append_left _ (look_isSome (by rw [hA]; rfl)))))).1
  · have h4' := h4 u
    simp only [Prod.mk.injEq] at h4'
    obtain ⟨hn, hl⟩ := h4'
    rw [look_app] at hs
    cases e : look (new u) s with
    | some v' =>
      rw [e] at hs
      simp only [Option.some.injEq] at hs
      subst hs
      have h := List.map_inj_left.1 hn _ (look_mem _ _ _ e)
      simp only at h
      split at h
      · rename_i j ej
        split at h
        · rename_i hj
          have hj := of_decide_eq_true hj
          obtain ⟨oj, hoj, hdj⟩ := writer_some ej
          exact hG.val j oj s v' hj hoj (hall j hj) hdj h
        · cases h
      · cases h
    | none =>
      rw [e] at hs
      simp only at hs
      by_cases hw : ∃ (i : Nat) (o : Oper), (rops f r)[i]? = some o ∧ o.dst = some s ∧ i < n1
      · obtain ⟨i, o, ho, hdo, hi⟩ := hw
        have := List.all_eq_true.1 hl o (List.mem_of_getElem? (by rw [List.getElem?_take_of_lt hi]; exact ho))
        rw [hdo] at this
        simp only [hs, e] at this
        cases this
      · rw [hG.rest s (fun i o ho hdo => ?_)]
        · exact hF.known s v hs
        · refine hno i ?_ (List.getElem?_eq_some_iff.1 ho).1
          rcases Nat.lt_or_ge i n1 with h5 | h5
          · exact absurd ⟨i, o, ho, hdo, h5⟩ hw
          · exact h5
theorem Cd.drL (n1 q : Nat) (hs : List Nat) (ks : List (Nat × Value)) (As : List (Nat × Mk)) (Rs : List (Nat × (Lt → Value) × (Lt → World → Prop))) (es : List (Nat × Value × Value)) (new : (Nat → Lt) → List (Nat × Value)) (L' : (Nat → Lt) → List (Nat × Obj)) (X' : (Nat → Lt) → List Xt) {Cs : List (Nat × ((Nat → Lt) → World → Prop))}
    (hst : Dw.Stays ⟨ks, As, Rs, es⟩) (hes : Dw.Eqs ⟨ks, As, Rs, es⟩) (hpf : Pf w L X (Dw.Hs ⟨ks, As, Rs, es⟩ (rops f r)) Cs) (hX : ∀ u W, Sx w (Dw.rows ⟨ks, As, Rs, es⟩ u ++ L) X W → (∀ m R, lookL Rs m = some R → R.2 (u m) W) → Sx w (L' u) (X' u) W)
    (F2 : (Nat → Lt) → List (Nat × Value)) (L2 : (Nat → Lt) → List (Nat × Obj)) (X2 : (Nat → Lt) → List Xt)
    (k : ∀ u, (∀ m A, lookL As m = some A → w.heap.size ≤ (u m).n) → At P f r n1 (endsU N w (fun u => ∀ m A, lookL As m = some A → w.heap.size ≤ (u m).n) F2 L2 X2) N (new u ++ F) w (L' u) (X' u))
    (k2 : ∀ u, (∀ m A, lookL As m = some A → w.heap.size ≤ (u m).n) → ∀ T W, Fq N T (F2 u) → Sx w (L2 u) (X2 u) W → Q .normal ⟨T, []⟩ W)
    (hm : P.follows .mixedOrders = true := by kernel_rfl) (h1 : ((rdrawn f r).getD false && relOps N (rops f r) && lateOk (rops f r) n1 q && dstsOk N (rops f r) && keysOk As && (Dw.letters ⟨ks, As, Rs, es⟩).all (fun m => decide (m < n1))) = true := by kernel_rfl)
    (h2 : ∀ u g T, mapI (Dw.stL ⟨ks, As, Rs, es⟩ P L F (rops f r) hs (Dw.E ⟨ks, As, Rs, es⟩ P L F (rops f r) n1 hs u) g T) 0 ((rops f r).take n1) = mapI (Dw.stR ⟨ks, As, Rs, es⟩ P L F (rops f r) hs (Dw.E ⟨ks, As, Rs, es⟩ P L F (rops f r) n1 hs u) u g T) 0 ((rops f r).take n1) := by intro u g T; kernel_rfl)
    (h3 : ∀ u y, (Dw.letters ⟨ks, As, Rs, es⟩).map (fun m => indF (rops f r) n1 m (Dw.E ⟨ks, As, Rs, es⟩ P L F (rops f r) n1 hs (upd u m y))) = (Dw.letters ⟨ks, As, Rs, es⟩).map (fun m => indF (rops f r) n1 m (Dw.E ⟨ks, As, Rs, es⟩ P L F (rops f r) n1 hs u)) := by intro u y; kernel_rfl)
    (h4 : ∀ u, (newF (rops f r) n1 (Dw.E ⟨ks, As, Rs, es⟩ P L F (rops f r) n1 hs u) (new u), loneD (rops f r) n1 F (new u)) = ((new u).map (fun p => some p.2), true) := by intro u; kernel_rfl)
    (h5 : Cs = Dw.obs ⟨ks, As, Rs, es⟩ P (Dw.E ⟨ks, As, Rs, es⟩ P L F (rops f r) n1 hs) F (rops f r) 0 ((rops f r).take n1) := by kernel_rfl) : Cd P (rgn f r) Q N F w L X :=
  Cd.drLA n1 q hs ⟨ks, As, Rs, es⟩ new hst hes hpf hX F2 L2 X2 k k2 hm h1 h2 h3 h4 h5
end
end Go.Proofs.Ythmcejhcidchhaa
namespace Go.Proofs.Ythmcejhcidchhaa
open Go.RowKit
section sem
variable {P : Program} {f : Func} {r i N : Nat} {Q : Exit → Act → World → Prop} {F : List (Nat × Value)} {w : World} {L : List (Nat × Obj)} {X : List Xt}
def semB (T : Array Value) (F : List (Nat × Value)) (o : Oper) : Option (Nat × Sem Next) := match o.dst with
  | some d => some (d, execOp (opd F T) o)
  | none => none
/-- An operation that answers one of many values, each with what it says of the world. -/
theorem At.semX {ι : Type} (n : Nat) (hs : List Nat) (d : Nat) (s : Sem Value) {V : ι → Value} {L' : ι → List (Nat × Obj)} {X' : ι → List Xt} (hv : ∀ W, Sx w L X W → ∃ y W', s.run P W = .ok (V y) W' ∧ Sx w (L' y) (X' y) W') (k : ∀ y, At P f r (i + n + 1) Q N ((d, V y) :: F) w (L' y) (X' y))
    (hk : ∀ T T', opL P f r i n L F hs T (semB T') = opR P f r i n L F hs T (d, (do pure (.value (← s)))) := by intro T T'; kernel_rfl) : At P f r i Q N F w L X := by
  intro hN T W hF hS
  refine op_run hN hF hS hk (fun T' F1 o hF' hF1 hb hw hdN => ?_)
  refine wpSeq_step fun K hK => ?_
  rw [if_pos hw]
  unfold semB at hb
  split at hb
  · rename_i d' e1
    simp only [Option.some.injEq, Prod.mk.injEq] at hb
    obtain ⟨rfl, hb⟩ := hb
    obtain ⟨y, W', hr, hS'⟩ := hv W hS
    unfold Oper.wp
    rw [opd_eq hF1, hb]
    simp only [Sem.run_bind, Sem.run_pure, hr, Result.andThen_ok]
    show K ((⟨T', []⟩ : Act).put o.dst (V y)) W'
    rw [e1]
    exact hK _ _ (k y hN _ W' (hF'.put _ _ (hdN _ e1)) hS')
  · cases hb
/-- .. one value, the world as it was. -/
theorem At.sem (n : Nat) (hs : List Nat) (d : Nat) (s : Sem Value) (v : Value) (hv : ∀ W, Sx w L X W → s.run P W = .ok v W) (k : At P f r (i + n + 1) Q N ((d, v) :: F) w L X)
    (hk : ∀ T T', opL P f r i n L F hs T (semB T') = opR P f r i n L F hs T (d, (do pure (.value (← s)))) := by intro T T'; kernel_rfl) : At P f r i Q N F w L X :=
  At.semX (ι := Unit) (V := fun _ => v) (L' := fun _ => L) (X' := fun _ => X) n hs d s (fun W hS => ⟨(), W, hv W hS, hS⟩) (fun _ => k) hk
end sem
section cutat
variable {f : Func} {r i N : Nat} {Q : Exit → Act → World → Prop} {F : List (Nat × Value)} {w : World} {L : List (Nat × Obj)} {X : List Xt}
/-- b[lo:] of a piece handed in. -/
theorem At.cutl (n : Nat) (hs : List Nat) (d : Nat) (j : Nat) {B m c lo : Nat} {A : Option Addr} {bs : List Nat} (hj : X[j]? = some (xpc B (.slice A m c) bs)) (hm : m = bs.length) (h1 : lo ≤ bs.length) (hc : bs.length ≤ c)
    (k : ∀ y : Lt, y.n = bs.length - lo → y.c = c - lo → At Try.prog f r (i + n + 1) Q N ((d, y.sl) :: F) w L (xpc B y.sl (bs.drop lo) :: X))
    (hk : ∀ T T', opL Try.prog f r i n L F hs T (semB T') = opR Try.prog f r i n L F hs T (d, (do pure (.value (← Instr.sliceAt 49 (.slice A m c) (some (.int .i64 (lo : Int))) none none)))) := by intro T T'; kernel_rfl) : At Try.prog f r i Q N F w L X := by
  subst hm
  refine At.semX (ι := {y : Lt // y.n = bs.length - lo ∧ y.c = c - lo}) (V := fun y => y.1.sl) (L' := fun _ => L) (X' := fun y => xpc B y.1.sl (bs.drop lo) :: X) n hs d _ (fun W hS => ?_) (fun y => k y.1 y.2.1 y.2.2) hk
  obtain ⟨a', e, h⟩ := piece_cut (hS.pcS j hj) lo bs.length h1 (Nat.le_refl _) hc
  rw [show (bs.drop lo).take (bs.length - lo) = bs.drop lo from List.take_of_length_le (by rw [List.length_drop]; omega)] at h
  refine ⟨⟨lt0 a' (bs.length - lo) (c - lo), rfl, rfl⟩, W, ?_, hS.cutpc j hj h⟩
  rw [run_sliceAt_slice _ _ _ _ _ _ bytes_slice, run_slice_l W 49 A bs.length c bytes_slice .i64 (lo : Int) (Int.natCast_nonneg _) (by omega), byte_size]
  simp only [Result.andThen_ok, Int.toNat_natCast, e]
/-- [32]byte(b): the address, then what stands there. -/
theorem At.arr32 (n : Nat) (hs : List Nat) (d : Nat) {b o m c : Nat} (hm : 32 ≤ m)
    (k : At Try.prog f r (i + n + 1) Q N ((d, po b o) :: F) w L X)
    (hk : ∀ T T', opL Try.prog f r i n L F hs T (semB T') = opR Try.prog f r i n L F hs T (d, (do pure (.value (← Instr.arrayAt 78 (.slice (some ⟨b, o, none⟩) m c))))) := by intro T T'; kernel_rfl) : At Try.prog f r i Q N F w L X :=
  At.sem n hs d _ _ (fun W _ => run_arrayAt W 78 _ 32 _ m c Try.underlying78 hm) k hk
/-- b[lo:] where something is left: its place. -/
theorem At.cutb (n : Nat) (hs : List Nat) (d : Nat) (j : Nat) {B m c lo : Nat} {A : Option Addr} {bs : List Nat} (hj : X[j]? = some (xpc B (.slice A m c) bs)) (hm : m = bs.length) (h1 : lo < bs.length) (hc : bs.length ≤ c)
    (k : ∀ b o, At Try.prog f r (i + n + 1) Q N ((d, .slice (some ⟨b, o, none⟩) (m - lo) (c - lo)) :: F) w L (xpc B (.slice (some ⟨b, o, none⟩) (m - lo) (c - lo)) (bs.drop lo) :: X))
    (hk : ∀ T T', opL Try.prog f r i n L F hs T (semB T') = opR Try.prog f r i n L F hs T (d, (do pure (.value (← Instr.sliceAt 49 (.slice A m c) (some (.int .i64 (lo : Int))) none none)))) := by intro T T'; kernel_rfl) : At Try.prog f r i Q N F w L X := by
  subst hm
  refine At.cutl n hs d j hj rfl (Nat.le_of_lt h1) hc (fun y hn hy => At.fact (p := ∃ b o, y.a = some ⟨b, o, none⟩) (fun W S => ?_) (fun ⟨b, o, e⟩ => ?_)) hk
  · exact S.lies 0 rfl rfl (by rw [List.length_drop]; omega)
  · have := k b o
    unfold Lt.sl
    rw [e, hn, hy]; exact this
/-- The bytes of a piece. -/
def bfn (bs : List Nat) (i : Nat) : Int := ((nth bs i : Nat) : Int)
theorem At.ld32 (n : Nat) (hs : List Nat) (d : Nat) (j : Nat) {B b o m c : Nat} {bs : List Nat} (hj : X[j]? = some (xpc B (.slice (some ⟨b, o, none⟩) m c) bs)) (h1 : 32 ≤ bs.length)
    (k : At Try.prog f r (i + n + 1) Q N ((d, .agg (row32 (bfn bs))) :: F) w L X)
    (hk : ∀ T T', opL Try.prog f r i n L F hs T (semB T') = opR Try.prog f r i n L F hs T (d, (do pure (.value (← Instr.loadAt 78 (po b o))))) := by intro T T'; kernel_rfl) : At Try.prog f r i Q N F w L X := by
  refine At.sem n hs d _ _ (fun W S => ?_) k hk
  have hl : (row32 (bfn bs)).toList.length = 32 := by unfold row32; rw [cells32_eq]; simp
  have := run_loadAt_mid (P := Try.prog) W b o 78 (row32 (bfn bs)).toList _ (fun q v hq => ?_) Try.underlying78 rfl (by rw [hl]; kernel_rfl)
  · rw [Array.toArray_toList] at this; exact this
  · have hq2 : q < 32 := by have := (List.getElem?_eq_some_iff.1 hq).1; omega
    rw [(S.pcS j hj).at q _ (by omega) rfl, ← hq, Array.getElem?_toList, row32_get _ _ hq2]; rfl
end cutat
/-- append where there is no room: a new block, whatever the old one was. -/
theorem app_new {T E : TypeId} (hT : Try.prog.underlying T = some (.slice E)) {z : Value} {sb' : Nat} (hE : (Try.prog.info? E).map (fun i => (i.zero, i.size, i.bytes)) = some (some z, 1, sb')) (hzs : z.cells.size = 1) (ty : TypeId) (W : World) {g off cap : Nat} {x : Value} {cs ys : List Value} (hc : ∀ j u, cs[j]? = some u → W.cell? ⟨g, off + j, none⟩ = some u) (hs : Src Try.prog 1 T x ys.length ys W) (hcap : cap < cs.length + ys.length) (hn : (cs.length + ys.length) * sb' ≤ 70368744177664) (hn2 : cs.length + ys.length ≤ 1000000000000) :
    ∃ y : Lt, y.n = (cs ++ ys).length ∧ ∃ W', (Builtin.append_ #[T, T] ty #[.slice (some ⟨g, off, none⟩) cs.length cap, x]).run Try.prog W = .ok y.sl W' ∧ RestG E W' y.sl (cs ++ ys) ∧ Z0 y.sl ∧ (∀ b, y.sl.ownBlock = some b → W.heap.size ≤ b) ∧ Below W.heap.size W W' := by
  obtain ⟨i, hi, hz, h1, h2⟩ := info_parts hE
  have hold : (Builtin.firstCells i.size cs.length (.slice (some ⟨g, off, none⟩) cs.length cap)).run Try.prog W.drew = .ok cs.toArray W.drew := by
    rw [h1]
    exact run_firstCells_some (P := Try.prog) W.drew 1 cs.length ⟨g, off, none⟩ cs.length cap cs (by rw [Nat.mul_one]) (fun j u hj => by
      have hadd : (⟨g, off, none⟩ : Addr).add j = ⟨g, off + j, none⟩ := by unfold Addr.add; split <;> simp_all
      rw [hadd, ← hj]
      exact (hc j u hj).trans hj.symm)
  have hfit : Builtin.nextslicecap (cs.length + ys.length) cap * i.bytes ≤ 281474976710656 := growslice_fits (by omega) (by rw [h2]; omega)
  have hr := run_append_grow_src (P := Try.prog) (w := W) T T ty E i z hT hi hz (some ⟨g, off, none⟩) cs.length cap cs hold x ys.length ys (by rw [h1]; exact hs) hcap (by omega) hfit
  have hge := grownCap_ge W (cs.length + ys.length) cap E
  generalize grownCap W (cs.length + ys.length) cap E = gc at hr hge
  refine ⟨lt0 (some ⟨W.heap.size, 0, none⟩) (cs.length + ys.length) gc, by rw [List.length_append], _, hr, Or.inr ⟨W.heap.size, 0, gc, _, by rw [List.length_append], heap_alloc_new W.drew _, by rw [List.length_append]; exact hge, ?_, ?_⟩, fun b o m n c e => by cases e; rfl, fun b hb => ?_, (Below.refl _ _).drew.alloc (Nat.le_refl _) _⟩
  · simp only [Array.size_append, List.size_toArray, List.length_append, size_zeroCells, hzs]
    omega
  · intro k hk
    rw [Nat.zero_add, Array.getElem?_append_left (by simpa using hk), List.getElem?_toArray]
  · simp [Value.ownBlock] at hb; omega
/-- What is asked of an operation by its instruction, in a region that draws: a known value, the world as it was. -/
theorem sem_ob {P : Program} {s : Sem Value} {v : Value} {W : World} (h : s.run P W = .ok v W) : ∃ (e : Ending) (w' : World), (e = .returned v ∧ Below W.heap.size W w') ∧ ∃ v', e = .returned v' ∧ (do pure (.value (← s)) : Sem Next).run P W = .ok (.value v') w' :=
  ⟨_, W, ⟨rfl, Below.refl _ _⟩, v, rfl, by simp only [Sem.run_bind, Sem.run_pure, h, Result.andThen_ok]⟩
/-- Cuts whose place is known. -/
theorem cut_l_run {b o m c lo : Nat} (h1 : lo < m) (hc : m ≤ c) (W : World) : (Instr.sliceAt 49 (.slice (some ⟨b, o, none⟩) m c) (some (.int .i64 (lo : Int))) none none).run Try.prog W = .ok (.slice (some ⟨b, o + lo, none⟩) (m - lo) (c - lo)) W := by
  have hadd : (⟨b, o, none⟩ : Addr).add (lo * 1) = ⟨b, o + lo, none⟩ := by unfold Addr.add; split <;> simp_all
  have e : sliced (some ⟨b, o, none⟩) lo m c 1 = .slice (some ⟨b, o + lo, none⟩) (m - lo) (c - lo) := by
    unfold sliced
    rw [if_neg (by omega)]
    simp only [Option.map_some, hadd]
  rw [run_sliceAt_slice _ _ _ _ _ _ bytes_slice, run_slice_l W 49 _ m c bytes_slice .i64 (lo : Int) (Int.natCast_nonneg _) (by omega), byte_size]
  simp only [Result.andThen_ok, Int.toNat_natCast, e]
section appn
variable {f : Func} {r i N : Nat} {Q : Exit → Act → World → Prop} {F : List (Nat × Value)} {w : World} {L : List (Nat × Obj)} {X : List Xt}
/-- append where there is no room. -/
theorem At.appn (n : Nat) (hs : List Nat) (d : Nat) {TT E : TypeId} {z : Value} {sb' : Nat} {g off cap k0 : Nat} {xv : Value} {cs ys : List Value} (hk0 : k0 = cs.length) (hc : ∀ W, Sx w L X W → ∀ j u, cs[j]? = some u → W.cell? ⟨g, off + j, none⟩ = some u) (hsrc : ∀ W, Sx w L X W → Src Try.prog 1 TT xv ys.length ys W) (hcap : cap < cs.length + ys.length) (hn : (cs.length + ys.length) * sb' ≤ 70368744177664) (hn2 : cs.length + ys.length ≤ 1000000000000)
    (k : ∀ y : Lt, y.n = (cs ++ ys).length → Z0 y.sl → At Try.prog f r (i + n + 1) Q N ((d, y.sl) :: F) w L (xog E w y.sl (cs ++ ys) :: X))
    (hT : Try.prog.underlying TT = some (.slice E) := by kernel_rfl) (hE : (Try.prog.info? E).map (fun i => (i.zero, i.size, i.bytes)) = some (some z, 1, sb') := by kernel_rfl) (hzs : z.cells.size = 1 := by rfl)
    (hk : ∀ T T', opL Try.prog f r i n L F hs T (appB T') = opR Try.prog f r i n L F hs T (d, TT, TT, .slice (some ⟨g, off, none⟩) k0 cap, xv) := by intro T T'; kernel_rfl) : At Try.prog f r i Q N F w L X := by
  subst hk0
  intro hN T W hF hS
  refine op_run hN hF hS hk (fun T' F1 o hF' hF1 hb hw hdN => ?_)
  refine wpSeq_step fun K hK => ?_
  rw [if_pos hw]
  unfold appB at hb
  split at hb
  · rename_i d' c e1 e2
    obtain ⟨callee, args, argTypes⟩ := c
    split at hb
    · rename_i s x t1 t2 h1 h2 h3
      simp only at h1 h2 h3
      have h2 := toList_two h2
      have h3 := toList_two h3
      subst h1 h2 h3
      simp only [Option.some.injEq, Prod.mk.injEq] at hb
      obtain ⟨rfl, rfl, rfl, hv, rfl⟩ := hb
      obtain ⟨y, hy, W', hr, h4, h5, h6, h7⟩ := app_new hT hE hzs o.type W (hc W hS) (hsrc W hS) hcap hn hn2
      unfold Oper.wp
      rw [opd_eq hF1]
      unfold execOp
      simp only [e2, resolve, invoke, builtin, Sem.run_bind, Sem.run_pure, Result.andThen_ok, List.map_toArray, List.map_cons, List.map_nil, hv, hr]
      show K ((⟨T', []⟩ : Act).put o.dst y.sl) W'
      rw [e1]
      exact hK _ _ (k y hy h5 hN _ W' (hF'.put _ _ (hdN _ e1)) (hS.madeX h7 _ ⟨h4, fun b hb => Nat.le_trans hS.below.size (h6 b hb)⟩ (fun b hb => h6 b hb) (fun b hb => h4.lt b hb)))
    · cases hb
  · cases hb
end appn
end Go.Proofs.Ythmcejhcidchhaa
namespace Go.Proofs.Ythmcejhcidchhaa
open Go.RowKit
open Ec (vp add mul neg KP GB FP On)
theorem zroot {z a : Nat} (h : z = rootN a) : z < W256 := by
  rw [h]; unfold rootN; split
  · split
    · exact mod_w (p := true) _
    · exact mod_w (p := true) _
  · decide
theorem root_z {g a z : Nat} (h : z = rootN a) (ha : a < W256) (W : World) (hr : W.heap[g]? = some (rrow true)) : Calls Try.prog 56 #[pt g, wv a] W fun e w' => e = .returned (.tuple #[wv z, .int .i64 (rootE a)]) ∧ Below W.heap.size W w' := h ▸ root_rc g a ha W hr
theorem bfn8 {bs : List Nat} (h : ∀ y, y ∈ bs → y < 256) : Bytes8 (bfn bs) := fun i => by
  unfold bfn
  have : nth bs i < 256 := by
    by_cases hi : i < bs.length
    · exact h _ (nth_mem bs i hi)
    · rw [nth_end bs i (by omega)]; decide
  omega
theorem len_eq {m k : Nat} (h : (((m : Nat) : Int) != (k : Int)) = false) : m = k := by
  have : ((m : Nat) : Int) = k := by simpa using h
  omega
/-- What curve.Parse answers. -/
def prs (bs : List Nat) : Pn × Int :=
  if bs.length = 1 ∧ nth bs 0 = 0 then (⟨0, 0, true⟩, 0)
  else if bs.length = 33 ∧ (nth bs 0 = 2 ∨ nth bs 0 = 3) then
    let x := beN (bfn (bs.drop 1)) 32
    let s := Ec.sdN (PRM true) x
    if x < PRM true ∧ rootE s = 0 then (⟨x, if nth bs 0 = 3 then Ec.fs (PRM true) 0 (rootN s) else rootN s, false⟩, 0) else (⟨0, 0, false⟩, 41)
  else (⟨0, 0, false⟩, 41)
section
variable {x k : Nat} {e : Int}
theorem ieq_t (h : (((x : Nat) : Int) == (k : Int)) = true) : x = k := by
  have : ((x : Nat) : Int) = k := by simpa using h
  omega
theorem ieq_f (h : (((x : Nat) : Int) == (k : Int)) = false) : x ≠ k := fun e => by subst e; simp at h
theorem ine_t (h : (((x : Nat) : Int) != (k : Int)) = true) : x ≠ k := fun e => by subst e; simp at h
theorem ez (h : (e != 0) = false) : e = 0 := by simpa using h
theorem en (h : (e != 0) = true) : e ≠ 0 := by simpa using h
end
section
variable {bs : List Nat} {z : Pn × Int} {x s y : Nat} (hz : z = prs bs)
include hz
theorem prs_none (h1 : bs.length = 1) (h2 : nth bs 0 = 0) : z = (⟨0, 0, true⟩, 0) := by rw [hz, prs, if_pos ⟨h1, h2⟩]
theorem prs_bad (h1 : ¬(bs.length = 1 ∧ nth bs 0 = 0)) (h2 : ¬(bs.length = 33 ∧ (nth bs 0 = 2 ∨ nth bs 0 = 3))) : z = (⟨0, 0, false⟩, 41) := by rw [hz, prs, if_neg h1, if_neg h2]
theorem prs_off (h3 : bs.length = 33) (h4 : nth bs 0 = 2 ∨ nth bs 0 = 3) (hx : x = beN (bfn (bs.drop 1)) 32) (hs : s = Ec.sdN (PRM true) x) (h5 : ¬(x < PRM true ∧ rootE s = 0)) : z = (⟨0, 0, false⟩, 41) := by
  rw [hz, prs, if_neg (fun h => by omega), if_pos ⟨h3, h4⟩]; dsimp only; rw [← hx, ← hs, if_neg h5]
theorem prs_ok (h3 : bs.length = 33) (h4 : nth bs 0 = 2 ∨ nth bs 0 = 3) (hx : x = beN (bfn (bs.drop 1)) 32) (hs : s = Ec.sdN (PRM true) x) (h5 : x < PRM true) (h6 : rootE s = 0) (hy : y = if nth bs 0 = 3 then Ec.fs (PRM true) 0 (rootN s) else rootN s) : z = (⟨x, y, false⟩, 0) := by
  rw [hz, prs, if_neg (fun h => by omega), if_pos ⟨h3, h4⟩]; dsimp only; rw [← hx, ← hs, if_pos ⟨h5, h6⟩, ← hy]
end
set_option maxRecDepth 100000 in
theorem parse_c {b o m c B : Nat} {bs : List Nat} {z : Pn × Int} (hz : z = prs bs) (hm : m = bs.length) (h0 : 0 < m) (hc : bs.length ≤ c) (h8 : ∀ y, y ∈ bs → y < 256) (w : World) (hS : Sx w [] [xpc B (.slice (some ⟨b, o, none⟩) m c) bs] w) : Calls Try.prog 28 #[.slice (some ⟨b, o, none⟩) m c] w fun e w' => e = .returned (.tuple #[pnv z.1, .int .i64 z.2]) ∧ Below w.heap.size w w' := by
 refine enterQ 68 (fun q => .seq (q 0) (.seq (.seq (q 1) (.cond (.tmp 16) (.seq (q 2) .ret) .skip)) (.seq (.seq (q 3) (.cond (.tmp 32) (.seq (q 4) .ret) .skip)) (.seq (q 5) (.seq (q 6) (.seq (q 7) (.seq (.seq (q 8) (.cond (.tmp 55) (.seq (q 9) .ret) .skip)) (.seq (.seq (q 10) (.cond (.tmp 60) (q 11) .skip)) (.seq (q 12) .ret))))))))) hS Try.func28 ?_
 refine Cd.sr ?_
 refine At.new 0 [] 2 (pcs 0 0 false) 30 fun g2 h2 => ?_
 refine At.run 1 [] [] ?_
 refine At.nx ?_
 refine Cd.seq ?_
 refine Cd.sr ?_
 refine At.run 4 [] [(11, .bool (((m : Nat) : Int) == 1))] ?_
 rcases Bool.eq_false_or_eq_true (((m : Nat) : Int) == 1) with hb | hb
 next =>
  refine At.eqv 11 (.bool (((m : Nat) : Int) == 1)) (.bool true) (congrArg _ hb) ?_
  refine At.ixs 1 [] 13 1 b o m c .i64 0 h0 ?_
  refine At.ld 0 [] 14 b (o + 0 * 1) (.int .u8 ((nth bs 0 : Nat) : Int)) (fun W S => (S.pcS 0 rfl).at 0 _ (hm ▸ h0) rfl) ?_
  refine At.run 2 [] [(16, .bool (((nth bs 0 : Nat) : Int) == 0))] ?_
  refine At.nx ?_
  rcases Bool.eq_false_or_eq_true (((nth bs 0 : Nat) : Int) == 0) with hb1 | hb1
  next =>
   refine Cd.eqv 16 (.bool (((nth bs 0 : Nat) : Int) == 0)) (.bool true) (congrArg _ hb1) ?_
   refine Cd.ct ?_
   refine Cd.sr ?_
   refine At.call 0 [] 17 (fun W S => cnone_c W) ?_
   refine At.st 0 [] 0 (pcs 0 0 true) h2 ?_
   refine At.run 1 [] [(3, .int .i64 0)] ?_
   refine At.nx ?_
   exact Cd.rv (rt r0) [] (.tuple #[.agg (pcs 0 0 true), .int .i64 0]) fun W S => ⟨by have q1 := ieq_t (k := 1) hb; have q2 := ieq_t (k := 0) hb1; rw [prs_none hz (by omega) (by omega)], S.below⟩
  next =>
   refine Cd.eqv 16 (.bool (((nth bs 0 : Nat) : Int) == 0)) (.bool false) (congrArg _ hb1) ?_
   refine Cd.cf ?_
   refine Cd.sk ?_
   show Cd _ _ _ _ _ _ _ _
   refine Cd.seq ?_
   refine Cd.sr ?_
   refine At.run 4 [] [(21, .bool (((m : Nat) : Int) != 33))] ?_
   rcases Bool.eq_false_or_eq_true (((m : Nat) : Int) != 33) with hb2 | hb2
   next =>
    refine At.eqv 21 (.bool (((m : Nat) : Int) != 33)) (.bool true) (congrArg _ hb2) ?_
    refine At.run 11 [] [(32, .bool true)] ?_
    refine At.nx ?_
    refine Cd.ct ?_
    refine Cd.sr ?_
    refine At.st 1 [] 0 (pcs 0 0 false) h2 ?_
    refine At.run 1 [] [(3, .int .i64 41)] ?_
    refine At.nx ?_
    exact Cd.rv (rt r0) [] (.tuple #[.agg (pcs 0 0 false), .int .i64 41]) fun W S => ⟨by have q1 := ieq_t (k := 1) hb; have q2 := ieq_f (k := 0) hb1; have q3 := ine_t (k := 33) hb2; rw [prs_bad hz (by omega) (by omega)], S.below⟩
   next =>
    refine At.eqv 21 (.bool (((m : Nat) : Int) != 33)) (.bool false) (congrArg _ hb2) ?_
    refine At.ixs 1 [] 23 1 b o m c .i64 0 h0 ?_
    refine At.ld 0 [] 24 b (o + 0 * 1) (.int .u8 ((nth bs 0 : Nat) : Int)) (fun W S => (S.pcS 0 rfl).at 0 _ (hm ▸ h0) rfl) ?_
    refine At.run 2 [] [(26, .bool (((nth bs 0 : Nat) : Int) != 2))] ?_
    rcases Bool.eq_false_or_eq_true (((nth bs 0 : Nat) : Int) != 2) with hb3 | hb3
    next =>
     refine At.eqv 26 (.bool (((nth bs 0 : Nat) : Int) != 2)) (.bool true) (congrArg _ hb3) ?_
     refine At.ixs 1 [] 28 1 b o m c .i64 0 h0 ?_
     refine At.ld 0 [] 29 b (o + 0 * 1) (.int .u8 ((nth bs 0 : Nat) : Int)) (fun W S => (S.pcS 0 rfl).at 0 _ (hm ▸ h0) rfl) ?_
     refine At.run 3 [] [(32, .bool (((nth bs 0 : Nat) : Int) != 3))] ?_
     refine At.nx ?_
     rcases Bool.eq_false_or_eq_true (((nth bs 0 : Nat) : Int) != 3) with hb4 | hb4
     next =>
      refine Cd.eqv 32 (.bool (((nth bs 0 : Nat) : Int) != 3)) (.bool true) (congrArg _ hb4) ?_
      refine Cd.ct ?_
      refine Cd.sr ?_
      refine At.st 1 [] 0 (pcs 0 0 false) h2 ?_
      refine At.run 1 [] [(3, .int .i64 41)] ?_
      refine At.nx ?_
      exact Cd.rv (rt r0) [] (.tuple #[.agg (pcs 0 0 false), .int .i64 41]) fun W S => ⟨by have q1 := ieq_t (k := 1) hb; have q2 := ieq_f (k := 0) hb1; have q3 := len_eq (k := 33) hb2; have q4 := ine_t (k := 2) hb3; have q5 := ine_t (k := 3) hb4; rw [prs_bad hz (by omega) (by omega)], S.below⟩
     next =>
      refine Cd.eqv 32 (.bool (((nth bs 0 : Nat) : Int) != 3)) (.bool false) (congrArg _ hb4) ?_
      refine Cd.cf ?_
      refine Cd.sk ?_
      show Cd _ _ _ _ _ _ _ _
      refine Cd.sr ?_
      refine At.callX 0 [] 34 (fun W S => P_x (by kernel_rfl) rfl W S) fun gp1 => ?_
      refine At.run 1 [] [(4, pt gp1)] ?_
      refine At.nx ?_
      have h33 : m = 33 := len_eq (k := 33) hb2
      refine Cd.sr ?_
      refine At.cutb 1 [] 36 1 (lo := 1) rfl hm (by omega) hc fun b1 o1 => ?_
      refine At.arr32 (b := b1) (o := o1) (m := m - 1) (c := c - 1) 0 [] 37 (by omega : 32 ≤ m - 1) ?_
      refine At.ld32 0 [] 38 0 rfl (by rw [List.length_drop]; omega) ?_
      obtain ⟨n2, en2⟩ : ∃ zz, zz = beN (bfn (bs.drop 1)) 32 := ⟨_, rfl⟩
      refine At.call 0 [] 39 (fun W S => from_z (bfn8 fun y hy => h8 y (List.mem_of_mem_drop hy)) en2 W) ?_
      refine At.new 0 [] 5 (limbs4 0) 28 fun g5 h5 => ?_
      refine At.st 0 [] 0 (limbs4 n2) h5 ?_
      refine At.nx ?_
      refine Cd.sr ?_
      obtain ⟨n3, en3⟩ : ∃ zz, zz = Ec.sdN (PRM true) n2 := ⟨_, rfl⟩
      refine At.run 3 [] [(41, pt gp1), (42, pt gp1), (43, wv n2)] ?_
      refine At.call 0 [] 44 (fun W S => side_z en3 (zbe (bfn8 fun y hy => h8 y (List.mem_of_mem_drop hy)) en2) W (S.x 1 rfl)) ?_
      obtain ⟨n4, en4⟩ : ∃ zz, zz = rootN n3 := ⟨_, rfl⟩
      refine At.call 0 [] 45 (fun W S => root_z en4 (zsd en3) W (S.x 1 rfl)) ?_
      refine At.run 3 [] [(46, wv n4), (47, .int .i64 (rootE n3))] ?_
      refine At.new 0 [] 6 (limbs4 0) 28 fun g6 h6 => ?_
      refine At.st 0 [] 0 (limbs4 n4) h6 ?_
      refine At.run 1 [] [(7, .int .i64 (rootE n3))] ?_
      refine At.nx ?_
      refine Cd.seq ?_
      refine Cd.sr ?_
      refine At.call 2 [0, 1] 50 (fun W S => in_z (zbe (bfn8 fun y hy => h8 y (List.mem_of_mem_drop hy)) en2) W (S.x 1 rfl)) ?_
      rcases Bool.eq_false_or_eq_true (decide (n2 < PRM true)) with hb5 | hb5
      next =>
       refine At.eqv 50 (.bool (decide (n2 < PRM true))) (.bool true) (congrArg _ hb5) ?_
       refine At.run 5 [] [(55, .bool ((rootE n3) != 0))] ?_
       refine At.nx ?_
       rcases Bool.eq_false_or_eq_true ((rootE n3) != 0) with hb6 | hb6
       next =>
        refine Cd.eqv 55 (.bool ((rootE n3) != 0)) (.bool true) (congrArg _ hb6) ?_
        refine Cd.ct ?_
        refine Cd.sr ?_
        refine At.st 1 [] 2 (pcs 0 0 false) h2 ?_
        refine At.run 1 [] [(3, .int .i64 41)] ?_
        refine At.nx ?_
        exact Cd.rv (rt r0) [2] (.tuple #[.agg (pcs 0 0 false), .int .i64 41]) fun W S => ⟨by have q1 := ieq_t (k := 1) hb; have q2 := ieq_f (k := 0) hb1; have q3 := len_eq (k := 33) hb2; have q4 := ine_t (k := 2) hb3; have q5 := len_eq (k := 3) hb4; first | (exfalso; omega) | rw [prs_off hz (by omega) (by omega) en2 en3 (fun h => absurd h.2 (en hb6))], S.below⟩
       next =>
        refine Cd.eqv 55 (.bool ((rootE n3) != 0)) (.bool false) (congrArg _ hb6) ?_
        refine Cd.cf ?_
        refine Cd.sk ?_
        show Cd _ _ _ _ _ _ _ _
        refine Cd.seq ?_
        refine Cd.sr ?_
        refine At.ixs 1 [] 58 1 b o m c .i64 0 h0 ?_
        refine At.ld 0 [] 59 b (o + 0 * 1) (.int .u8 ((nth bs 0 : Nat) : Int)) (fun W S => (S.pcS 2 rfl).at 0 _ (hm ▸ h0) rfl) ?_
        refine At.run 1 [] [(60, .bool (((nth bs 0 : Nat) : Int) == 3))] ?_
        refine At.nx ?_
        rcases Bool.eq_false_or_eq_true (((nth bs 0 : Nat) : Int) == 3) with hb7 | hb7
        next =>
         refine Cd.eqv 60 (.bool (((nth bs 0 : Nat) : Int) == 3)) (.bool true) (congrArg _ hb7) ?_
         refine Cd.ct ?_
         refine Cd.rg ?_
         obtain ⟨n5, en5⟩ : ∃ zz, zz = Ec.fs (PRM true) 0 n4 := ⟨_, rfl⟩
         refine At.call 3 [] 64 (fun W S => sub_z en5 (by decide) (zroot en4) W (S.x 1 rfl)) ?_
         refine At.st 0 [] 0 (limbs4 n5) h6 ?_
         refine At.fin ?_
         show Cd _ _ _ _ _ _ _ _
         refine Cd.sr ?_
         refine At.st 3 [1] 2 (pcs n2 n5 false) h2 ?_
         refine At.run 1 [] [(3, .int .i64 0)] ?_
         refine At.nx ?_
         exact Cd.rv r0 [2] (.tuple #[.agg (pcs n2 n5 false), .int .i64 0]) fun W S => ⟨by have q1 := ieq_t (k := 1) hb; have q2 := ieq_f (k := 0) hb1; have q3 := len_eq (k := 33) hb2; have q4 := ine_t (k := 2) hb3; have q5 := len_eq (k := 3) hb4; have q8 := ieq_t (k := 3) hb7; first | (exfalso; omega) | rw [prs_ok hz (by omega) (by omega) en2 en3 (of_decide_eq_true hb5) (ez hb6) (show n5 = _ by rw [if_pos q8, en5, en4])], S.below⟩
        next =>
         refine Cd.eqv 60 (.bool (((nth bs 0 : Nat) : Int) == 3)) (.bool false) (congrArg _ hb7) ?_
         refine Cd.cf ?_
         refine Cd.sk ?_
         show Cd _ _ _ _ _ _ _ _
         refine Cd.sr ?_
         refine At.st 3 [1] 2 (pcs n2 n4 false) h2 ?_
         refine At.run 1 [] [(3, .int .i64 0)] ?_
         refine At.nx ?_
         exact Cd.rv r0 [2] (.tuple #[.agg (pcs n2 n4 false), .int .i64 0]) fun W S => ⟨by have q1 := ieq_t (k := 1) hb; have q2 := ieq_f (k := 0) hb1; have q3 := len_eq (k := 33) hb2; have q4 := ine_t (k := 2) hb3; have q5 := len_eq (k := 3) hb4; have q8 := ieq_f (k := 3) hb7; first | (exfalso; omega) | rw [prs_ok hz (by omega) (by omega) en2 en3 (of_decide_eq_true hb5) (ez hb6) (show n4 = _ by rw [if_neg q8, en4])], S.below⟩
      next =>
       refine At.eqv 50 (.bool (decide (n2 < PRM true))) (.bool false) (congrArg _ hb5) ?_
       refine At.run 5 [] [(55, .bool true)] ?_
       refine At.nx ?_
       refine Cd.ct ?_
       refine Cd.sr ?_
       refine At.st 1 [] 2 (pcs 0 0 false) h2 ?_
       refine At.run 1 [] [(3, .int .i64 41)] ?_
       refine At.nx ?_
       exact Cd.rv (rt r0) [2] (.tuple #[.agg (pcs 0 0 false), .int .i64 41]) fun W S => ⟨by have q1 := ieq_t (k := 1) hb; have q2 := ieq_f (k := 0) hb1; have q3 := len_eq (k := 33) hb2; have q4 := ine_t (k := 2) hb3; have q5 := len_eq (k := 3) hb4; first | (exfalso; omega) | rw [prs_off hz (by omega) (by omega) en2 en3 (fun h => absurd h.1 (of_decide_eq_false hb5))], S.below⟩
    next =>
     refine At.eqv 26 (.bool (((nth bs 0 : Nat) : Int) != 2)) (.bool false) (congrArg _ hb3) ?_
     refine At.run 6 [] [(32, .bool false)] ?_
     refine At.nx ?_
     refine Cd.cf ?_
     refine Cd.sk ?_
     show Cd _ _ _ _ _ _ _ _
     refine Cd.sr ?_
     refine At.callX 0 [] 34 (fun W S => P_x (by kernel_rfl) rfl W S) fun gp6 => ?_
     refine At.run 1 [] [(4, pt gp6)] ?_
     refine At.nx ?_
     have h33 : m = 33 := len_eq (k := 33) hb2
     refine Cd.sr ?_
     refine At.cutb 1 [] 36 1 (lo := 1) rfl hm (by omega) hc fun b1 o1 => ?_
     refine At.arr32 (b := b1) (o := o1) (m := m - 1) (c := c - 1) 0 [] 37 (by omega : 32 ≤ m - 1) ?_
     refine At.ld32 0 [] 38 0 rfl (by rw [List.length_drop]; omega) ?_
     obtain ⟨n7, en7⟩ : ∃ zz, zz = beN (bfn (bs.drop 1)) 32 := ⟨_, rfl⟩
     refine At.call 0 [] 39 (fun W S => from_z (bfn8 fun y hy => h8 y (List.mem_of_mem_drop hy)) en7 W) ?_
     refine At.new 0 [] 5 (limbs4 0) 28 fun g5 h5 => ?_
     refine At.st 0 [] 0 (limbs4 n7) h5 ?_
     refine At.nx ?_
     refine Cd.sr ?_
     obtain ⟨n8, en8⟩ : ∃ zz, zz = Ec.sdN (PRM true) n7 := ⟨_, rfl⟩
     refine At.run 3 [] [(41, pt gp6), (42, pt gp6), (43, wv n7)] ?_
     refine At.call 0 [] 44 (fun W S => side_z en8 (zbe (bfn8 fun y hy => h8 y (List.mem_of_mem_drop hy)) en7) W (S.x 1 rfl)) ?_
     obtain ⟨n9, en9⟩ : ∃ zz, zz = rootN n8 := ⟨_, rfl⟩
     refine At.call 0 [] 45 (fun W S => root_z en9 (zsd en8) W (S.x 1 rfl)) ?_
     refine At.run 3 [] [(46, wv n9), (47, .int .i64 (rootE n8))] ?_
     refine At.new 0 [] 6 (limbs4 0) 28 fun g6 h6 => ?_
     refine At.st 0 [] 0 (limbs4 n9) h6 ?_
     refine At.run 1 [] [(7, .int .i64 (rootE n8))] ?_
     refine At.nx ?_
     refine Cd.seq ?_
     refine Cd.sr ?_
     refine At.call 2 [0, 1] 50 (fun W S => in_z (zbe (bfn8 fun y hy => h8 y (List.mem_of_mem_drop hy)) en7) W (S.x 1 rfl)) ?_
     rcases Bool.eq_false_or_eq_true (decide (n7 < PRM true)) with hb4 | hb4
     next =>
      refine At.eqv 50 (.bool (decide (n7 < PRM true))) (.bool true) (congrArg _ hb4) ?_
      refine At.run 5 [] [(55, .bool ((rootE n8) != 0))] ?_
      refine At.nx ?_
      rcases Bool.eq_false_or_eq_true ((rootE n8) != 0) with hb5 | hb5
      next =>
       refine Cd.eqv 55 (.bool ((rootE n8) != 0)) (.bool true) (congrArg _ hb5) ?_
       refine Cd.ct ?_
       refine Cd.sr ?_
       refine At.st 1 [] 2 (pcs 0 0 false) h2 ?_
       refine At.run 1 [] [(3, .int .i64 41)] ?_
       refine At.nx ?_
       exact Cd.rv (rt r0) [2] (.tuple #[.agg (pcs 0 0 false), .int .i64 41]) fun W S => ⟨by have q1 := ieq_t (k := 1) hb; have q2 := ieq_f (k := 0) hb1; have q3 := len_eq (k := 33) hb2; have q4 := len_eq (k := 2) hb3; first | (exfalso; omega) | rw [prs_off hz (by omega) (by omega) en7 en8 (fun h => absurd h.2 (en hb5))], S.below⟩
      next =>
       refine Cd.eqv 55 (.bool ((rootE n8) != 0)) (.bool false) (congrArg _ hb5) ?_
       refine Cd.cf ?_
       refine Cd.sk ?_
       show Cd _ _ _ _ _ _ _ _
       refine Cd.seq ?_
       refine Cd.sr ?_
       refine At.ixs 1 [] 58 1 b o m c .i64 0 h0 ?_
       refine At.ld 0 [] 59 b (o + 0 * 1) (.int .u8 ((nth bs 0 : Nat) : Int)) (fun W S => (S.pcS 2 rfl).at 0 _ (hm ▸ h0) rfl) ?_
       refine At.run 1 [] [(60, .bool (((nth bs 0 : Nat) : Int) == 3))] ?_
       refine At.nx ?_
       rcases Bool.eq_false_or_eq_true (((nth bs 0 : Nat) : Int) == 3) with hb6 | hb6
       next =>
        refine Cd.eqv 60 (.bool (((nth bs 0 : Nat) : Int) == 3)) (.bool true) (congrArg _ hb6) ?_
        refine Cd.ct ?_
        refine Cd.rg ?_
        obtain ⟨n10, en10⟩ : ∃ zz, zz = Ec.fs (PRM true) 0 n9 := ⟨_, rfl⟩
        refine At.call 3 [] 64 (fun W S => sub_z en10 (by decide) (zroot en9) W (S.x 1 rfl)) ?_
        refine At.st 0 [] 0 (limbs4 n10) h6 ?_
        refine At.fin ?_
        show Cd _ _ _ _ _ _ _ _
        refine Cd.sr ?_
        refine At.st 3 [1] 2 (pcs n7 n10 false) h2 ?_
        refine At.run 1 [] [(3, .int .i64 0)] ?_
        refine At.nx ?_
        exact Cd.rv r0 [2] (.tuple #[.agg (pcs n7 n10 false), .int .i64 0]) fun W S => ⟨by have q1 := ieq_t (k := 1) hb; have q2 := ieq_f (k := 0) hb1; have q3 := len_eq (k := 33) hb2; have q4 := len_eq (k := 2) hb3; have q7 := ieq_t (k := 3) hb6; first | (exfalso; omega) | rw [prs_ok hz (by omega) (by omega) en7 en8 (of_decide_eq_true hb4) (ez hb5) (show n10 = _ by rw [if_pos q7, en10, en9])], S.below⟩
       next =>
        refine Cd.eqv 60 (.bool (((nth bs 0 : Nat) : Int) == 3)) (.bool false) (congrArg _ hb6) ?_
        refine Cd.cf ?_
        refine Cd.sk ?_
        show Cd _ _ _ _ _ _ _ _
        refine Cd.sr ?_
        refine At.st 3 [1] 2 (pcs n7 n9 false) h2 ?_
        refine At.run 1 [] [(3, .int .i64 0)] ?_
        refine At.nx ?_
        exact Cd.rv r0 [2] (.tuple #[.agg (pcs n7 n9 false), .int .i64 0]) fun W S => ⟨by have q1 := ieq_t (k := 1) hb; have q2 := ieq_f (k := 0) hb1; have q3 := len_eq (k := 33) hb2; have q4 := len_eq (k := 2) hb3; have q7 := ieq_f (k := 3) hb6; first | (exfalso; omega) | rw [prs_ok hz (by omega) (by omega) en7 en8 (of_decide_eq_true hb4) (ez hb5) (show n9 = _ by rw [if_neg q7, en9])], S.below⟩
     next =>
      refine At.eqv 50 (.bool (decide (n7 < PRM true))) (.bool false) (congrArg _ hb4) ?_
      refine At.run 5 [] [(55, .bool true)] ?_
      refine At.nx ?_
      refine Cd.ct ?_
      refine Cd.sr ?_
      refine At.st 1 [] 2 (pcs 0 0 false) h2 ?_
      refine At.run 1 [] [(3, .int .i64 41)] ?_
      refine At.nx ?_
      exact Cd.rv (rt r0) [2] (.tuple #[.agg (pcs 0 0 false), .int .i64 41]) fun W S => ⟨by have q1 := ieq_t (k := 1) hb; have q2 := ieq_f (k := 0) hb1; have q3 := len_eq (k := 33) hb2; have q4 := len_eq (k := 2) hb3; first | (exfalso; omega) | rw [prs_off hz (by omega) (by omega) en7 en8 (fun h => absurd h.1 (of_decide_eq_false hb4))], S.below⟩
 next =>
  refine At.eqv 11 (.bool (((m : Nat) : Int) == 1)) (.bool false) (congrArg _ hb) ?_
  refine At.run 5 [] [(16, .bool false)] ?_
  refine At.nx ?_
  refine Cd.cf ?_
  refine Cd.sk ?_
  show Cd _ _ _ _ _ _ _ _
  refine Cd.seq ?_
  refine Cd.sr ?_
  refine At.run 4 [] [(21, .bool (((m : Nat) : Int) != 33))] ?_
  rcases Bool.eq_false_or_eq_true (((m : Nat) : Int) != 33) with hb1 | hb1
  next =>
   refine At.eqv 21 (.bool (((m : Nat) : Int) != 33)) (.bool true) (congrArg _ hb1) ?_
   refine At.run 11 [] [(32, .bool true)] ?_
   refine At.nx ?_
   refine Cd.ct ?_
   refine Cd.sr ?_
   refine At.st 1 [] 0 (pcs 0 0 false) h2 ?_
   refine At.run 1 [] [(3, .int .i64 41)] ?_
   refine At.nx ?_
   exact Cd.rv (rt r0) [] (.tuple #[.agg (pcs 0 0 false), .int .i64 41]) fun W S => ⟨by have q1 := ieq_f (k := 1) hb; have q2 := ine_t (k := 33) hb1; rw [prs_bad hz (by omega) (by omega)], S.below⟩
  next =>
   refine At.eqv 21 (.bool (((m : Nat) : Int) != 33)) (.bool false) (congrArg _ hb1) ?_
   refine At.ixs 1 [] 23 1 b o m c .i64 0 h0 ?_
   refine At.ld 0 [] 24 b (o + 0 * 1) (.int .u8 ((nth bs 0 : Nat) : Int)) (fun W S => (S.pcS 0 rfl).at 0 _ (hm ▸ h0) rfl) ?_
   refine At.run 2 [] [(26, .bool (((nth bs 0 : Nat) : Int) != 2))] ?_
   rcases Bool.eq_false_or_eq_true (((nth bs 0 : Nat) : Int) != 2) with hb2 | hb2
   next =>
    refine At.eqv 26 (.bool (((nth bs 0 : Nat) : Int) != 2)) (.bool true) (congrArg _ hb2) ?_
    refine At.ixs 1 [] 28 1 b o m c .i64 0 h0 ?_
    refine At.ld 0 [] 29 b (o + 0 * 1) (.int .u8 ((nth bs 0 : Nat) : Int)) (fun W S => (S.pcS 0 rfl).at 0 _ (hm ▸ h0) rfl) ?_
    refine At.run 3 [] [(32, .bool (((nth bs 0 : Nat) : Int) != 3))] ?_
    refine At.nx ?_
    rcases Bool.eq_false_or_eq_true (((nth bs 0 : Nat) : Int) != 3) with hb3 | hb3
    next =>
     refine Cd.eqv 32 (.bool (((nth bs 0 : Nat) : Int) != 3)) (.bool true) (congrArg _ hb3) ?_
     refine Cd.ct ?_
     refine Cd.sr ?_
     refine At.st 1 [] 0 (pcs 0 0 false) h2 ?_
     refine At.run 1 [] [(3, .int .i64 41)] ?_
     refine At.nx ?_
     exact Cd.rv (rt r0) [] (.tuple #[.agg (pcs 0 0 false), .int .i64 41]) fun W S => ⟨by have q1 := ieq_f (k := 1) hb; have q2 := len_eq (k := 33) hb1; have q3 := ine_t (k := 2) hb2; have q4 := ine_t (k := 3) hb3; rw [prs_bad hz (by omega) (by omega)], S.below⟩
    next =>
     refine Cd.eqv 32 (.bool (((nth bs 0 : Nat) : Int) != 3)) (.bool false) (congrArg _ hb3) ?_
     refine Cd.cf ?_
     refine Cd.sk ?_
     show Cd _ _ _ _ _ _ _ _
     refine Cd.sr ?_
     refine At.callX 0 [] 34 (fun W S => P_x (by kernel_rfl) rfl W S) fun gp11 => ?_
     refine At.run 1 [] [(4, pt gp11)] ?_
     refine At.nx ?_
     have h33 : m = 33 := len_eq (k := 33) hb1
     refine Cd.sr ?_
     refine At.cutb 1 [] 36 1 (lo := 1) rfl hm (by omega) hc fun b1 o1 => ?_
     refine At.arr32 (b := b1) (o := o1) (m := m - 1) (c := c - 1) 0 [] 37 (by omega : 32 ≤ m - 1) ?_
     refine At.ld32 0 [] 38 0 rfl (by rw [List.length_drop]; omega) ?_
     obtain ⟨n12, en12⟩ : ∃ zz, zz = beN (bfn (bs.drop 1)) 32 := ⟨_, rfl⟩
     refine At.call 0 [] 39 (fun W S => from_z (bfn8 fun y hy => h8 y (List.mem_of_mem_drop hy)) en12 W) ?_
     refine At.new 0 [] 5 (limbs4 0) 28 fun g5 h5 => ?_
     refine At.st 0 [] 0 (limbs4 n12) h5 ?_
     refine At.nx ?_
     refine Cd.sr ?_
     obtain ⟨n13, en13⟩ : ∃ zz, zz = Ec.sdN (PRM true) n12 := ⟨_, rfl⟩
     refine At.run 3 [] [(41, pt gp11), (42, pt gp11), (43, wv n12)] ?_
     refine At.call 0 [] 44 (fun W S => side_z en13 (zbe (bfn8 fun y hy => h8 y (List.mem_of_mem_drop hy)) en12) W (S.x 1 rfl)) ?_
     obtain ⟨n14, en14⟩ : ∃ zz, zz = rootN n13 := ⟨_, rfl⟩
     refine At.call 0 [] 45 (fun W S => root_z en14 (zsd en13) W (S.x 1 rfl)) ?_
     refine At.run 3 [] [(46, wv n14), (47, .int .i64 (rootE n13))] ?_
     refine At.new 0 [] 6 (limbs4 0) 28 fun g6 h6 => ?_
     refine At.st 0 [] 0 (limbs4 n14) h6 ?_
     refine At.run 1 [] [(7, .int .i64 (rootE n13))] ?_
     refine At.nx ?_
     refine Cd.seq ?_
     refine Cd.sr ?_
     refine At.call 2 [0, 1] 50 (fun W S => in_z (zbe (bfn8 fun y hy => h8 y (List.mem_of_mem_drop hy)) en12) W (S.x 1 rfl)) ?_
     rcases Bool.eq_false_or_eq_true (decide (n12 < PRM true)) with hb4 | hb4
     next =>
      refine At.eqv 50 (.bool (decide (n12 < PRM true))) (.bool true) (congrArg _ hb4) ?_
      refine At.run 5 [] [(55, .bool ((rootE n13) != 0))] ?_
      refine At.nx ?_
      rcases Bool.eq_false_or_eq_true ((rootE n13) != 0) with hb5 | hb5
      next =>
       refine Cd.eqv 55 (.bool ((rootE n13) != 0)) (.bool true) (congrArg _ hb5) ?_
       refine Cd.ct ?_
       refine Cd.sr ?_
       refine At.st 1 [] 2 (pcs 0 0 false) h2 ?_
       refine At.run 1 [] [(3, .int .i64 41)] ?_
       refine At.nx ?_
       exact Cd.rv (rt r0) [2] (.tuple #[.agg (pcs 0 0 false), .int .i64 41]) fun W S => ⟨by have q1 := ieq_f (k := 1) hb; have q2 := len_eq (k := 33) hb1; have q3 := ine_t (k := 2) hb2; have q4 := len_eq (k := 3) hb3; first | (exfalso; omega) | rw [prs_off hz (by omega) (by omega) en12 en13 (fun h => absurd h.2 (en hb5))], S.below⟩
      next =>
       refine Cd.eqv 55 (.bool ((rootE n13) != 0)) (.bool false) (congrArg _ hb5) ?_
       refine Cd.cf ?_
       refine Cd.sk ?_
       show Cd _ _ _ _ _ _ _ _
       refine Cd.seq ?_
       refine Cd.sr ?_
       refine At.ixs 1 [] 58 1 b o m c .i64 0 h0 ?_
       refine At.ld 0 [] 59 b (o + 0 * 1) (.int .u8 ((nth bs 0 : Nat) : Int)) (fun W S => (S.pcS 2 rfl).at 0 _ (hm ▸ h0) rfl) ?_
       refine At.run 1 [] [(60, .bool (((nth bs 0 : Nat) : Int) == 3))] ?_
       refine At.nx ?_
       rcases Bool.eq_false_or_eq_true (((nth bs 0 : Nat) : Int) == 3) with hb6 | hb6
       next =>
        refine Cd.eqv 60 (.bool (((nth bs 0 : Nat) : Int) == 3)) (.bool true) (congrArg _ hb6) ?_
        refine Cd.ct ?_
        refine Cd.rg ?_
        obtain ⟨n15, en15⟩ : ∃ zz, zz = Ec.fs (PRM true) 0 n14 := ⟨_, rfl⟩
        refine At.call 3 [] 64 (fun W S => sub_z en15 (by decide) (zroot en14) W (S.x 1 rfl)) ?_
        refine At.st 0 [] 0 (limbs4 n15) h6 ?_
        refine At.fin ?_
        show Cd _ _ _ _ _ _ _ _
        refine Cd.sr ?_
        refine At.st 3 [1] 2 (pcs n12 n15 false) h2 ?_
        refine At.run 1 [] [(3, .int .i64 0)] ?_
        refine At.nx ?_
        exact Cd.rv r0 [2] (.tuple #[.agg (pcs n12 n15 false), .int .i64 0]) fun W S => ⟨by have q1 := ieq_f (k := 1) hb; have q2 := len_eq (k := 33) hb1; have q3 := ine_t (k := 2) hb2; have q4 := len_eq (k := 3) hb3; have q7 := ieq_t (k := 3) hb6; first | (exfalso; omega) | rw [prs_ok hz (by omega) (by omega) en12 en13 (of_decide_eq_true hb4) (ez hb5) (show n15 = _ by rw [if_pos q7, en15, en14])], S.below⟩
       next =>
        refine Cd.eqv 60 (.bool (((nth bs 0 : Nat) : Int) == 3)) (.bool false) (congrArg _ hb6) ?_
        refine Cd.cf ?_
        refine Cd.sk ?_
        show Cd _ _ _ _ _ _ _ _
        refine Cd.sr ?_
        refine At.st 3 [1] 2 (pcs n12 n14 false) h2 ?_
        refine At.run 1 [] [(3, .int .i64 0)] ?_
        refine At.nx ?_
        exact Cd.rv r0 [2] (.tuple #[.agg (pcs n12 n14 false), .int .i64 0]) fun W S => ⟨by have q1 := ieq_f (k := 1) hb; have q2 := len_eq (k := 33) hb1; have q3 := ine_t (k := 2) hb2; have q4 := len_eq (k := 3) hb3; have q7 := ieq_f (k := 3) hb6; first | (exfalso; omega) | rw [prs_ok hz (by omega) (by omega) en12 en13 (of_decide_eq_true hb4) (ez hb5) (show n14 = _ by rw [if_neg q7, en14])], S.below⟩
     next =>
      refine At.eqv 50 (.bool (decide (n12 < PRM true))) (.bool false) (congrArg _ hb4) ?_
      refine At.run 5 [] [(55, .bool true)] ?_
      refine At.nx ?_
      refine Cd.ct ?_
      refine Cd.sr ?_
      refine At.st 1 [] 2 (pcs 0 0 false) h2 ?_
      refine At.run 1 [] [(3, .int .i64 41)] ?_
      refine At.nx ?_
      exact Cd.rv (rt r0) [2] (.tuple #[.agg (pcs 0 0 false), .int .i64 41]) fun W S => ⟨by have q1 := ieq_f (k := 1) hb; have q2 := len_eq (k := 33) hb1; have q3 := ine_t (k := 2) hb2; have q4 := len_eq (k := 3) hb3; first | (exfalso; omega) | rw [prs_off hz (by omega) (by omega) en12 en13 (fun h => absurd h.1 (of_decide_eq_false hb4))], S.below⟩
   next =>
    refine At.eqv 26 (.bool (((nth bs 0 : Nat) : Int) != 2)) (.bool false) (congrArg _ hb2) ?_
    refine At.run 6 [] [(32, .bool false)] ?_
    refine At.nx ?_
    refine Cd.cf ?_
    refine Cd.sk ?_
    show Cd _ _ _ _ _ _ _ _
    refine Cd.sr ?_
    refine At.callX 0 [] 34 (fun W S => P_x (by kernel_rfl) rfl W S) fun gp16 => ?_
    refine At.run 1 [] [(4, pt gp16)] ?_
    refine At.nx ?_
    have h33 : m = 33 := len_eq (k := 33) hb1
    refine Cd.sr ?_
    refine At.cutb 1 [] 36 1 (lo := 1) rfl hm (by omega) hc fun b1 o1 => ?_
    refine At.arr32 (b := b1) (o := o1) (m := m - 1) (c := c - 1) 0 [] 37 (by omega : 32 ≤ m - 1) ?_
    refine At.ld32 0 [] 38 0 rfl (by rw [List.length_drop]; omega) ?_
    obtain ⟨n17, en17⟩ : ∃ zz, zz = beN (bfn (bs.drop 1)) 32 := ⟨_, rfl⟩
    refine At.call 0 [] 39 (fun W S => from_z (bfn8 fun y hy => h8 y (List.mem_of_mem_drop hy)) en17 W) ?_
    refine At.new 0 [] 5 (limbs4 0) 28 fun g5 h5 => ?_
    refine At.st 0 [] 0 (limbs4 n17) h5 ?_
    refine At.nx ?_
    refine Cd.sr ?_
    obtain ⟨n18, en18⟩ : ∃ zz, zz = Ec.sdN (PRM true) n17 := ⟨_, rfl⟩
    refine At.run 3 [] [(41, pt gp16), (42, pt gp16), (43, wv n17)] ?_
    refine At.call 0 [] 44 (fun W S => side_z en18 (zbe (bfn8 fun y hy => h8 y (List.mem_of_mem_drop hy)) en17) W (S.x 1 rfl)) ?_
    obtain ⟨n19, en19⟩ : ∃ zz, zz = rootN n18 := ⟨_, rfl⟩
    refine At.call 0 [] 45 (fun W S => root_z en19 (zsd en18) W (S.x 1 rfl)) ?_
    refine At.run 3 [] [(46, wv n19), (47, .int .i64 (rootE n18))] ?_
    refine At.new 0 [] 6 (limbs4 0) 28 fun g6 h6 => ?_
    refine At.st 0 [] 0 (limbs4 n19) h6 ?_
    refine At.run 1 [] [(7, .int .i64 (rootE n18))] ?_
    refine At.nx ?_
    refine Cd.seq ?_
    refine Cd.sr ?_
    refine At.call 2 [0, 1] 50 (fun W S => in_z (zbe (bfn8 fun y hy => h8 y (List.mem_of_mem_drop hy)) en17) W (S.x 1 rfl)) ?_
    rcases Bool.eq_false_or_eq_true (decide (n17 < PRM true)) with hb3 | hb3
    next =>
     refine At.eqv 50 (.bool (decide (n17 < PRM true))) (.bool true) (congrArg _ hb3) ?_
     refine At.run 5 [] [(55, .bool ((rootE n18) != 0))] ?_
     refine At.nx ?_
     rcases Bool.eq_false_or_eq_true ((rootE n18) != 0) with hb4 | hb4
     next =>
      refine Cd.eqv 55 (.bool ((rootE n18) != 0)) (.bool true) (congrArg _ hb4) ?_
      refine Cd.ct ?_
      refine Cd.sr ?_
      refine At.st 1 [] 2 (pcs 0 0 false) h2 ?_
      refine At.run 1 [] [(3, .int .i64 41)] ?_
      refine At.nx ?_
      exact Cd.rv (rt r0) [2] (.tuple #[.agg (pcs 0 0 false), .int .i64 41]) fun W S => ⟨by have q1 := ieq_f (k := 1) hb; have q2 := len_eq (k := 33) hb1; have q3 := len_eq (k := 2) hb2; first | (exfalso; omega) | rw [prs_off hz (by omega) (by omega) en17 en18 (fun h => absurd h.2 (en hb4))], S.below⟩
     next =>
      refine Cd.eqv 55 (.bool ((rootE n18) != 0)) (.bool false) (congrArg _ hb4) ?_
      refine Cd.cf ?_
      refine Cd.sk ?_
      show Cd _ _ _ _ _ _ _ _
      refine Cd.seq ?_
      refine Cd.sr ?_
      refine At.ixs 1 [] 58 1 b o m c .i64 0 h0 ?_
      refine At.ld 0 [] 59 b (o + 0 * 1) (.int .u8 ((nth bs 0 : Nat) : Int)) (fun W S => (S.pcS 2 rfl).at 0 _ (hm ▸ h0) rfl) ?_
      refine At.run 1 [] [(60, .bool (((nth bs 0 : Nat) : Int) == 3))] ?_
      refine At.nx ?_
      rcases Bool.eq_false_or_eq_true (((nth bs 0 : Nat) : Int) == 3) with hb5 | hb5
      next =>
       refine Cd.eqv 60 (.bool (((nth bs 0 : Nat) : Int) == 3)) (.bool true) (congrArg _ hb5) ?_
       refine Cd.ct ?_
       refine Cd.rg ?_
       obtain ⟨n20, en20⟩ : ∃ zz, zz = Ec.fs (PRM true) 0 n19 := ⟨_, rfl⟩
       refine At.call 3 [] 64 (fun W S => sub_z en20 (by decide) (zroot en19) W (S.x 1 rfl)) ?_
       refine At.st 0 [] 0 (limbs4 n20) h6 ?_
       refine At.fin ?_
       show Cd _ _ _ _ _ _ _ _
       refine Cd.sr ?_
       refine At.st 3 [1] 2 (pcs n17 n20 false) h2 ?_
       refine At.run 1 [] [(3, .int .i64 0)] ?_
       refine At.nx ?_
       exact Cd.rv r0 [2] (.tuple #[.agg (pcs n17 n20 false), .int .i64 0]) fun W S => ⟨by have q1 := ieq_f (k := 1) hb; have q2 := len_eq (k := 33) hb1; have q3 := len_eq (k := 2) hb2; have q6 := ieq_t (k := 3) hb5; first | (exfalso; omega) | rw [prs_ok hz (by omega) (by omega) en17 en18 (of_decide_eq_true hb3) (ez hb4) (show n20 = _ by rw [if_pos q6, en20, en19])], S.below⟩
      next =>
       refine Cd.eqv 60 (.bool (((nth bs 0 : Nat) : Int) == 3)) (.bool false) (congrArg _ hb5) ?_
       refine Cd.cf ?_
       refine Cd.sk ?_
       show Cd _ _ _ _ _ _ _ _
       refine Cd.sr ?_
       refine At.st 3 [1] 2 (pcs n17 n19 false) h2 ?_
       refine At.run 1 [] [(3, .int .i64 0)] ?_
       refine At.nx ?_
       exact Cd.rv r0 [2] (.tuple #[.agg (pcs n17 n19 false), .int .i64 0]) fun W S => ⟨by have q1 := ieq_f (k := 1) hb; have q2 := len_eq (k := 33) hb1; have q3 := len_eq (k := 2) hb2; have q6 := ieq_f (k := 3) hb5; first | (exfalso; omega) | rw [prs_ok hz (by omega) (by omega) en17 en18 (of_decide_eq_true hb3) (ez hb4) (show n19 = _ by rw [if_neg q6, en19])], S.below⟩
    next =>
     refine At.eqv 50 (.bool (decide (n17 < PRM true))) (.bool false) (congrArg _ hb3) ?_
     refine At.run 5 [] [(55, .bool true)] ?_
     refine At.nx ?_
     refine Cd.ct ?_
     refine Cd.sr ?_
     refine At.st 1 [] 2 (pcs 0 0 false) h2 ?_
     refine At.run 1 [] [(3, .int .i64 41)] ?_
     refine At.nx ?_
     exact Cd.rv (rt r0) [2] (.tuple #[.agg (pcs 0 0 false), .int .i64 41]) fun W S => ⟨by have q1 := ieq_f (k := 1) hb; have q2 := len_eq (k := 33) hb1; have q3 := len_eq (k := 2) hb2; first | (exfalso; omega) | rw [prs_off hz (by omega) (by omega) en17 en18 (fun h => absurd h.1 (of_decide_eq_false hb3))], S.below⟩
end Go.Proofs.Ythmcejhcidchhaa
namespace Go.Proofs.Ythmcejhcidchhaa
open Go.RowKit
theorem neg_add (a M : Nat) (hM : 0 < M) : (a + (0 % M + M - a % M) % M) % M = 0 := by
  have h := Nat.mod_lt a hM
  rw [Nat.zero_mod, Nat.zero_add, Nat.add_mod_mod, Nat.add_mod, ← Nat.mod_mod a M]
  rw [Nat.mod_mod, ← Nat.add_mod, ← Nat.mod_add_mod, show a % M + (M - a % M) = M by omega, Nat.mod_self]
theorem neg_sq (a M : Nat) (hM : 0 < M) : ((0 % M + M - a % M) % M) * ((0 % M + M - a % M) % M) % M = a * a % M := by
  have h := Nat.mod_lt a hM
  rw [Nat.zero_mod, Nat.zero_add, ← Nat.mul_mod, Nat.mul_mod a a]
  generalize a % M = r at *
  obtain ⟨s, rfl⟩ : ∃ s, M = r + s := ⟨M - r, by omega⟩
  rw [show r + s - r = s by omega]
  have e : s * s + r * (r + s) = r * r + s * (r + s) := by simp only [Nat.mul_add, Nat.mul_comm]; omega
  rw [← Nat.add_mul_mod_self_right (s * s) r, e, Nat.add_mul_mod_self_right]
end Go.Proofs.Ythmcejhcidchhaa
namespace Go.Proofs.Ythmcejhcidchhaa
open Go.RowKit
theorem qtr_four : 2 * (2 * QTR) = PRM true + 1 := by decide +kernel
theorem prm_odd : PRM true % 2 = 1 := by decide +kernel
theorem pow_four (a : Nat) : (a ^ (2 * QTR) % PRM true) * (a ^ (2 * QTR) % PRM true) % PRM true = a * a % PRM true := by
  rw [pow_sq, qtr_four, Nat.pow_succ, ← Nat.mod_mul_mod, fermat (pr_prm true) a, Nat.mod_mul_mod]
/-- Two numbers of one square. -/
theorem sq_pm {x y p : Nat} (hp : Pr p) (hx : x < p) (h : x * x % p = y * y % p) : x = y % p ∨ x = (0 % p + p - y % p) % p := by
  have hp0 : 0 < p := by omega
  have hy := Nat.mod_lt y hp0
  rw [Nat.mul_mod y y] at h
  generalize y % p = r at *
  rw [Nat.zero_mod, Nat.zero_add]
  have key : ∀ u v : Nat, u ≤ v → v < p → u * u % p = v * v % p → u = v ∨ u + v = p := by
    intro u v huv hv he
    have hd : p ∣ (v - u) * (v + u) := by
      have e1 : (v - u) * (v + u) = v * v - u * u := by
        obtain ⟨d, rfl⟩ : ∃ d, v = u + d := ⟨v - u, by omega⟩
        rw [show u + d - u = d by omega, show (u + d) * (u + d) = d * (u + d + u) + u * u by simp only [Nat.mul_add, Nat.mul_comm]; omega]
        omega
      rw [e1]
      exact Nat.dvd_of_mod_eq_zero (Nat.sub_mod_eq_zero_of_mod_eq he.symm)
    rcases pr_mul hp hd with h1 | h1
    · rcases Nat.eq_or_lt_of_le huv with h2 | h2
      · exact Or.inl h2
      · have := Nat.le_of_dvd (by omega) h1; omega
    · rcases Nat.eq_zero_or_pos (v + u) with h2 | h2
      · exact Or.inl (by omega)
      · have h3 := Nat.le_of_dvd h2 h1
        obtain ⟨c, hc⟩ := h1
        have : c = 1 := by
          rcases c with _ | _ | c
          · omega
          · rfl
          · have : p * 2 ≤ p * (c + 1 + 1) := Nat.mul_le_mul_left _ (by omega)
            omega
        subst this; exact Or.inr (by omega)
  have hfin : x = r ∨ x + r = p := by
    rcases Nat.le_total x r with h1 | h1
    · exact key x r h1 hy h
    · rcases key r x h1 hx h.symm with h2 | h2
      · exact Or.inl h2.symm
      · exact Or.inr (by omega)
  rcases hfin with h1 | h1
  · exact Or.inl h1
  · right
    rcases Nat.eq_zero_or_pos r with h2 | h2
    · omega
    · rw [Nat.mod_eq_of_lt (show p - r < p by omega)]; omega
theorem rootV_sq (a : Nat) : rootV a * rootV a % PRM true = a ^ (2 * QTR) % PRM true := pow_sq a QTR (PRM true)
theorem rootV_lt (a : Nat) : rootV a < PRM true := Nat.mod_lt _ (by have := prm_big true; omega)
theorem rootN_lt (a : Nat) : rootN a < PRM true := by
  have hp : 0 < PRM true := by have := prm_big true; omega
  unfold rootN
  split
  · split
    · exact Nat.mod_lt _ hp
    · exact rootV_lt a
  · exact hp
/-- What has a root is its square. -/
theorem rootN_sq {a : Nat} (h : rootE a = 0) : rootN a * rootN a % PRM true = a % PRM true := by
  unfold rootE at h
  split at h
  · next h1 =>
    unfold rootN
    rw [if_pos h1]
    split
    · rw [neg_sq _ _ (by have := prm_big true; omega)]; exact h1
    · exact h1
  · cases h
theorem rootN_even (a : Nat) : rootN a % 2 = 0 := by
  have hp := prm_odd; have hv := rootV_lt a
  unfold rootN
  split
  · split
    · next h =>
      rw [Nat.zero_mod, Nat.zero_add, Nat.mod_eq_of_lt hv, Nat.mod_eq_of_lt (show PRM true - rootV a < PRM true by omega)]; omega
    · omega
  · rfl
theorem rootE_sq (a : Nat) : rootE (a * a % PRM true) = 0 := by
  unfold rootE
  refine if_pos ?_
  rw [rootV_sq, Nat.mod_mod, ← Nat.pow_mod, Nat.mul_pow, Nat.mul_mod, pow_four]
/-- The square's root is the number or what is missing. -/
theorem rootN_own (a : Nat) : rootN (a * a % PRM true) = a % PRM true ∨ rootN (a * a % PRM true) = (0 % PRM true + PRM true - a % PRM true) % PRM true := by
  refine sq_pm (pr_prm true) (rootN_lt _) ?_
  rw [rootN_sq (rootE_sq a), Nat.mod_mod]
end Go.Proofs.Ythmcejhcidchhaa
namespace Go.Proofs.Ythmcejhcidchhaa
open Go.RowKit
theorem beN_byteAt (a : Nat) : ∀ k, k ≤ 32 → beN (byteAt a) k = a % 256 ^ k
  | 0, _ => by simp [beN, Nat.mod_one]
  | k + 1, h => by
    rw [beN, beN_byteAt a k (by omega), byteAt, show 31 - (31 - k) = k by omega, Int.toNat_natCast, Nat.mod_pow_succ, Nat.mul_comm]
theorem beN_at (c : Nat → Int) (hc : Bytes8 c) (j : Nat) : ∀ n, j < n → beN c n / 256 ^ j % 256 = (c (31 - j)).toNat
  | 0, h => absurd h (by omega)
  | n + 1, h => by
    have hb : (c (31 - n)).toNat < 256 := by have := hc (31 - n); omega
    have hl := beN_lt c hc n
    rw [beN]
    by_cases e : j = n
    · subst e
      rw [Nat.add_mul_div_right _ _ (Nat.pow_pos (by decide)), Nat.div_eq_of_lt hl, Nat.zero_add]
      exact Nat.mod_eq_of_lt hb
    · obtain ⟨d, rfl⟩ : ∃ d, n = j + (d + 1) := ⟨n - j - 1, by omega⟩
      rw [Nat.pow_add, Nat.mul_left_comm, Nat.add_mul_div_left _ _ (Nat.pow_pos (by decide)), Nat.pow_succ, ← Nat.mul_assoc, Nat.add_mul_mod_self_right]
      exact beN_at c hc j _ (by omega)
theorem byteAt_beN (c : Nat → Int) (hc : Bytes8 c) (i : Nat) (hi : i < 32) : byteAt (beN c 32) i = c i := by
  have h := hc i
  rw [byteAt, beN_at c hc (31 - i) 32 (by omega), show 31 - (31 - i) = i by omega]
  omega
theorem bytes8_byteAt (a : Nat) : Bytes8 (byteAt a) := fun i => by
  unfold byteAt
  have := Nat.mod_lt (a / 256 ^ (31 - i)) (show 0 < 256 by decide)
  omega
end Go.Proofs.Ythmcejhcidchhaa
namespace Go.Proofs.Ythmcejhcidchhaa
open Go.RowKit
theorem bfnz8 {bs : List Nat} (h : ∀ y, y ∈ bs → y < 256) : Bytes8 (bfn bs) := fun i => by
  unfold bfn
  have : nth bs i < 256 := by
    by_cases hi : i < bs.length
    · exact h _ (nth_mem bs i hi)
    · rw [nth_end bs i (by omega)]; decide
  omega
def be32 (a : Nat) : List Nat := (List.range 32).map fun i => a / 256 ^ (31 - i) % 256
theorem be32_len (a : Nat) : (be32 a).length = 32 := by simp [be32]
theorem be32_lt (a : Nat) : ∀ y, y ∈ be32 a → y < 256 := fun y h => by
  obtain ⟨i, -, rfl⟩ := List.mem_map.1 h; exact Nat.mod_lt _ (by decide)
theorem be32_nth (a i : Nat) (h : i < 32) : ((nth (be32 a) i : Nat) : Int) = byteAt a i := by
  rw [be32, nth_range _ _ _ h]; rfl
theorem be32_cells (a : Nat) : (row32 (byteAt a)).toList = bcells (be32 a) := by
  unfold row32; rw [cells32_eq]; simp [bcells, be32, byteAt]
theorem beN_congr {f g : Nat → Int} (h : ∀ i, i < 32 → f i = g i) : ∀ k, k ≤ 32 → beN f k = beN g k
  | 0, _ => rfl
  | k + 1, hk => by rw [beN, beN, beN_congr h k (by omega), h (31 - k) (by omega)]
theorem w256_pow : (256 : Nat) ^ 32 = W256 := by decide +kernel
theorem beN_be {a k : Nat} {l m : List Nat} (ha : a < W256) (hl : l.length = k) : beN (bfn ((l ++ (be32 a ++ m)).drop k)) 32 = a := by
  rw [← hl, List.drop_left, beN_congr (g := byteAt a) (fun i hi => by rw [bfn, nth_append_left _ _ _ (by rw [be32_len]; exact hi), be32_nth _ _ hi]) 32 (Nat.le_refl _), beN_byteAt a 32 (by decide), w256_pow, Nat.mod_eq_of_lt ha]
theorem be_beN {bs : List Nat} (k : Nat) (h : k + 32 ≤ bs.length) (h8 : ∀ y, y ∈ bs → y < 256) : be32 (beN (bfn (bs.drop k)) 32) = (bs.drop k).take 32 := by
  apply nth_ext
  · rw [be32_len, List.length_take, List.length_drop]; omega
  · intro i hi; rw [be32_len] at hi
    rw [nth_take _ _ _ hi]
    have := be32_nth (beN (bfn (bs.drop k)) 32) i hi
    rw [byteAt_beN _ (bfnz8 fun y hy => h8 y (List.mem_of_mem_drop hy)) i hi, bfn] at this
    omega
end Go.Proofs.Ythmcejhcidchhaa
namespace Go.Proofs.Ythmcejhcidchhaa
open Go.RowKit
open Ec (vp add mul neg KP GB FP On)
/-- A point's bytes. -/
noncomputable def cby (A : Ec.Pt FP) : List Nat := if (vp A).o then [0] else (2 + (vp A).y % 2) :: be32 (vp A).x
theorem cby_none {A : Ec.Pt FP} (h : (vp A).o = true) : cby A = [0] := if_pos h
theorem cby_at {A : Ec.Pt FP} (h : (vp A).o = false) : cby A = (2 + (vp A).y % 2) :: be32 (vp A).x := if_neg (by rw [h]; decide)
theorem cby_lt (A : Ec.Pt FP) : ∀ y, y ∈ cby A → y < 256 := fun y h => by
  unfold cby at h
  split at h
  · rw [List.mem_singleton.1 h]; decide
  · rcases List.mem_cons.1 h with rfl | h
    · omega
    · exact be32_lt _ _ h
theorem cby_len (A : Ec.Pt FP) : 0 < (cby A).length ∧ (cby A).length ≤ 33 := by
  unfold cby
  split
  · exact ⟨by decide, by decide⟩
  · rw [List.length_cons, be32_len]; omega
section pm
variable {p : Nat}
theorem neg_odd {r : Nat} (hp : p % 2 = 1) (h0 : r ≠ 0) (hr : r < p) : (0 % p + p - r % p) % p = p - r := by
  rw [Nat.zero_mod, Nat.zero_add, Nat.mod_eq_of_lt hr, Nat.mod_eq_of_lt (by omega)]
theorem neg_0 (hp : 0 < p) : (0 % p + p - 0 % p) % p = 0 := by
  rw [Nat.zero_mod, Nat.zero_add, Nat.sub_zero, Nat.mod_self]
/-- Of two roots one is even. -/
theorem pick_root {r y : Nat} (hp : p % 2 = 1) (hy : y < p) (h2 : r % 2 = 0) (h : r = y ∨ r = (0 % p + p - y % p) % p) : (y % 2 = 0 → r = y) ∧ (y % 2 = 1 → (0 % p + p - r % p) % p = y) := by
  by_cases h0 : y = 0
  · subst h0
    rw [neg_0 (by omega)] at h
    refine ⟨fun _ => by omega, fun h => by omega⟩
  · rw [neg_odd hp h0 hy] at h
    refine ⟨fun h3 => by omega, fun h3 => ?_⟩
    have e : r = p - y := by omega
    rw [e, neg_odd hp (by omega) (by omega)]; omega
end pm
theorem sd_ne (x : Nat) : Ec.sdN (PRM true) x ≠ 0 := by
  obtain ⟨p, hp⟩ : ∃ p, p = PRM true := ⟨_, rfl⟩
  have h := Ec.prm_cubes x
  rw [← hp] at h ⊢
  unfold Ec.sdN Ec.fa Ec.fm
  rw [Nat.mod_add_mod]
  intro e
  apply h
  rw [← e, Nat.add_mod, Nat.add_mod (x * x % p * x), Nat.mod_mul_mod]
theorem sd_lt (x : Nat) : Ec.sdN (PRM true) x < PRM true := Nat.mod_lt _ Ec.prm_pos
theorem vp_at {x y : Nat} (hx : x < PRM true) (hy : y < PRM true) : vp (.af (Ec.fofn (PRM true) x) (Ec.fofn (PRM true) y)) = ⟨x, y, false⟩ := by
  show (⟨(Ec.fofn (PRM true) x).val, (Ec.fofn (PRM true) y).val, false⟩ : Pn) = _
  rw [Ec.fofn_small _ hx, Ec.fofn_small _ hy]
theorem on_at {x y : Nat} (h : y * y % PRM true = Ec.sdN (PRM true) x) : On (.af (Ec.fofn (PRM true) x) (Ec.fofn (PRM true) y) : Ec.Pt FP) := Ec.on_of_nums (PRM true) h
theorem on_num {A : Ec.Pt FP} (hA : On A) (h : (vp A).o = false) : (vp A).x < PRM true ∧ (vp A).y < PRM true ∧ (vp A).y * (vp A).y % PRM true = Ec.sdN (PRM true) (vp A).x := by
  have := Ec.on_val hA
  unfold Ec.onN at this
  rw [if_neg (by rw [h]; decide)] at this
  exact of_decide_eq_true this
/-- What is answered is a point, and has these bytes. -/
theorem prs_sound {bs : List Nat} {P : Pn} (h : (P, (0 : Int)) = prs bs) (h8 : ∀ y, y ∈ bs → y < 256) : ∃ A : Ec.Pt FP, On A ∧ vp A = P ∧ cby A = bs := by
  unfold prs at h
  split at h
  · next h1 =>
    cases h
    refine ⟨.none, trivial, rfl, ?_⟩
    rw [cby_none rfl]
    obtain ⟨b, rfl⟩ := List.length_eq_one_iff.1 h1.1
    have : b = 0 := h1.2
    rw [this]
  · split at h
    · next h2 =>
      dsimp only at h
      obtain ⟨x, hx⟩ : ∃ x, x = beN (bfn (bs.drop 1)) 32 := ⟨_, rfl⟩
      rw [← hx] at h
      obtain ⟨s, hs⟩ : ∃ s, s = Ec.sdN (PRM true) x := ⟨_, rfl⟩
      rw [← hs] at h
      split at h
      · next h3 =>
        obtain ⟨hxp, he⟩ := h3
        obtain ⟨y, hy⟩ : ∃ y, y = if nth bs 0 = 3 then Ec.fs (PRM true) 0 (rootN s) else rootN s := ⟨_, rfl⟩
        rw [← hy] at h
        cases h
        have hsp : s < PRM true := by rw [hs]; exact sd_lt x
        have hr := rootN_sq he
        have hr2 := rootN_even s
        have hrl := rootN_lt s
        have hodd := prm_odd
        have hr0 : rootN s ≠ 0 := fun e => by
          rw [e, Nat.zero_mul, Nat.zero_mod, Nat.mod_eq_of_lt hsp] at hr
          exact sd_ne x (hs.symm.trans hr.symm)
        have hyp : y < PRM true := by
          rw [hy]; split
          · exact Nat.mod_lt _ Ec.prm_pos
          · exact hrl
        have hyy : y * y % PRM true = Ec.sdN (PRM true) x := by
          rw [← hs, ← Nat.mod_eq_of_lt hsp, ← hr, hy]
          split
          · exact neg_sq _ _ Ec.prm_pos
          · rfl
        have hpar : 2 + y % 2 = nth bs 0 := by
          rw [hy]
          rcases h2.2 with h4 | h4
          · rw [if_neg (by omega), hr2, h4]
          · rw [if_pos h4, h4]
            unfold Ec.fs
            rw [neg_odd hodd hr0 hrl]; omega
        refine ⟨.af (Ec.fofn (PRM true) x) (Ec.fofn (PRM true) y), on_at hyy, vp_at hxp hyp, ?_⟩
        have hv := vp_at hxp hyp
        rw [cby_at (by rw [hv]), hv]
        show (2 + y % 2) :: be32 x = bs
        rw [hpar, hx, be_beN 1 (by omega) h8, List.take_of_length_le (by rw [List.length_drop]; omega)]
        cases bs with
        | nil => cases h2.1
        | cons b l => rfl
      · cases h
    · cases h
/-- A point's bytes are read as it. -/
theorem prs_cby {A : Ec.Pt FP} (hA : On A) : (vp A, (0 : Int)) = prs (cby A) := by
  cases ho : (vp A).o with
  | true =>
    rw [cby_none ho]
    cases A with
    | none => rfl
    | af x y => cases ho
  | false =>
    obtain ⟨hx, hy, he⟩ := on_num hA ho
    rw [cby_at ho]
    obtain ⟨x, ex⟩ : ∃ x, x = (vp A).x := ⟨_, rfl⟩
    obtain ⟨y, ey⟩ : ∃ y, y = (vp A).y := ⟨_, rfl⟩
    have eP : vp A = ⟨x, y, false⟩ := by rw [ex, ey, ← ho]
    rw [eP]
    rw [← ex] at hx he
    rw [← ey] at hy he
    show (⟨x, y, false⟩, (0 : Int)) = prs ((2 + y % 2) :: be32 x)
    have hd : ((2 + y % 2) :: be32 x).drop 1 = [] ++ (be32 x ++ []) := by simp
    have hb : beN (bfn (((2 + y % 2) :: be32 x).drop 1)) 32 = x := by
      have := beN_be (a := x) (l := [2 + y % 2]) (k := 1) (m := []) (prm_w hx) rfl
      rw [List.append_nil] at this
      exact this
    have hl : ((2 + y % 2) :: be32 x).length = 33 := by rw [List.length_cons, be32_len]
    have h0 : nth ((2 + y % 2) :: be32 x) 0 = 2 + y % 2 := rfl
    have hpy := Nat.mod_eq_of_lt hy
    have hro := rootN_own y
    rw [he, hpy] at hro
    have hpk := pick_root prm_odd hy (rootN_even _) (by rw [hpy]; exact hro)
    have hre : rootE (Ec.sdN (PRM true) x) = 0 := by rw [← he]; exact rootE_sq y
    refine (prs_ok rfl hl (by rw [h0]; omega) hb.symm rfl hx hre ?_).symm
    rw [h0]
    by_cases h2 : y % 2 = 0
    · rw [if_neg (by omega)]; exact (hpk.1 h2).symm
    · rw [if_pos (by omega)]; exact (hpk.2 (by omega)).symm
theorem prs_cases (bs : List Nat) : (∃ P, prs bs = (P, 0)) ∨ prs bs = (⟨0, 0, false⟩, 41) := by
  obtain ⟨z, hz⟩ : ∃ z, z = prs bs := ⟨_, rfl⟩
  by_cases h1 : bs.length = 1 ∧ nth bs 0 = 0
  · exact Or.inl ⟨_, hz ▸ prs_none hz h1.1 h1.2⟩
  by_cases h2 : bs.length = 33 ∧ (nth bs 0 = 2 ∨ nth bs 0 = 3)
  · obtain ⟨x, hx⟩ : ∃ x, x = beN (bfn (bs.drop 1)) 32 := ⟨_, rfl⟩
    obtain ⟨s, hs⟩ : ∃ s, s = Ec.sdN (PRM true) x := ⟨_, rfl⟩
    by_cases h5 : x < PRM true ∧ rootE s = 0
    · exact Or.inl ⟨_, hz ▸ prs_ok hz h2.1 h2.2 hx hs h5.1 h5.2 rfl⟩
    · exact Or.inr (hz ▸ prs_off hz h2.1 h2.2 hx hs h5)
  · exact Or.inr (hz ▸ prs_bad hz h1 h2)
theorem prs_err {bs : List Nat} (h : (prs bs).2 ≠ 0) : prs bs = (⟨0, 0, false⟩, 41) := (prs_cases bs).resolve_left fun ⟨_, e⟩ => h (by rw [e])
/-- The same with the other sign isn't one, either. -/
theorem prs_other {b : Nat} {l : List Nat} (h : (prs (b :: l)).2 ≠ 0) (hl : l.length = 32) (hb : b = 2 ∨ b = 3) : prs ((5 - b) :: l) = (⟨0, 0, false⟩, 41) := by
  refine prs_err fun e => h ?_
  have hn : ∀ c, nth (c :: l) 0 = c := fun _ => rfl
  have hlen : ∀ c, (c :: l).length = 33 := fun c => by rw [List.length_cons, hl]
  have hd : ∀ c : Nat, (c :: l).drop 1 = l := fun _ => rfl
  obtain ⟨z, hz⟩ : ∃ z, z = prs ((5 - b) :: l) := ⟨_, rfl⟩
  obtain ⟨z', hz'⟩ : ∃ z, z = prs (b :: l) := ⟨_, rfl⟩
  rw [← hz] at e
  rw [← hz']
  obtain ⟨x, hx⟩ : ∃ x, x = beN (bfn l) 32 := ⟨_, rfl⟩
  obtain ⟨s, hs⟩ : ∃ s, s = Ec.sdN (PRM true) x := ⟨_, rfl⟩
  by_cases h5 : x < PRM true ∧ rootE s = 0
  · rw [prs_ok hz' (hlen _) (by rw [hn]; exact hb) (by rw [hd]; exact hx) hs h5.1 h5.2 rfl]
  · rw [prs_off hz (hlen _) (by rw [hn]; omega) (by rw [hd]; exact hx) hs h5] at e
    cases e
theorem prs_nul {bs : List Nat} (h : (prs bs).2 ≠ 0) : bs ≠ [0] := fun e => h (by rw [e]; rfl)
end Go.Proofs.Ythmcejhcidchhaa
namespace Go.Proofs.Ythmcejhcidchhaa
open Go.RowKit
section semu
variable {P : Program} {f : Func} {r i N : Nat} {Q : Exit → Act → World → Prop} {F : List (Nat × Value)} {w : World} {L : List (Nat × Obj)} {X : List Xt}
end semu
/-- One cell is read. -/
theorem run_load1 {P : Program} {W : World} {b o : Nat} {t : TypeId} {d : TypeDesc} {v : Value} (hu : P.underlying t = some d) (hd : (match d with | .struct _ | .array _ _ => false | _ => true) = true) (hc : W.cell? ⟨b, o, none⟩ = some v) : (Instr.loadAt t (po b o)).run P W = .ok v W := by
  have e : (loadVar t ⟨b, o, none⟩).run P W = .ok v W := by
    unfold loadVar isAgg
    cases d <;> simp [run_underlying hu, hc] at hd ⊢
  simp only [Instr.loadAt, Instr.sureAddr, Sem.run_bind, Sem.run_pure, Result.andThen_ok, e]
/-- One's own slice of bytes: what is read of it. -/
theorem RestV.at {W : World} {b o n c : Nat} {bs : List Nat} (h : RestV W (.slice (some ⟨b, o, none⟩) n c) bs) (i : Nat) (hi : i < bs.length) : W.cell? ⟨b, o + i, none⟩ = some (.int .u8 ((nth bs i : Nat) : Int)) := by
  rcases h with ⟨h, -⟩ | ⟨g, off, cap, cur, h, hg, -, -, h3⟩
  · cases h
  · injection h with e1 e2 e3
    injection e1 with e1; injection e1 with e1 e4
    subst e1 e4
    rw [cell_of_row _ _ _ _ _ _ hg]; exact h3 i hi
/-- .. what is written to it. -/
theorem RestV.put {W : World} {b n c i x : Nat} {bs : List Nat} (h : RestV W (.slice (some ⟨b, 0, none⟩) n c) bs) (hi : i < bs.length) : RestV (W.setCell ⟨b, i, none⟩ (.int .u8 ((x : Nat) : Int))) (.slice (some ⟨b, 0, none⟩) n c) (bs.set i x) := by
  rcases h with ⟨h, -⟩ | ⟨g, off, cap, cur, h, hg, h1, h2, h3⟩
  · cases h
  · injection h with e1 e2 e3
    injection e1 with e1; injection e1 with e1 e4
    subst e1 e4 e2 e3
    refine Or.inr ⟨b, 0, c, _, by rw [List.length_set], heap_setCell_same W b i cur _ _ hg, by rw [List.length_set]; exact h1, by simpa using h2, fun j hj => ?_⟩
    rw [List.length_set] at hj
    rw [Nat.zero_add, Array.getElem?_setIfInBounds, nth_set _ _ _ _ hi]
    by_cases e : i = j
    · subst e
      rw [if_pos rfl, if_pos rfl, if_pos (by omega)]
    · rw [if_neg e, if_neg e]
      have := h3 j hj
      rwa [Nat.zero_add] at this
theorem restv_of {W : World} {v : Value} {bs : List Nat} (h : RestG 5 W v (bcells bs)) : RestV W v bs := by
  rcases h with ⟨h1, h2⟩ | ⟨g, off, cap, cur, h1, hg, h2, h3, h4⟩
  · exact Or.inl ⟨h1, by simpa [bcells] using h2⟩
  · rw [bcells_len] at h1 h2 h4
    exact Or.inr ⟨g, off, cap, cur, h1, hg, h2, h3, fun i hi => by rw [h4 i hi, bcells_get bs i hi]⟩
end Go.Proofs.Ythmcejhcidchhaa
namespace Go.Proofs.Ythmcejhcidchhaa
open Go.RowKit
theorem Sx.ofpc {w : World} {v : Value} {bs : List Nat} (h : PieceV w w.heap.size v bs) : Sx w [] [xpc w.heap.size v bs] w := (Sx.nil w).addX _ ⟨Nat.le_refl _, h⟩ (fun _ h => by cases h) (fun _ h => h) (fun _ h => by cases h)
end Go.Proofs.Ythmcejhcidchhaa
namespace Go.Proofs.Ythmcejhcidchhaa
open Go.RowKit
open Ec (vp add mul neg KP GB FP On)
theorem row_cellz {w W : World} {L : List (Nat × Obj)} {X : List Xt} (S : Sx w L X W) {g : Nat} {cs : Array Value} {t : TypeId} (j : Nat) (hj : L[j]? = some (g, .cells cs t (0, 0))) : ∀ i u, cs.toList[i]? = some u → W.cell? ⟨g, 0 + i, none⟩ = some u := fun i u h => by
  rw [cell_of_row _ _ _ _ _ _ (S.rows _ (List.mem_of_getElem? hj)), Nat.zero_add, ← h, Array.getElem?_toList]
theorem Sx.srcz {w W : World} {L : List (Nat × Obj)} {X : List Xt} (S : Sx w L X W) {TT E t : TypeId} {cs : Array Value} {g m c : Nat} (j : Nat) (hj : L[j]? = some (g, .cells cs t (0, 0))) (hm : m = cs.toList.length) (h1 : cs.toList.all (·.oneCell') = true) (hT : Try.prog.underlying TT = some (.slice E) := by kernel_rfl) : Src Try.prog 1 TT (.slice (some ⟨g, 0, none⟩) m c) cs.toList.length cs.toList W := by
  subst hm
  exact Src.ofSlice (w := W) hT ⟨g, 0, none⟩ _ c _ (by rw [Nat.mul_one]) (fun j u hj' => by
    have hadd : (⟨g, 0, none⟩ : Addr).add j = ⟨g, 0 + j, none⟩ := by unfold Addr.add; split <;> simp_all
    rw [hadd]; exact (row_cellz S _ hj j u hj').trans hj'.symm ▸ hj') (fun u hu => List.all_eq_true.1 h1 u hu)
/-- A slice of a point's bytes, of one's own. -/
def CbR (w : World) (A : Ec.Pt FP) (e : Ending) (w' : World) : Prop := ∃ y : Lt, e = .returned (.slice (some ⟨y.n, 0, none⟩) (cby A).length y.c) ∧ RestV w' (.slice (some ⟨y.n, 0, none⟩) (cby A).length y.c) (cby A) ∧ w.heap.size ≤ y.n ∧ Below w.heap.size w w'
theorem cbr_of {w W : World} {A : Ec.Pt FP} {y : Lt} {cs : List Value} (hz : Z0 y.sl) (hR : RestG 5 W y.sl cs) (hc : cs = bcells (cby A)) (ho : ∀ b, y.sl.ownBlock = some b → w.heap.size ≤ b) (hb : Below w.heap.size w W) : CbR w A (.returned y.sl) W := by
  subst hc
  have hR := restv_of hR
  have hR2 := hR
  rcases hR with ⟨-, h2⟩ | ⟨g, off, cap, cur, h1, -⟩
  · have := cby_len A; rw [h2] at this; exact absurd this.1 (by decide)
  · have h0 := hz _ _ _ _ _ h1
    subst h0
    rw [h1] at hR2 ho ⊢
    exact ⟨lt0 none g cap, rfl, hR2, ho g rfl, hb⟩
theorem z0_lt0 (g n c : Nat) : Z0 (lt0 (some ⟨g, 0, none⟩) n c).sl := fun b o m n c e => by cases e; rfl
theorem par_y (y : Nat) : Int.tmod ((limb y 0 : Nat) : Int) 2 = ((y % 2 : Nat) : Int) := by
  rw [Int.tmod_eq_emod_of_nonneg (by omega)]
  unfold limb
  rw [Nat.pow_zero, Nat.div_one]; omega
theorem wr8 {x : Int} (h0 : 0 ≤ x) (h : x < 256) : IntKind.u8.wrap x = x := by rw [IntKind.wrap_u8]; omega
theorem cby_cells {A : Ec.Pt FP} (h : (vp A).o = false) : .int .u8 ((2 + (vp A).y % 2 : Nat) : Int) :: (row32 (byteAt (vp A).x)).toList = bcells (cby A) := by
  rw [cby_at h, be32_cells]; rfl
set_option maxRecDepth 100000 in
theorem cbytes_c {A : Ec.Pt FP} (w : World) : Calls Try.prog 27 #[pvp A] w (CbR w A) := by
 refine enterQ 19 (fun q => .seq (q 0) (.seq (.seq (q 1) (.cond (.tmp 5) (.seq (q 2) .ret) .skip)) (.seq (q 3) (.seq (q 4) .ret)))) (Sx.nil w) Try.func27 ?_
 refine Cd.sr ?_
 refine At.new 0 [] 1 (pcs ((vp A).x) ((vp A).y) ((vp A).o)) 30 fun g1 h1 => ?_
 refine At.run 1 [] [] ?_
 refine At.nx ?_
 refine Cd.seq ?_
 refine Cd.sr ?_
 refine At.run 2 [] [(5, .bool ((vp A).o))] ?_
 refine At.nx ?_
 rcases Bool.eq_false_or_eq_true ((vp A).o) with hb | hb
 next =>
  refine Cd.eqv 5 (.bool ((vp A).o)) (.bool true) (congrArg _ hb) ?_
  refine Cd.ct ?_
  refine Cd.sr ?_
  refine At.sli 0 [] 6 1 (#[.int .u8 0]) 5 fun g6 h6 => ?_
  refine At.as (fun _ S => S.ogrow (cs := [.int .u8 0]) h6 rfl) ?_
  refine At.run 1 [] [(2, (lt0 (some ⟨g6, 0, none⟩) 1 1).sl)] ?_
  refine At.nx ?_
  exact Cd.rv (rt r0) [] ((lt0 (some ⟨g6, 0, none⟩) 1 1).sl) fun W S => cbr_of (y := (lt0 (some ⟨g6, 0, none⟩) 1 1)) (z0_lt0 _ _ _) (S.og 0 rfl) (by rw [cby_none hb]; rfl) (S.ogown 0 rfl) S.below
 next =>
  refine Cd.eqv 5 (.bool ((vp A).o)) (.bool false) (congrArg _ hb) ?_
  refine Cd.cf ?_
  refine Cd.sk ?_
  show Cd _ _ _ _ _ _ _ _
  refine Cd.sr ?_
  refine At.call 2 [] 9 (fun W S => bytes_w ((vp A).x) W) ?_
  refine At.new 0 [] 3 ((row32 (fun _ => 0))) 78 fun g3 h3 => ?_
  refine At.st 0 [] 0 ((row32 (byteAt ((vp A).x)))) h3 ?_
  refine At.nx ?_
  refine Cd.seq ?_
  refine Cd.dr 8 [0, 0, 1] [] [(6, ⟨some 1, #[.int .u8 ((2 + (vp A).y % 2 : Nat) : Int)], 5⟩)] [] [(3, .int .u64 (Int.tmod ((limb (vp A).y 0 : Nat) : Int) 2), .int .u64 (((vp A).y % 2 : Nat) : Int)), (4, .int .u8 (IntKind.u8.wrap (((vp A).y % 2 : Nat) : Int)), .int .u8 (((vp A).y % 2 : Nat) : Int)), (5, .int .u8 (IntKind.u8.wrap (2 + (((vp A).y % 2 : Nat) : Int))), .int .u8 ((2 + (vp A).y % 2 : Nat) : Int))] (fun u4 => [(16, .slice (some ⟨(u4 6).n, 0, none⟩) 1 1), (17, .slice (some ⟨g3, 0, none⟩) 32 32)]) (fun u4 => [((u4 6).n, .cells #[.int .u8 ((2 + (vp A).y % 2 : Nat) : Int)] 5 (0, 0)), (g3, .cells (row32 (byteAt ((vp A).x))) 78 (0, 0)), (g1, .cells (pcs ((vp A).x) ((vp A).y) ((vp A).o)) 30 (0, 0))]) (fun u4 => []) stays_nil (eqs_cons (congrArg _ (par_y _)) (eqs_cons (congrArg _ (wr8 (by omega) (by omega))) (eqs_cons (congrArg _ ((wr8 (by omega) (by omega)).trans (by omega))) eqs_nil))) (.nil) (fun u4 W S h => S) fun u4 hu4 => ?_
  refine At.appn 0 [] 18 (TT := 49) (E := 5) (z := .int .u8 0) (sb' := 1) (g := (u4 6).n) (off := 0) (cap := 1) (k0 := 1) (xv := .slice (some ⟨g3, 0, none⟩) 32 32) (cs := (#[.int .u8 ((2 + (vp A).y % 2 : Nat) : Int)]).toList) (ys := ((row32 (byteAt ((vp A).x)))).toList) rfl (fun W S => row_cellz S 0 rfl) (fun W S => S.srcz (E := 5) 1 rfl rfl rfl) (by decide : 1 < 1 + 32) (by decide : (1 + 32) * 1 ≤ 70368744177664) (by decide : 1 + 32 ≤ 1000000000000) fun y hy hz => ?_
  refine At.run 1 [] [(2, y.sl)] ?_
  refine At.nx ?_
  exact Cd.rv r0 [] (y.sl) fun W S => cbr_of (y := y) hz (S.og 0 rfl) (cby_cells hb) (S.ogown 0 rfl) S.below
set_option maxRecDepth 100000 in
theorem parse_n0 {A : Option Addr} {c : Nat} (w : World) : Calls Try.prog 28 #[.slice A 0 c] w fun e w' => e = .returned (.tuple #[.agg (pcs 0 0 false), .int .i64 41]) ∧ Below w.heap.size w w' := by
 refine enterQ 68 (fun q => .seq (q 0) (.seq (.seq (q 1) (.cond (.tmp 16) (.seq (q 2) .ret) .skip)) (.seq (.seq (q 3) (.cond (.tmp 32) (.seq (q 4) .ret) .skip)) (.seq (q 5) (.seq (q 6) (.seq (q 7) (.seq (.seq (q 8) (.cond (.tmp 55) (.seq (q 9) .ret) .skip)) (.seq (.seq (q 10) (.cond (.tmp 60) (q 11) .skip)) (.seq (q 12) .ret))))))))) (Sx.nil w) Try.func28 ?_
 refine Cd.sr ?_
 refine At.new 0 [] 2 (pcs 0 0 false) 30 fun g2 h2 => ?_
 refine At.run 1 [] [] ?_
 refine At.nx ?_
 refine Cd.seq ?_
 refine Cd.sr ?_
 refine At.run 9 [] [(16, .bool false)] ?_
 refine At.nx ?_
 refine Cd.cf ?_
 refine Cd.sk ?_
 show Cd _ _ _ _ _ _ _ _
 refine Cd.seq ?_
 refine Cd.sr ?_
 refine At.run 15 [] [(32, .bool true)] ?_
 refine At.nx ?_
 refine Cd.ct ?_
 refine Cd.sr ?_
 refine At.st 1 [] 0 (pcs 0 0 false) h2 ?_
 refine At.run 1 [] [(3, .int .i64 41)] ?_
 refine At.nx ?_
 exact Cd.rv (rt r0) [] (.tuple #[.agg (pcs 0 0 false), .int .i64 41]) fun W S => ⟨rfl, S.below⟩
theorem parse_v {v : Value} {bs : List Nat} {P : Pn} {e : Int} (hz : (P, e) = prs bs) (h8 : ∀ y, y ∈ bs → y < 256) (hc : ∀ a n c, v = .slice a n c → n ≤ c) (W : World) (hp : PieceV W W.heap.size v bs) : Calls Try.prog 28 #[v] W fun e' w' => e' = .returned (.tuple #[pnv P, .int .i64 e]) ∧ Below W.heap.size W w' := by
  have hs := Sx.ofpc hp
  rcases hp with ⟨⟨a, c, rfl⟩, rfl⟩ | ⟨b, o, c, -, rfl, -⟩
  · have hz : (P, e) = (⟨0, 0, false⟩, (41 : Int)) := prs_bad hz (fun h => by cases h.1) (fun h => by cases h.1)
    cases hz
    exact parse_n0 W
  · by_cases h : 0 < bs.length
    · exact parse_c (z := (P, e)) hz rfl h (hc _ _ _ rfl) h8 W hs
    · have h0 : bs = [] := List.length_eq_zero_iff.1 (by omega)
      subst h0
      have hz : (P, e) = (⟨0, 0, false⟩, (41 : Int)) := prs_bad hz (fun h => by cases h.1) (fun h => by cases h.1)
      cases hz
      exact parse_n0 W
end Go.Proofs.Ythmcejhcidchhaa
namespace Go.Proofs.Ythmcejhcidchhaa
open Go.RowKit
open Ec (vp add mul neg KP GB FP On)
def pcb (b x : Nat) : Nat → List Value
  | 0 => [.int .u8 ((b : Nat) : Int)]
  | j + 1 => pcb b x j ++ [.int .u8 (byteAt x j)]
theorem pcb_len (b x : Nat) : ∀ j, (pcb b x j).length = j + 1
  | 0 => rfl
  | j + 1 => by rw [pcb, List.length_append, pcb_len b x j]; rfl
theorem pcb_eq (b x : Nat) : ∀ j, pcb b x j = Value.int .u8 ((b : Nat) : Int) :: (List.range j).map fun i => Value.int .u8 (byteAt x i)
  | 0 => rfl
  | j + 1 => by rw [pcb, pcb_eq b x j, List.range_succ, List.map_append]; rfl
theorem pcb_cby {A : Ec.Pt FP} (h : (vp A).o = false) : pcb (2 + (vp A).y % 2) (vp A).x 32 = bcells (cby A) := by
  rw [pcb_eq, cby_at h]
  simp [bcells, be32, byteAt]
theorem rbx {x m q : Nat} {s : Int} (hq : (31 - m) / 8 = q) (hm : m < 32) (hs : s = 2 ^ (8 * ((31 - m) % 8))) : Int.tmod (((limb x q : Nat) : Int) / s) 256 = byteAt x m := by
  rw [Int.tmod_eq_emod_of_nonneg (by
    rw [hs]; exact Int.ediv_nonneg (by omega) (Int.pow_nonneg (by decide))), hs, byte_limb x (31 - m) q hq (by omega), show 31 - (31 - m) = m by omega]
set_option maxHeartbeats 8000000 in
set_option maxRecDepth 100000 in
theorem rbytes_c {A : Ec.Pt FP} (w : World) : Calls Try.prog 29 #[pvp A] w (CbR w A) := by
 refine enterQ 35 (fun q => .seq (q 0) (.seq (.seq (q 1) (.cond (.tmp 6) (.seq (q 2) .ret) .skip)) (.seq (q 3) (.seq (.seq (q 4) (.block 0 (.loop (.seq (.seq (q 5) (.cond (.tmp 16) .skip (.exit 0))) (.seq (.block 1 (q 7)) (q 6)))))) (.seq (q 8) .ret))))) (Sx.nil w) Try.func29 ?_
 refine Cd.sr ?_
 refine At.new 0 [] 1 (pcs ((vp A).x) ((vp A).y) ((vp A).o)) 30 fun g1 h1 => ?_
 refine At.run 1 [] [] ?_
 refine At.nx ?_
 refine Cd.seq ?_
 refine Cd.sr ?_
 refine At.run 2 [] [(6, .bool ((vp A).o))] ?_
 refine At.nx ?_
 rcases Bool.eq_false_or_eq_true ((vp A).o) with hb | hb
 next =>
  refine Cd.eqv 6 (.bool ((vp A).o)) (.bool true) (congrArg _ hb) ?_
  refine Cd.ct ?_
  refine Cd.sr ?_
  refine At.sli 0 [] 7 1 (#[.int .u8 0]) 5 fun g7 h7 => ?_
  refine At.as (fun _ S => S.ogrow (cs := [.int .u8 0]) h7 rfl) ?_
  refine At.run 1 [] [(2, (lt0 (some ⟨g7, 0, none⟩) 1 1).sl)] ?_
  refine At.nx ?_
  exact Cd.rv (rt r0) [] ((lt0 (some ⟨g7, 0, none⟩) 1 1).sl) fun W S => cbr_of (y := (lt0 (some ⟨g7, 0, none⟩) 1 1)) (z0_lt0 _ _ _) (S.og 0 rfl) (by rw [cby_none hb]; rfl) (S.ogown 0 rfl) S.below
 next =>
  refine Cd.eqv 6 (.bool ((vp A).o)) (.bool false) (congrArg _ hb) ?_
  refine Cd.cf ?_
  refine Cd.sk ?_
  show Cd _ _ _ _ _ _ _ _
  refine Cd.sr ?_
  refine At.ar 4 [] 11 (.int .u64 (Int.tmod ((limb (vp A).y 0 : Nat) : Int) 2)) (.int .u64 (((vp A).y % 2 : Nat) : Int)) (congrArg _ (par_y _)) ?_
  refine At.ar 1 [] 12 (.int .u8 (IntKind.u8.wrap (((vp A).y % 2 : Nat) : Int))) (.int .u8 (((vp A).y % 2 : Nat) : Int)) (congrArg _ (wr8 (by omega) (by omega))) ?_
  refine At.ar 1 [] 13 (.int .u8 (IntKind.u8.wrap (2 + (((vp A).y % 2 : Nat) : Int)))) (.int .u8 ((2 + (vp A).y % 2 : Nat) : Int)) (congrArg _ ((wr8 (by omega) (by omega)).trans (by omega))) ?_
  refine At.sli 0 [] 14 1 (#[.int .u8 ((2 + (vp A).y % 2 : Nat) : Int)]) 5 fun g14 h14 => ?_
  refine At.as (fun _ S => S.ogrow (cs := [.int .u8 ((2 + (vp A).y % 2 : Nat) : Int)]) h14 rfl) ?_
  refine At.run 1 [] [(3, (lt0 (some ⟨g14, 0, none⟩) 1 1).sl)] ?_
  refine At.nx ?_
  refine Cd.seq ?_
  refine Cd.sr ?_
  refine At.run 1 [] [(4, .int .i64 31)] ?_
  refine At.nx ?_
  refine Cd.blk ?_
  refine Cd.loop (ι := {p : Nat × Lt // p.1 ≤ 32 ∧ p.2.n = p.1 + 1 ∧ Z0 p.2.sl}) (fun p => 33 - p.1.1) (fun p => [(1, pt g1), (3, p.1.2.sl), (4, .int .i64 (31 - ((p.1.1 : Nat) : Int)))]) (fun p => [(g1, .cells (pcs ((vp A).x) ((vp A).y) ((vp A).o)) 30 (0, 0))]) (fun p => [xog 5 w p.1.2.sl (pcb (2 + (vp A).y % 2) (vp A).x p.1.1)]) (⟨(0, (lt0 (some ⟨g14, 0, none⟩) 1 1)), ⟨Nat.zero_le _, rfl, z0_lt0 _ _ _⟩⟩) (fun _ S => S) (fun p => ?_) 
  obtain ⟨⟨m, y⟩, hm, hy, hz⟩ := p
  have hm : m ≤ 32 := hm
  rcases (by omega : m = 0 ∨ m = 1 ∨ m = 2 ∨ m = 3 ∨ m = 4 ∨ m = 5 ∨ m = 6 ∨ m = 7 ∨ m = 8 ∨ m = 9 ∨ m = 10 ∨ m = 11 ∨ m = 12 ∨ m = 13 ∨ m = 14 ∨ m = 15 ∨ m = 16 ∨ m = 17 ∨ m = 18 ∨ m = 19 ∨ m = 20 ∨ m = 21 ∨ m = 22 ∨ m = 23 ∨ m = 24 ∨ m = 25 ∨ m = 26 ∨ m = 27 ∨ m = 28 ∨ m = 29 ∨ m = 30 ∨ m = 31 ∨ m = 32) with h | h | h | h | h | h | h | h | h | h | h | h | h | h | h | h | h | h | h | h | h | h | h | h | h | h | h | h | h | h | h | h | h
  next =>
   refine Cd.eqv 4 (.int .i64 (31 - ((m : Nat) : Int))) (.int .i64 31) (congrArg _ (by rw [h]; decide)) ?_
   refine Cd.seq ?_
   refine Cd.sr ?_
   refine At.run 2 [] [(16, .bool true)] ?_
   refine At.nx ?_
   refine Cd.ct ?_
   refine Cd.sk ?_
   show Cd _ _ _ _ _ _ _ _
   refine Cd.seq ?_
   refine Cd.blk ?_
   refine Cd.rg ?_
   refine At.run 10 [] [(19, y.sl), (24, .int .u64 (limb ((vp A).x) 3 : Nat)), (28, .int .u64 56)] ?_
   refine At.ar 1 [] 29 (.int .u64 (Int.fdiv ((limb (vp A).x 3 : Nat) : Int) 72057594037927936)) (.int .u64 (((limb (vp A).x 3 : Nat) : Int) / 72057594037927936)) (congrArg _ (Int.fdiv_eq_ediv_of_nonneg _ (by decide))) ?_
   refine At.ar 1 [] 30 (.int .u64 (Int.tmod (((limb (vp A).x 3 : Nat) : Int) / 72057594037927936) 256)) (.int .u64 (byteAt (vp A).x m)) (congrArg _ (rbx (m := m) (by rw [h]) (by omega) (by rw [h]; decide))) ?_
   refine At.ar 1 [] 31 (.int .u8 (IntKind.u8.wrap (byteAt (vp A).x m))) (.int .u8 (byteAt (vp A).x m)) (congrArg _ (wr8 (bytes8_byteAt _ m).1 (bytes8_byteAt _ m).2)) ?_
   refine At.sli 0 [] 32 1 (#[.int .u8 (byteAt (vp A).x m)]) 5 fun g32 h32 => ?_
   refine At.app 0 [] 33 (TT := 49) (xv := .slice (some ⟨g32, 0, none⟩) 1 1) (z := .int .u8 0) (sb' := 1) (ys := [.int .u8 (byteAt (vp A).x m)]) 0 rfl (fun W S => S.srcg 0 rfl rfl) (by rw [pcb_len]; show (m + 1 + 1) * 1 ≤ _; omega) (by rw [pcb_len]; show m + 1 + 1 ≤ _; omega) fun y1 hy1 zy1 => ?_
   refine At.run 1 [] [(3, y1.sl)] ?_
   refine At.fin ?_
   show Cd _ _ _ _ _ _ _ _
   refine Cd.rg ?_
   refine At.ar 2 [] 18 (.int .i64 30) (.int .i64 (31 - ((m + 1 : Nat) : Int))) (congrArg _ (by rw [h]; decide)) ?_
   refine At.run 1 [] [(4, .int .i64 (31 - ((m + 1 : Nat) : Int)))] ?_
   refine At.fin ?_
   exact again_of (⟨(m + 1, y1), ⟨(by omega : m + 1 ≤ 32), by rw [hy1, List.length_append, pcb_len]; rfl, zy1 hz⟩⟩) (by show 33 - (m + 1) < 33 - m; omega) (fun _ S => S.tl)
  next =>
   refine Cd.eqv 4 (.int .i64 (31 - ((m : Nat) : Int))) (.int .i64 30) (congrArg _ (by rw [h]; decide)) ?_
   refine Cd.seq ?_
   refine Cd.sr ?_
   refine At.run 2 [] [(16, .bool true)] ?_
   refine At.nx ?_
   refine Cd.ct ?_
   refine Cd.sk ?_
   show Cd _ _ _ _ _ _ _ _
   refine Cd.seq ?_
   refine Cd.blk ?_
   refine Cd.rg ?_
   refine At.run 10 [] [(19, y.sl), (24, .int .u64 (limb ((vp A).x) 3 : Nat)), (28, .int .u64 48)] ?_
   refine At.ar 1 [] 29 (.int .u64 (Int.fdiv ((limb (vp A).x 3 : Nat) : Int) 281474976710656)) (.int .u64 (((limb (vp A).x 3 : Nat) : Int) / 281474976710656)) (congrArg _ (Int.fdiv_eq_ediv_of_nonneg _ (by decide))) ?_
   refine At.ar 1 [] 30 (.int .u64 (Int.tmod (((limb (vp A).x 3 : Nat) : Int) / 281474976710656) 256)) (.int .u64 (byteAt (vp A).x m)) (congrArg _ (rbx (m := m) (by rw [h]) (by omega) (by rw [h]; decide))) ?_
   refine At.ar 1 [] 31 (.int .u8 (IntKind.u8.wrap (byteAt (vp A).x m))) (.int .u8 (byteAt (vp A).x m)) (congrArg _ (wr8 (bytes8_byteAt _ m).1 (bytes8_byteAt _ m).2)) ?_
   refine At.sli 0 [] 32 1 (#[.int .u8 (byteAt (vp A).x m)]) 5 fun g32 h32 => ?_
   refine At.app 0 [] 33 (TT := 49) (xv := .slice (some ⟨g32, 0, none⟩) 1 1) (z := .int .u8 0) (sb' := 1) (ys := [.int .u8 (byteAt (vp A).x m)]) 0 rfl (fun W S => S.srcg 0 rfl rfl) (by rw [pcb_len]; show (m + 1 + 1) * 1 ≤ _; omega) (by rw [pcb_len]; show m + 1 + 1 ≤ _; omega) fun y2 hy2 zy2 => ?_
   refine At.run 1 [] [(3, y2.sl)] ?_
   refine At.fin ?_
   show Cd _ _ _ _ _ _ _ _
   refine Cd.rg ?_
   refine At.ar 2 [] 18 (.int .i64 29) (.int .i64 (31 - ((m + 1 : Nat) : Int))) (congrArg _ (by rw [h]; decide)) ?_
   refine At.run 1 [] [(4, .int .i64 (31 - ((m + 1 : Nat) : Int)))] ?_
   refine At.fin ?_
   exact again_of (⟨(m + 1, y2), ⟨(by omega : m + 1 ≤ 32), by rw [hy2, List.length_append, pcb_len]; rfl, zy2 hz⟩⟩) (by show 33 - (m + 1) < 33 - m; omega) (fun _ S => S.tl)
  next =>
   refine Cd.eqv 4 (.int .i64 (31 - ((m : Nat) : Int))) (.int .i64 29) (congrArg _ (by rw [h]; decide)) ?_
   refine Cd.seq ?_
   refine Cd.sr ?_
   refine At.run 2 [] [(16, .bool true)] ?_
   refine At.nx ?_
   refine Cd.ct ?_
   refine Cd.sk ?_
   show Cd _ _ _ _ _ _ _ _
   refine Cd.seq ?_
   refine Cd.blk ?_
   refine Cd.rg ?_
   refine At.run 10 [] [(19, y.sl), (24, .int .u64 (limb ((vp A).x) 3 : Nat)), (28, .int .u64 40)] ?_
   refine At.ar 1 [] 29 (.int .u64 (Int.fdiv ((limb (vp A).x 3 : Nat) : Int) 1099511627776)) (.int .u64 (((limb (vp A).x 3 : Nat) : Int) / 1099511627776)) (congrArg _ (Int.fdiv_eq_ediv_of_nonneg _ (by decide))) ?_
   refine At.ar 1 [] 30 (.int .u64 (Int.tmod (((limb (vp A).x 3 : Nat) : Int) / 1099511627776) 256)) (.int .u64 (byteAt (vp A).x m)) (congrArg _ (rbx (m := m) (by rw [h]) (by omega) (by rw [h]; decide))) ?_
   refine At.ar 1 [] 31 (.int .u8 (IntKind.u8.wrap (byteAt (vp A).x m))) (.int .u8 (byteAt (vp A).x m)) (congrArg _ (wr8 (bytes8_byteAt _ m).1 (bytes8_byteAt _ m).2)) ?_
   refine At.sli 0 [] 32 1 (#[.int .u8 (byteAt (vp A).x m)]) 5 fun g32 h32 => ?_
   refine At.app 0 [] 33 (TT := 49) (xv := .slice (some ⟨g32, 0, none⟩) 1 1) (z := .int .u8 0) (sb' := 1) (ys := [.int .u8 (byteAt (vp A).x m)]) 0 rfl (fun W S => S.srcg 0 rfl rfl) (by rw [pcb_len]; show (m + 1 + 1) * 1 ≤ _; omega) (by rw [pcb_len]; show m + 1 + 1 ≤ _; omega) fun y3 hy3 zy3 => ?_
   refine At.run 1 [] [(3, y3.sl)] ?_
   refine At.fin ?_
   show Cd _ _ _ _ _ _ _ _
   refine Cd.rg ?_
   refine At.ar 2 [] 18 (.int .i64 28) (.int .i64 (31 - ((m + 1 : Nat) : Int))) (congrArg _ (by rw [h]; decide)) ?_
   refine At.run 1 [] [(4, .int .i64 (31 - ((m + 1 : Nat) : Int)))] ?_
   refine At.fin ?_
   exact again_of (⟨(m + 1, y3), ⟨(by omega : m + 1 ≤ 32), by rw [hy3, List.length_append, pcb_len]; rfl, zy3 hz⟩⟩) (by show 33 - (m + 1) < 33 - m; omega) (fun _ S => S.tl)
  next =>
   refine Cd.eqv 4 (.int .i64 (31 - ((m : Nat) : Int))) (.int .i64 28) (congrArg _ (by rw [h]; decide)) ?_
   refine Cd.seq ?_
   refine Cd.sr ?_
   refine At.run 2 [] [(16, .bool true)] ?_
   refine At.nx ?_
   refine Cd.ct ?_
   refine Cd.sk ?_
   show Cd _ _ _ _ _ _ _ _
   refine Cd.seq ?_
   refine Cd.blk ?_
   refine Cd.rg ?_
   refine At.run 10 [] [(19, y.sl), (24, .int .u64 (limb ((vp A).x) 3 : Nat)), (28, .int .u64 32)] ?_
   refine At.ar 1 [] 29 (.int .u64 (Int.fdiv ((limb (vp A).x 3 : Nat) : Int) 4294967296)) (.int .u64 (((limb (vp A).x 3 : Nat) : Int) / 4294967296)) (congrArg _ (Int.fdiv_eq_ediv_of_nonneg _ (by decide))) ?_
   refine At.ar 1 [] 30 (.int .u64 (Int.tmod (((limb (vp A).x 3 : Nat) : Int) / 4294967296) 256)) (.int .u64 (byteAt (vp A).x m)) (congrArg _ (rbx (m := m) (by rw [h]) (by omega) (by rw [h]; decide))) ?_
   refine At.ar 1 [] 31 (.int .u8 (IntKind.u8.wrap (byteAt (vp A).x m))) (.int .u8 (byteAt (vp A).x m)) (congrArg _ (wr8 (bytes8_byteAt _ m).1 (bytes8_byteAt _ m).2)) ?_
   refine At.sli 0 [] 32 1 (#[.int .u8 (byteAt (vp A).x m)]) 5 fun g32 h32 => ?_
   refine At.app 0 [] 33 (TT := 49) (xv := .slice (some ⟨g32, 0, none⟩) 1 1) (z := .int .u8 0) (sb' := 1) (ys := [.int .u8 (byteAt (vp A).x m)]) 0 rfl (fun W S => S.srcg 0 rfl rfl) (by rw [pcb_len]; show (m + 1 + 1) * 1 ≤ _; omega) (by rw [pcb_len]; show m + 1 + 1 ≤ _; omega) fun y4 hy4 zy4 => ?_
   refine At.run 1 [] [(3, y4.sl)] ?_
   refine At.fin ?_
   show Cd _ _ _ _ _ _ _ _
   refine Cd.rg ?_
   refine At.ar 2 [] 18 (.int .i64 27) (.int .i64 (31 - ((m + 1 : Nat) : Int))) (congrArg _ (by rw [h]; decide)) ?_
   refine At.run 1 [] [(4, .int .i64 (31 - ((m + 1 : Nat) : Int)))] ?_
   refine At.fin ?_
   exact again_of (⟨(m + 1, y4), ⟨(by omega : m + 1 ≤ 32), by rw [hy4, List.length_append, pcb_len]; rfl, zy4 hz⟩⟩) (by show 33 - (m + 1) < 33 - m; omega) (fun _ S => S.tl)
  next =>
   refine Cd.eqv 4 (.int .i64 (31 - ((m : Nat) : Int))) (.int .i64 27) (congrArg _ (by rw [h]; decide)) ?_
   refine Cd.seq ?_
   refine Cd.sr ?_
   refine At.run 2 [] [(16, .bool true)] ?_
   refine At.nx ?_
   refine Cd.ct ?_
   refine Cd.sk ?_
   show Cd _ _ _ _ _ _ _ _
   refine Cd.seq ?_
   refine Cd.blk ?_
   refine Cd.rg ?_
   refine At.run 10 [] [(19, y.sl), (24, .int .u64 (limb ((vp A).x) 3 : Nat)), (28, .int .u64 24)] ?_
   refine At.ar 1 [] 29 (.int .u64 (Int.fdiv ((limb (vp A).x 3 : Nat) : Int) 16777216)) (.int .u64 (((limb (vp A).x 3 : Nat) : Int) / 16777216)) (congrArg _ (Int.fdiv_eq_ediv_of_nonneg _ (by decide))) ?_
   refine At.ar 1 [] 30 (.int .u64 (Int.tmod (((limb (vp A).x 3 : Nat) : Int) / 16777216) 256)) (.int .u64 (byteAt (vp A).x m)) (congrArg _ (rbx (m := m) (by rw [h]) (by omega) (by rw [h]; decide))) ?_
   refine At.ar 1 [] 31 (.int .u8 (IntKind.u8.wrap (byteAt (vp A).x m))) (.int .u8 (byteAt (vp A).x m)) (congrArg _ (wr8 (bytes8_byteAt _ m).1 (bytes8_byteAt _ m).2)) ?_
   refine At.sli 0 [] 32 1 (#[.int .u8 (byteAt (vp A).x m)]) 5 fun g32 h32 => ?_
   refine At.app 0 [] 33 (TT := 49) (xv := .slice (some ⟨g32, 0, none⟩) 1 1) (z := .int .u8 0) (sb' := 1) (ys := [.int .u8 (byteAt (vp A).x m)]) 0 rfl (fun W S => S.srcg 0 rfl rfl) (by rw [pcb_len]; show (m + 1 + 1) * 1 ≤ _; omega) (by rw [pcb_len]; show m + 1 + 1 ≤ _; omega) fun y5 hy5 zy5 => ?_
   refine At.run 1 [] [(3, y5.sl)] ?_
   refine At.fin ?_
   show Cd _ _ _ _ _ _ _ _
   refine Cd.rg ?_
   refine At.ar 2 [] 18 (.int .i64 26) (.int .i64 (31 - ((m + 1 : Nat) : Int))) (congrArg _ (by rw [h]; decide)) ?_
   refine At.run 1 [] [(4, .int .i64 (31 - ((m + 1 : Nat) : Int)))] ?_
   refine At.fin ?_
   exact again_of (⟨(m + 1, y5), ⟨(by omega : m + 1 ≤ 32), by rw [hy5, List.length_append, pcb_len]; rfl, zy5 hz⟩⟩) (by show 33 - (m + 1) < 33 - m; omega) (fun _ S => S.tl)
  next =>
   refine Cd.eqv 4 (.int .i64 (31 - ((m : Nat) : Int))) (.int .i64 26) (congrArg _ (by rw [h]; decide)) ?_
   refine Cd.seq ?_
   refine Cd.sr ?_
   refine At.run 2 [] [(16, .bool true)] ?_
   refine At.nx ?_
   refine Cd.ct ?_
   refine Cd.sk ?_
   show Cd _ _ _ _ _ _ _ _
   refine Cd.seq ?_
   refine Cd.blk ?_
   refine Cd.rg ?_
   refine At.run 10 [] [(19, y.sl), (24, .int .u64 (limb ((vp A).x) 3 : Nat)), (28, .int .u64 16)] ?_
   refine At.ar 1 [] 29 (.int .u64 (Int.fdiv ((limb (vp A).x 3 : Nat) : Int) 65536)) (.int .u64 (((limb (vp A).x 3 : Nat) : Int) / 65536)) (congrArg _ (Int.fdiv_eq_ediv_of_nonneg _ (by decide))) ?_
   refine At.ar 1 [] 30 (.int .u64 (Int.tmod (((limb (vp A).x 3 : Nat) : Int) / 65536) 256)) (.int .u64 (byteAt (vp A).x m)) (congrArg _ (rbx (m := m) (by rw [h]) (by omega) (by rw [h]; decide))) ?_
   refine At.ar 1 [] 31 (.int .u8 (IntKind.u8.wrap (byteAt (vp A).x m))) (.int .u8 (byteAt (vp A).x m)) (congrArg _ (wr8 (bytes8_byteAt _ m).1 (bytes8_byteAt _ m).2)) ?_
   refine At.sli 0 [] 32 1 (#[.int .u8 (byteAt (vp A).x m)]) 5 fun g32 h32 => ?_
   refine At.app 0 [] 33 (TT := 49) (xv := .slice (some ⟨g32, 0, none⟩) 1 1) (z := .int .u8 0) (sb' := 1) (ys := [.int .u8 (byteAt (vp A).x m)]) 0 rfl (fun W S => S.srcg 0 rfl rfl) (by rw [pcb_len]; show (m + 1 + 1) * 1 ≤ _; omega) (by rw [pcb_len]; show m + 1 + 1 ≤ _; omega) fun y6 hy6 zy6 => ?_
   refine At.run 1 [] [(3, y6.sl)] ?_
   refine At.fin ?_
   show Cd _ _ _ _ _ _ _ _
   refine Cd.rg ?_
   refine At.ar 2 [] 18 (.int .i64 25) (.int .i64 (31 - ((m + 1 : Nat) : Int))) (congrArg _ (by rw [h]; decide)) ?_
   refine At.run 1 [] [(4, .int .i64 (31 - ((m + 1 : Nat) : Int)))] ?_
   refine At.fin ?_
   exact again_of (⟨(m + 1, y6), ⟨(by omega : m + 1 ≤ 32), by rw [hy6, List.length_append, pcb_len]; rfl, zy6 hz⟩⟩) (by show 33 - (m + 1) < 33 - m; omega) (fun _ S => S.tl)
  next =>
   refine Cd.eqv 4 (.int .i64 (31 - ((m : Nat) : Int))) (.int .i64 25) (congrArg _ (by rw [h]; decide)) ?_
   refine Cd.seq ?_
   refine Cd.sr ?_
   refine At.run 2 [] [(16, .bool true)] ?_
   refine At.nx ?_
   refine Cd.ct ?_
   refine Cd.sk ?_
   show Cd _ _ _ _ _ _ _ _
   refine Cd.seq ?_
   refine Cd.blk ?_
   refine Cd.rg ?_
   refine At.run 10 [] [(19, y.sl), (24, .int .u64 (limb ((vp A).x) 3 : Nat)), (28, .int .u64 8)] ?_
   refine At.ar 1 [] 29 (.int .u64 (Int.fdiv ((limb (vp A).x 3 : Nat) : Int) 256)) (.int .u64 (((limb (vp A).x 3 : Nat) : Int) / 256)) (congrArg _ (Int.fdiv_eq_ediv_of_nonneg _ (by decide))) ?_
   refine At.ar 1 [] 30 (.int .u64 (Int.tmod (((limb (vp A).x 3 : Nat) : Int) / 256) 256)) (.int .u64 (byteAt (vp A).x m)) (congrArg _ (rbx (m := m) (by rw [h]) (by omega) (by rw [h]; decide))) ?_
   refine At.ar 1 [] 31 (.int .u8 (IntKind.u8.wrap (byteAt (vp A).x m))) (.int .u8 (byteAt (vp A).x m)) (congrArg _ (wr8 (bytes8_byteAt _ m).1 (bytes8_byteAt _ m).2)) ?_
   refine At.sli 0 [] 32 1 (#[.int .u8 (byteAt (vp A).x m)]) 5 fun g32 h32 => ?_
   refine At.app 0 [] 33 (TT := 49) (xv := .slice (some ⟨g32, 0, none⟩) 1 1) (z := .int .u8 0) (sb' := 1) (ys := [.int .u8 (byteAt (vp A).x m)]) 0 rfl (fun W S => S.srcg 0 rfl rfl) (by rw [pcb_len]; show (m + 1 + 1) * 1 ≤ _; omega) (by rw [pcb_len]; show m + 1 + 1 ≤ _; omega) fun y7 hy7 zy7 => ?_
   refine At.run 1 [] [(3, y7.sl)] ?_
   refine At.fin ?_
   show Cd _ _ _ _ _ _ _ _
   refine Cd.rg ?_
   refine At.ar 2 [] 18 (.int .i64 24) (.int .i64 (31 - ((m + 1 : Nat) : Int))) (congrArg _ (by rw [h]; decide)) ?_
   refine At.run 1 [] [(4, .int .i64 (31 - ((m + 1 : Nat) : Int)))] ?_
   refine At.fin ?_
   exact again_of (⟨(m + 1, y7), ⟨(by omega : m + 1 ≤ 32), by rw [hy7, List.length_append, pcb_len]; rfl, zy7 hz⟩⟩) (by show 33 - (m + 1) < 33 - m; omega) (fun _ S => S.tl)
  next =>
   refine Cd.eqv 4 (.int .i64 (31 - ((m : Nat) : Int))) (.int .i64 24) (congrArg _ (by rw [h]; decide)) ?_
   refine Cd.seq ?_
   refine Cd.sr ?_
   refine At.run 2 [] [(16, .bool true)] ?_
   refine At.nx ?_
   refine Cd.ct ?_
   refine Cd.sk ?_
   show Cd _ _ _ _ _ _ _ _
   refine Cd.seq ?_
   refine Cd.blk ?_
   refine Cd.rg ?_
   refine At.run 10 [] [(19, y.sl), (24, .int .u64 (limb ((vp A).x) 3 : Nat)), (28, .int .u64 0)] ?_
   refine At.ar 1 [] 29 (.int .u64 (Int.fdiv ((limb (vp A).x 3 : Nat) : Int) 1)) (.int .u64 (((limb (vp A).x 3 : Nat) : Int) / 1)) (congrArg _ (Int.fdiv_eq_ediv_of_nonneg _ (by decide))) ?_
   refine At.ar 1 [] 30 (.int .u64 (Int.tmod (((limb (vp A).x 3 : Nat) : Int) / 1) 256)) (.int .u64 (byteAt (vp A).x m)) (congrArg _ (rbx (m := m) (by rw [h]) (by omega) (by rw [h]; decide))) ?_
   refine At.ar 1 [] 31 (.int .u8 (IntKind.u8.wrap (byteAt (vp A).x m))) (.int .u8 (byteAt (vp A).x m)) (congrArg _ (wr8 (bytes8_byteAt _ m).1 (bytes8_byteAt _ m).2)) ?_
   refine At.sli 0 [] 32 1 (#[.int .u8 (byteAt (vp A).x m)]) 5 fun g32 h32 => ?_
   refine At.app 0 [] 33 (TT := 49) (xv := .slice (some ⟨g32, 0, none⟩) 1 1) (z := .int .u8 0) (sb' := 1) (ys := [.int .u8 (byteAt (vp A).x m)]) 0 rfl (fun W S => S.srcg 0 rfl rfl) (by rw [pcb_len]; show (m + 1 + 1) * 1 ≤ _; omega) (by rw [pcb_len]; show m + 1 + 1 ≤ _; omega) fun y8 hy8 zy8 => ?_
   refine At.run 1 [] [(3, y8.sl)] ?_
   refine At.fin ?_
   show Cd _ _ _ _ _ _ _ _
   refine Cd.rg ?_
   refine At.ar 2 [] 18 (.int .i64 23) (.int .i64 (31 - ((m + 1 : Nat) : Int))) (congrArg _ (by rw [h]; decide)) ?_
   refine At.run 1 [] [(4, .int .i64 (31 - ((m + 1 : Nat) : Int)))] ?_
   refine At.fin ?_
   exact again_of (⟨(m + 1, y8), ⟨(by omega : m + 1 ≤ 32), by rw [hy8, List.length_append, pcb_len]; rfl, zy8 hz⟩⟩) (by show 33 - (m + 1) < 33 - m; omega) (fun _ S => S.tl)
  next =>
   refine Cd.eqv 4 (.int .i64 (31 - ((m : Nat) : Int))) (.int .i64 23) (congrArg _ (by rw [h]; decide)) ?_
   refine Cd.seq ?_
   refine Cd.sr ?_
   refine At.run 2 [] [(16, .bool true)] ?_
   refine At.nx ?_
   refine Cd.ct ?_
   refine Cd.sk ?_
   show Cd _ _ _ _ _ _ _ _
   refine Cd.seq ?_
   refine Cd.blk ?_
   refine Cd.rg ?_
   refine At.run 10 [] [(19, y.sl), (24, .int .u64 (limb ((vp A).x) 2 : Nat)), (28, .int .u64 56)] ?_
   refine At.ar 1 [] 29 (.int .u64 (Int.fdiv ((limb (vp A).x 2 : Nat) : Int) 72057594037927936)) (.int .u64 (((limb (vp A).x 2 : Nat) : Int) / 72057594037927936)) (congrArg _ (Int.fdiv_eq_ediv_of_nonneg _ (by decide))) ?_
   refine At.ar 1 [] 30 (.int .u64 (Int.tmod (((limb (vp A).x 2 : Nat) : Int) / 72057594037927936) 256)) (.int .u64 (byteAt (vp A).x m)) (congrArg _ (rbx (m := m) (by rw [h]) (by omega) (by rw [h]; decide))) ?_
   refine At.ar 1 [] 31 (.int .u8 (IntKind.u8.wrap (byteAt (vp A).x m))) (.int .u8 (byteAt (vp A).x m)) (congrArg _ (wr8 (bytes8_byteAt _ m).1 (bytes8_byteAt _ m).2)) ?_
   refine At.sli 0 [] 32 1 (#[.int .u8 (byteAt (vp A).x m)]) 5 fun g32 h32 => ?_
   refine At.app 0 [] 33 (TT := 49) (xv := .slice (some ⟨g32, 0, none⟩) 1 1) (z := .int .u8 0) (sb' := 1) (ys := [.int .u8 (byteAt (vp A).x m)]) 0 rfl (fun W S => S.srcg 0 rfl rfl) (by rw [pcb_len]; show (m + 1 + 1) * 1 ≤ _; omega) (by rw [pcb_len]; show m + 1 + 1 ≤ _; omega) fun y9 hy9 zy9 => ?_
   refine At.run 1 [] [(3, y9.sl)] ?_
   refine At.fin ?_
   show Cd _ _ _ _ _ _ _ _
   refine Cd.rg ?_
   refine At.ar 2 [] 18 (.int .i64 22) (.int .i64 (31 - ((m + 1 : Nat) : Int))) (congrArg _ (by rw [h]; decide)) ?_
   refine At.run 1 [] [(4, .int .i64 (31 - ((m + 1 : Nat) : Int)))] ?_
   refine At.fin ?_
   exact again_of (⟨(m + 1, y9), ⟨(by omega : m + 1 ≤ 32), by rw [hy9, List.length_append, pcb_len]; rfl, zy9 hz⟩⟩) (by show 33 - (m + 1) < 33 - m; omega) (fun _ S => S.tl)
  next =>
   refine Cd.eqv 4 (.int .i64 (31 - ((m : Nat) : Int))) (.int .i64 22) (congrArg _ (by rw [h]; decide)) ?_
   refine Cd.seq ?_
   refine Cd.sr ?_
   refine At.run 2 [] [(16, .bool true)] ?_
   refine At.nx ?_
   refine Cd.ct ?_
   refine Cd.sk ?_
   show Cd _ _ _ _ _ _ _ _
   refine Cd.seq ?_
   refine Cd.blk ?_
   refine Cd.rg ?_
   refine At.run 10 [] [(19, y.sl), (24, .int .u64 (limb ((vp A).x) 2 : Nat)), (28, .int .u64 48)] ?_
   refine At.ar 1 [] 29 (.int .u64 (Int.fdiv ((limb (vp A).x 2 : Nat) : Int) 281474976710656)) (.int .u64 (((limb (vp A).x 2 : Nat) : Int) / 281474976710656)) (congrArg _ (Int.fdiv_eq_ediv_of_nonneg _ (by decide))) ?_
   refine At.ar 1 [] 30 (.int .u64 (Int.tmod (((limb (vp A).x 2 : Nat) : Int) / 281474976710656) 256)) (.int .u64 (byteAt (vp A).x m)) (congrArg _ (rbx (m := m) (by rw [h]) (by omega) (by rw [h]; decide))) ?_
   refine At.ar 1 [] 31 (.int .u8 (IntKind.u8.wrap (byteAt (vp A).x m))) (.int .u8 (byteAt (vp A).x m)) (congrArg _ (wr8 (bytes8_byteAt _ m).1 (bytes8_byteAt _ m).2)) ?_
   refine At.sli 0 [] 32 1 (#[.int .u8 (byteAt (vp A).x m)]) 5 fun g32 h32 => ?_
   refine At.app 0 [] 33 (TT := 49) (xv := .slice (some ⟨g32, 0, none⟩) 1 1) (z := .int .u8 0) (sb' := 1) (ys := [.int .u8 (byteAt (vp A).x m)]) 0 rfl (fun W S => S.srcg 0 rfl rfl) (by rw [pcb_len]; show (m + 1 + 1) * 1 ≤ _; omega) (by rw [pcb_len]; show m + 1 + 1 ≤ _; omega) fun y10 hy10 zy10 => ?_
   refine At.run 1 [] [(3, y10.sl)] ?_
   refine At.fin ?_
   show Cd _ _ _ _ _ _ _ _
   refine Cd.rg ?_
   refine At.ar 2 [] 18 (.int .i64 21) (.int .i64 (31 - ((m + 1 : Nat) : Int))) (congrArg _ (by rw [h]; decide)) ?_
   refine At.run 1 [] [(4, .int .i64 (31 - ((m + 1 : Nat) : Int)))] ?_
   refine At.fin ?_
   exact again_of (⟨(m + 1, y10), ⟨(by omega : m + 1 ≤ 32), by rw [hy10, List.length_append, pcb_len]; rfl, zy10 hz⟩⟩) (by show 33 - (m + 1) < 33 - m; omega) (fun _ S => S.tl)
  next =>
   refine Cd.eqv 4 (.int .i64 (31 - ((m : Nat) : Int))) (.int .i64 21) (congrArg _ (by rw [h]; decide)) ?_
   refine Cd.seq ?_
   refine Cd.sr ?_
   refine At.run 2 [] [(16, .bool true)] ?_
   refine At.nx ?_
   refine Cd.ct ?_
   refine Cd.sk ?_
   show Cd _ _ _ _ _ _ _ _
   refine Cd.seq ?_
   refine Cd.blk ?_
   refine Cd.rg ?_
   refine At.run 10 [] [(19, y.sl), (24, .int .u64 (limb ((vp A).x) 2 : Nat)), (28, .int .u64 40)] ?_
   refine At.ar 1 [] 29 (.int .u64 (Int.fdiv ((limb (vp A).x 2 : Nat) : Int) 1099511627776)) (.int .u64 (((limb (vp A).x 2 : Nat) : Int) / 1099511627776)) (congrArg _ (Int.fdiv_eq_ediv_of_nonneg _ (by decide))) ?_
   refine At.ar 1 [] 30 (.int .u64 (Int.tmod (((limb (vp A).x 2 : Nat) : Int) / 1099511627776) 256)) (.int .u64 (byteAt (vp A).x m)) (congrArg _ (rbx (m := m) (by rw [h]) (by omega) (by rw [h]; decide))) ?_
   refine At.ar 1 [] 31 (.int .u8 (IntKind.u8.wrap (byteAt (vp A).x m))) (.int .u8 (byteAt (vp A).x m)) (congrArg _ (wr8 (bytes8_byteAt _ m).1 (bytes8_byteAt _ m).2)) ?_
   refine At.sli 0 [] 32 1 (#[.int .u8 (byteAt (vp A).x m)]) 5 fun g32 h32 => ?_
   refine At.app 0 [] 33 (TT := 49) (xv := .slice (some ⟨g32, 0, none⟩) 1 1) (z := .int .u8 0) (sb' := 1) (ys := [.int .u8 (byteAt (vp A).x m)]) 0 rfl (fun W S => S.srcg 0 rfl rfl) (by rw [pcb_len]; show (m + 1 + 1) * 1 ≤ _; omega) (by rw [pcb_len]; show m + 1 + 1 ≤ _; omega) fun y11 hy11 zy11 => ?_
   refine At.run 1 [] [(3, y11.sl)] ?_
   refine At.fin ?_
   show Cd _ _ _ _ _ _ _ _
   refine Cd.rg ?_
   refine At.ar 2 [] 18 (.int .i64 20) (.int .i64 (31 - ((m + 1 : Nat) : Int))) (congrArg _ (by rw [h]; decide)) ?_
   refine At.run 1 [] [(4, .int .i64 (31 - ((m + 1 : Nat) : Int)))] ?_
   refine At.fin ?_
   exact again_of (⟨(m + 1, y11), ⟨(by omega : m + 1 ≤ 32), by rw [hy11, List.length_append, pcb_len]; rfl, zy11 hz⟩⟩) (by show 33 - (m + 1) < 33 - m; omega) (fun _ S => S.tl)
  next =>
   refine Cd.eqv 4 (.int .i64 (31 - ((m : Nat) : Int))) (.int .i64 20) (congrArg _ (by rw [h]; decide)) ?_
   refine Cd.seq ?_
   refine Cd.sr ?_
   refine At.run 2 [] [(16, .bool true)] ?_
   refine At.nx ?_
   refine Cd.ct ?_
   refine Cd.sk ?_
   show Cd _ _ _ _ _ _ _ _
   refine Cd.seq ?_
   refine Cd.blk ?_
   refine Cd.rg ?_
   refine At.run 10 [] [(19, y.sl), (24, .int .u64 (limb ((vp A).x) 2 : Nat)), (28, .int .u64 32)] ?_
   refine At.ar 1 [] 29 (.int .u64 (Int.fdiv ((limb (vp A).x 2 : Nat) : Int) 4294967296)) (.int .u64 (((limb (vp A).x 2 : Nat) : Int) / 4294967296)) (congrArg _ (Int.fdiv_eq_ediv_of_nonneg _ (by decide))) ?_
   refine At.ar 1 [] 30 (.int .u64 (Int.tmod (((limb (vp A).x 2 : Nat) : Int) / 4294967296) 256)) (.int .u64 (byteAt (vp A).x m)) (congrArg _ (rbx (m := m) (by rw [h]) (by omega) (by rw [h]; decide))) ?_
   refine At.ar 1 [] 31 (.int .u8 (IntKind.u8.wrap (byteAt (vp A).x m))) (.int .u8 (byteAt (vp A).x m)) (congrArg _ (wr8 (bytes8_byteAt _ m).1 (bytes8_byteAt _ m).2)) ?_
   refine At.sli 0 [] 32 1 (#[.int .u8 (byteAt (vp A).x m)]) 5 fun g32 h32 => ?_
   refine At.app 0 [] 33 (TT := 49) (xv := .slice (some ⟨g32, 0, none⟩) 1 1) (z := .int .u8 0) (sb' := 1) (ys := [.int .u8 (byteAt (vp A).x m)]) 0 rfl (fun W S => S.srcg 0 rfl rfl) (by rw [pcb_len]; show (m + 1 + 1) * 1 ≤ _; omega) (by rw [pcb_len]; show m + 1 + 1 ≤ _; omega) fun y12 hy12 zy12 => ?_
   refine At.run 1 [] [(3, y12.sl)] ?_
   refine At.fin ?_
   show Cd _ _ _ _ _ _ _ _
   refine Cd.rg ?_
   refine At.ar 2 [] 18 (.int .i64 19) (.int .i64 (31 - ((m + 1 : Nat) : Int))) (congrArg _ (by rw [h]; decide)) ?_
   refine At.run 1 [] [(4, .int .i64 (31 - ((m + 1 : Nat) : Int)))] ?_
   refine At.fin ?_
   exact again_of (⟨(m + 1, y12), ⟨(by omega : m + 1 ≤ 32), by rw [hy12, List.length_append, pcb_len]; rfl, zy12 hz⟩⟩) (by show 33 - (m + 1) < 33 - m; omega) (fun _ S => S.tl)
  next =>
   refine Cd.eqv 4 (.int .i64 (31 - ((m : Nat) : Int))) (.int .i64 19) (congrArg _ (by rw [h]; decide)) ?_
   refine Cd.seq ?_
   refine Cd.sr ?_
   refine At.run 2 [] [(16, .bool true)] ?_
   refine At.nx ?_
   refine Cd.ct ?_
   refine Cd.sk ?_
   show Cd _ _ _ _ _ _ _ _
   refine Cd.seq ?_
   refine Cd.blk ?_
   refine Cd.rg ?_
   refine At.run 10 [] [(19, y.sl), (24, .int .u64 (limb ((vp A).x) 2 : Nat)), (28, .int .u64 24)] ?_
   refine At.ar 1 [] 29 (.int .u64 (Int.fdiv ((limb (vp A).x 2 : Nat) : Int) 16777216)) (.int .u64 (((limb (vp A).x 2 : Nat) : Int) / 16777216)) (congrArg _ (Int.fdiv_eq_ediv_of_nonneg _ (by decide))) ?_
   refine At.ar 1 [] 30 (.int .u64 (Int.tmod (((limb (vp A).x 2 : Nat) : Int) / 16777216) 256)) (.int .u64 (byteAt (vp A).x m)) (congrArg _ (rbx (m := m) (by rw [h]) (by omega) (by rw [h]; decide))) ?_
   refine At.ar 1 [] 31 (.int .u8 (IntKind.u8.wrap (byteAt (vp A).x m))) (.int .u8 (byteAt (vp A).x m)) (congrArg _ (wr8 (bytes8_byteAt _ m).1 (bytes8_byteAt _ m).2)) ?_
   refine At.sli 0 [] 32 1 (#[.int .u8 (byteAt (vp A).x m)]) 5 fun g32 h32 => ?_
   refine At.app 0 [] 33 (TT := 49) (xv := .slice (some ⟨g32, 0, none⟩) 1 1) (z := .int .u8 0) (sb' := 1) (ys := [.int .u8 (byteAt (vp A).x m)]) 0 rfl (fun W S => S.srcg 0 rfl rfl) (by rw [pcb_len]; show (m + 1 + 1) * 1 ≤ _; omega) (by rw [pcb_len]; show m + 1 + 1 ≤ _; omega) fun y13 hy13 zy13 => ?_
   refine At.run 1 [] [(3, y13.sl)] ?_
   refine At.fin ?_
   show Cd _ _ _ _ _ _ _ _
   refine Cd.rg ?_
   refine At.ar 2 [] 18 (.int .i64 18) (.int .i64 (31 - ((m + 1 : Nat) : Int))) (congrArg _ (by rw [h]; decide)) ?_
   refine At.run 1 [] [(4, .int .i64 (31 - ((m + 1 : Nat) : Int)))] ?_
   refine At.fin ?_
   exact again_of (⟨(m + 1, y13), ⟨(by omega : m + 1 ≤ 32), by rw [hy13, List.length_append, pcb_len]; rfl, zy13 hz⟩⟩) (by show 33 - (m + 1) < 33 - m; omega) (fun _ S => S.tl)
  next =>
   refine Cd.eqv 4 (.int .i64 (31 - ((m : Nat) : Int))) (.int .i64 18) (congrArg _ (by rw [h]; decide)) ?_
   refine Cd.seq ?_
   refine Cd.sr ?_
   refine At.run 2 [] [(16, .bool true)] ?_
   refine At.nx ?_
   refine Cd.ct ?_
   refine Cd.sk ?_
   show Cd _ _ _ _ _ _ _ _
   refine Cd.seq ?_
   refine Cd.blk ?_
   refine Cd.rg ?_
   refine At.run 10 [] [(19, y.sl), (24, .int .u64 (limb ((vp A).x) 2 : Nat)), (28, .int .u64 16)] ?_
   refine At.ar 1 [] 29 (.int .u64 (Int.fdiv ((limb (vp A).x 2 : Nat) : Int) 65536)) (.int .u64 (((limb (vp A).x 2 : Nat) : Int) / 65536)) (congrArg _ (Int.fdiv_eq_ediv_of_nonneg _ (by decide))) ?_
   refine At.ar 1 [] 30 (.int .u64 (Int.tmod (((limb (vp A).x 2 : Nat) : Int) / 65536) 256)) (.int .u64 (byteAt (vp A).x m)) (congrArg _ (rbx (m := m) (by rw [h]) (by omega) (by rw [h]; decide))) ?_
   refine At.ar 1 [] 31 (.int .u8 (IntKind.u8.wrap (byteAt (vp A).x m))) (.int .u8 (byteAt (vp A).x m)) (congrArg _ (wr8 (bytes8_byteAt _ m).1 (bytes8_byteAt _ m).2)) ?_
   refine At.sli 0 [] 32 1 (#[.int .u8 (byteAt (vp A).x m)]) 5 fun g32 h32 => ?_
   refine At.app 0 [] 33 (TT := 49) (xv := .slice (some ⟨g32, 0, none⟩) 1 1) (z := .int .u8 0) (sb' := 1) (ys := [.int .u8 (byteAt (vp A).x m)]) 0 rfl (fun W S => S.srcg 0 rfl rfl) (by rw [pcb_len]; show (m + 1 + 1) * 1 ≤ _; omega) (by rw [pcb_len]; show m + 1 + 1 ≤ _; omega) fun y14 hy14 zy14 => ?_
   refine At.run 1 [] [(3, y14.sl)] ?_
   refine At.fin ?_
   show Cd _ _ _ _ _ _ _ _
   refine Cd.rg ?_
   refine At.ar 2 [] 18 (.int .i64 17) (.int .i64 (31 - ((m + 1 : Nat) : Int))) (congrArg _ (by rw [h]; decide)) ?_
   refine At.run 1 [] [(4, .int .i64 (31 - ((m + 1 : Nat) : Int)))] ?_
   refine At.fin ?_
   exact again_of (⟨(m + 1, y14), ⟨(by omega : m + 1 ≤ 32), by rw [hy14, List.length_append, pcb_len]; rfl, zy14 hz⟩⟩) (by show 33 - (m + 1) < 33 - m; omega) (fun _ S => S.tl)
  next =>
   refine Cd.eqv 4 (.int .i64 (31 - ((m : Nat) : Int))) (.int .i64 17) (congrArg _ (by rw [h]; decide)) ?_
   refine Cd.seq ?_
   refine Cd.sr ?_
   refine At.run 2 [] [(16, .bool true)] ?_
   refine At.nx ?_
   refine Cd.ct ?_
   refine Cd.sk ?_
   show Cd _ _ _ _ _ _ _ _
   refine Cd.seq ?_
   refine Cd.blk ?_
   refine Cd.rg ?_
   refine At.run 10 [] [(19, y.sl), (24, .int .u64 (limb ((vp A).x) 2 : Nat)), (28, .int .u64 8)] ?_
   refine At.ar 1 [] 29 (.int .u64 (Int.fdiv ((limb (vp A).x 2 : Nat) : Int) 256)) (.int .u64 (((limb (vp A).x 2 : Nat) : Int) / 256)) (congrArg _ (Int.fdiv_eq_ediv_of_nonneg _ (by decide))) ?_
   refine At.ar 1 [] 30 (.int .u64 (Int.tmod (((limb (vp A).x 2 : Nat) : Int) / 256) 256)) (.int .u64 (byteAt (vp A).x m)) (congrArg _ (rbx (m := m) (by rw [h]) (by omega) (by rw [h]; decide))) ?_
   refine At.ar 1 [] 31 (.int .u8 (IntKind.u8.wrap (byteAt (vp A).x m))) (.int .u8 (byteAt (vp A).x m)) (congrArg _ (wr8 (bytes8_byteAt _ m).1 (bytes8_byteAt _ m).2)) ?_
   refine At.sli 0 [] 32 1 (#[.int .u8 (byteAt (vp A).x m)]) 5 fun g32 h32 => ?_
   refine At.app 0 [] 33 (TT := 49) (xv := .slice (some ⟨g32, 0, none⟩) 1 1) (z := .int .u8 0) (sb' := 1) (ys := [.int .u8 (byteAt (vp A).x m)]) 0 rfl (fun W S => S.srcg 0 rfl rfl) (by rw [pcb_len]; show (m + 1 + 1) * 1 ≤ _; omega) (by rw [pcb_len]; show m + 1 + 1 ≤ _; omega) fun y15 hy15 zy15 => ?_
   refine At.run 1 [] [(3, y15.sl)] ?_
   refine At.fin ?_
   show Cd _ _ _ _ _ _ _ _
   refine Cd.rg ?_
   refine At.ar 2 [] 18 (.int .i64 16) (.int .i64 (31 - ((m + 1 : Nat) : Int))) (congrArg _ (by rw [h]; decide)) ?_
   refine At.run 1 [] [(4, .int .i64 (31 - ((m + 1 : Nat) : Int)))] ?_
   refine At.fin ?_
   exact again_of (⟨(m + 1, y15), ⟨(by omega : m + 1 ≤ 32), by rw [hy15, List.length_append, pcb_len]; rfl, zy15 hz⟩⟩) (by show 33 - (m + 1) < 33 - m; omega) (fun _ S => S.tl)
  next =>
   refine Cd.eqv 4 (.int .i64 (31 - ((m : Nat) : Int))) (.int .i64 16) (congrArg _ (by rw [h]; decide)) ?_
   refine Cd.seq ?_
   refine Cd.sr ?_
   refine At.run 2 [] [(16, .bool true)] ?_
   refine At.nx ?_
   refine Cd.ct ?_
   refine Cd.sk ?_
   show Cd _ _ _ _ _ _ _ _
   refine Cd.seq ?_
   refine Cd.blk ?_
   refine Cd.rg ?_
   refine At.run 10 [] [(19, y.sl), (24, .int .u64 (limb ((vp A).x) 2 : Nat)), (28, .int .u64 0)] ?_
   refine At.ar 1 [] 29 (.int .u64 (Int.fdiv ((limb (vp A).x 2 : Nat) : Int) 1)) (.int .u64 (((limb (vp A).x 2 : Nat) : Int) / 1)) (congrArg _ (Int.fdiv_eq_ediv_of_nonneg _ (by decide))) ?_
   refine At.ar 1 [] 30 (.int .u64 (Int.tmod (((limb (vp A).x 2 : Nat) : Int) / 1) 256)) (.int .u64 (byteAt (vp A).x m)) (congrArg _ (rbx (m := m) (by rw [h]) (by omega) (by rw [h]; decide))) ?_
   refine At.ar 1 [] 31 (.int .u8 (IntKind.u8.wrap (byteAt (vp A).x m))) (.int .u8 (byteAt (vp A).x m)) (congrArg _ (wr8 (bytes8_byteAt _ m).1 (bytes8_byteAt _ m).2)) ?_
   refine At.sli 0 [] 32 1 (#[.int .u8 (byteAt (vp A).x m)]) 5 fun g32 h32 => ?_
   refine At.app 0 [] 33 (TT := 49) (xv := .slice (some ⟨g32, 0, none⟩) 1 1) (z := .int .u8 0) (sb' := 1) (ys := [.int .u8 (byteAt (vp A).x m)]) 0 rfl (fun W S => S.srcg 0 rfl rfl) (by rw [pcb_len]; show (m + 1 + 1) * 1 ≤ _; omega) (by rw [pcb_len]; show m + 1 + 1 ≤ _; omega) fun y16 hy16 zy16 => ?_
   refine At.run 1 [] [(3, y16.sl)] ?_
   refine At.fin ?_
   show Cd _ _ _ _ _ _ _ _
   refine Cd.rg ?_
   refine At.ar 2 [] 18 (.int .i64 15) (.int .i64 (31 - ((m + 1 : Nat) : Int))) (congrArg _ (by rw [h]; decide)) ?_
   refine At.run 1 [] [(4, .int .i64 (31 - ((m + 1 : Nat) : Int)))] ?_
   refine At.fin ?_
   exact again_of (⟨(m + 1, y16), ⟨(by omega : m + 1 ≤ 32), by rw [hy16, List.length_append, pcb_len]; rfl, zy16 hz⟩⟩) (by show 33 - (m + 1) < 33 - m; omega) (fun _ S => S.tl)
  next =>
   refine Cd.eqv 4 (.int .i64 (31 - ((m : Nat) : Int))) (.int .i64 15) (congrArg _ (by rw [h]; decide)) ?_
   refine Cd.seq ?_
   refine Cd.sr ?_
   refine At.run 2 [] [(16, .bool true)] ?_
   refine At.nx ?_
   refine Cd.ct ?_
   refine Cd.sk ?_
   show Cd _ _ _ _ _ _ _ _
   refine Cd.seq ?_
   refine Cd.blk ?_
   refine Cd.rg ?_
   refine At.run 10 [] [(19, y.sl), (24, .int .u64 (limb ((vp A).x) 1 : Nat)), (28, .int .u64 56)] ?_
   refine At.ar 1 [] 29 (.int .u64 (Int.fdiv ((limb (vp A).x 1 : Nat) : Int) 72057594037927936)) (.int .u64 (((limb (vp A).x 1 : Nat) : Int) / 72057594037927936)) (congrArg _ (Int.fdiv_eq_ediv_of_nonneg _ (by decide))) ?_
   refine At.ar 1 [] 30 (.int .u64 (Int.tmod (((limb (vp A).x 1 : Nat) : Int) / 72057594037927936) 256)) (.int .u64 (byteAt (vp A).x m)) (congrArg _ (rbx (m := m) (by rw [h]) (by omega) (by rw [h]; decide))) ?_
   refine At.ar 1 [] 31 (.int .u8 (IntKind.u8.wrap (byteAt (vp A).x m))) (.int .u8 (byteAt (vp A).x m)) (congrArg _ (wr8 (bytes8_byteAt _ m).1 (bytes8_byteAt _ m).2)) ?_
   refine At.sli 0 [] 32 1 (#[.int .u8 (byteAt (vp A).x m)]) 5 fun g32 h32 => ?_
   refine At.app 0 [] 33 (TT := 49) (xv := .slice (some ⟨g32, 0, none⟩) 1 1) (z := .int .u8 0) (sb' := 1) (ys := [.int .u8 (byteAt (vp A).x m)]) 0 rfl (fun W S => S.srcg 0 rfl rfl) (by rw [pcb_len]; show (m + 1 + 1) * 1 ≤ _; omega) (by rw [pcb_len]; show m + 1 + 1 ≤ _; omega) fun y17 hy17 zy17 => ?_
   refine At.run 1 [] [(3, y17.sl)] ?_
   refine At.fin ?_
   show Cd _ _ _ _ _ _ _ _
   refine Cd.rg ?_
   refine At.ar 2 [] 18 (.int .i64 14) (.int .i64 (31 - ((m + 1 : Nat) : Int))) (congrArg _ (by rw [h]; decide)) ?_
   refine At.run 1 [] [(4, .int .i64 (31 - ((m + 1 : Nat) : Int)))] ?_
   refine At.fin ?_
   exact again_of (⟨(m + 1, y17), ⟨(by omega : m + 1 ≤ 32), by rw [hy17, List.length_append, pcb_len]; rfl, zy17 hz⟩⟩) (by show 33 - (m + 1) < 33 - m; omega) (fun _ S => S.tl)
  next =>
   refine Cd.eqv 4 (.int .i64 (31 - ((m : Nat) : Int))) (.int .i64 14) (congrArg _ (by rw [h]; decide)) ?_
   refine Cd.seq ?_
   refine Cd.sr ?_
   refine At.run 2 [] [(16, .bool true)] ?_
   refine At.nx ?_
   refine Cd.ct ?_
   refine Cd.sk ?_
   show Cd _ _ _ _ _ _ _ _
   refine Cd.seq ?_
   refine Cd.blk ?_
   refine Cd.rg ?_
   refine At.run 10 [] [(19, y.sl), (24, .int .u64 (limb ((vp A).x) 1 : Nat)), (28, .int .u64 48)] ?_
   refine At.ar 1 [] 29 (.int .u64 (Int.fdiv ((limb (vp A).x 1 : Nat) : Int) 281474976710656)) (.int .u64 (((limb (vp A).x 1 : Nat) : Int) / 281474976710656)) (congrArg _ (Int.fdiv_eq_ediv_of_nonneg _ (by decide))) ?_
   refine At.ar 1 [] 30 (.int .u64 (Int.tmod (((limb (vp A).x 1 : Nat) : Int) / 281474976710656) 256)) (.int .u64 (byteAt (vp A).x m)) (congrArg _ (rbx (m := m) (by rw [h]) (by omega) (by rw [h]; decide))) ?_
   refine At.ar 1 [] 31 (.int .u8 (IntKind.u8.wrap (byteAt (vp A).x m))) (.int .u8 (byteAt (vp A).x m)) (congrArg _ (wr8 (bytes8_byteAt _ m).1 (bytes8_byteAt _ m).2)) ?_
   refine At.sli 0 [] 32 1 (#[.int .u8 (byteAt (vp A).x m)]) 5 fun g32 h32 => ?_
   refine At.app 0 [] 33 (TT := 49) (xv := .slice (some ⟨g32, 0, none⟩) 1 1) (z := .int .u8 0) (sb' := 1) (ys := [.int .u8 (byteAt (vp A).x m)]) 0 rfl (fun W S => S.srcg 0 rfl rfl) (by rw [pcb_len]; show (m + 1 + 1) * 1 ≤ _; omega) (by rw [pcb_len]; show m + 1 + 1 ≤ _; omega) fun y18 hy18 zy18 => ?_
   refine At.run 1 [] [(3, y18.sl)] ?_
   refine At.fin ?_
   show Cd _ _ _ _ _ _ _ _
   refine Cd.rg ?_
   refine At.ar 2 [] 18 (.int .i64 13) (.int .i64 (31 - ((m + 1 : Nat) : Int))) (congrArg _ (by rw [h]; decide)) ?_
   refine At.run 1 [] [(4, .int .i64 (31 - ((m + 1 : Nat) : Int)))] ?_
   refine At.fin ?_
   exact again_of (⟨(m + 1, y18), ⟨(by omega : m + 1 ≤ 32), by rw [hy18, List.length_append, pcb_len]; rfl, zy18 hz⟩⟩) (by show 33 - (m + 1) < 33 - m; omega) (fun _ S => S.tl)
  next =>
   refine Cd.eqv 4 (.int .i64 (31 - ((m : Nat) : Int))) (.int .i64 13) (congrArg _ (by rw [h]; decide)) ?_
   refine Cd.seq ?_
   refine Cd.sr ?_
   refine At.run 2 [] [(16, .bool true)] ?_
   refine At.nx ?_
   refine Cd.ct ?_
   refine Cd.sk ?_
   show Cd _ _ _ _ _ _ _ _
   refine Cd.seq ?_
   refine Cd.blk ?_
   refine Cd.rg ?_
   refine At.run 10 [] [(19, y.sl), (24, .int .u64 (limb ((vp A).x) 1 : Nat)), (28, .int .u64 40)] ?_
   refine At.ar 1 [] 29 (.int .u64 (Int.fdiv ((limb (vp A).x 1 : Nat) : Int) 1099511627776)) (.int .u64 (((limb (vp A).x 1 : Nat) : Int) / 1099511627776)) (congrArg _ (Int.fdiv_eq_ediv_of_nonneg _ (by decide))) ?_
   refine At.ar 1 [] 30 (.int .u64 (Int.tmod (((limb (vp A).x 1 : Nat) : Int) / 1099511627776) 256)) (.int .u64 (byteAt (vp A).x m)) (congrArg _ (rbx (m := m) (by rw [h]) (by omega) (by rw [h]; decide))) ?_
   refine At.ar 1 [] 31 (.int .u8 (IntKind.u8.wrap (byteAt (vp A).x m))) (.int .u8 (byteAt (vp A).x m)) (congrArg _ (wr8 (bytes8_byteAt _ m).1 (bytes8_byteAt _ m).2)) ?_
   refine At.sli 0 [] 32 1 (#[.int .u8 (byteAt (vp A).x m)]) 5 fun g32 h32 => ?_
   refine At.app 0 [] 33 (TT := 49) (xv := .slice (some ⟨g32, 0, none⟩) 1 1) (z := .int .u8 0) (sb' := 1) (ys := [.int .u8 (byteAt (vp A).x m)]) 0 rfl (fun W S => S.srcg 0 rfl rfl) (by rw [pcb_len]; show (m + 1 + 1) * 1 ≤ _; omega) (by rw [pcb_len]; show m + 1 + 1 ≤ _; omega) fun y19 hy19 zy19 => ?_
   refine At.run 1 [] [(3, y19.sl)] ?_
   refine At.fin ?_
   show Cd _ _ _ _ _ _ _ _
   refine Cd.rg ?_
   refine At.ar 2 [] 18 (.int .i64 12) (.int .i64 (31 - ((m + 1 : Nat) : Int))) (congrArg _ (by rw [h]; decide)) ?_
   refine At.run 1 [] [(4, .int .i64 (31 - ((m + 1 : Nat) : Int)))] ?_
   refine At.fin ?_
   exact again_of (⟨(m + 1, y19), ⟨(by omega : m + 1 ≤ 32), by rw [hy19, List.length_append, pcb_len]; rfl, zy19 hz⟩⟩) (by show 33 - (m + 1) < 33 - m; omega) (fun _ S => S.tl)
  next =>
   refine Cd.eqv 4 (.int .i64 (31 - ((m : Nat) : Int))) (.int .i64 12) (congrArg _ (by rw [h]; decide)) ?_
   refine Cd.seq ?_
   refine Cd.sr ?_
   refine At.run 2 [] [(16, .bool true)] ?_
   refine At.nx ?_
   refine Cd.ct ?_
   refine Cd.sk ?_
   show Cd _ _ _ _ _ _ _ _
   refine Cd.seq ?_
   refine Cd.blk ?_
   refine Cd.rg ?_
   refine At.run 10 [] [(19, y.sl), (24, .int .u64 (limb ((vp A).x) 1 : Nat)), (28, .int .u64 32)] ?_
   refine At.ar 1 [] 29 (.int .u64 (Int.fdiv ((limb (vp A).x 1 : Nat) : Int) 4294967296)) (.int .u64 (((limb (vp A).x 1 : Nat) : Int) / 4294967296)) (congrArg _ (Int.fdiv_eq_ediv_of_nonneg _ (by decide))) ?_
   refine At.ar 1 [] 30 (.int .u64 (Int.tmod (((limb (vp A).x 1 : Nat) : Int) / 4294967296) 256)) (.int .u64 (byteAt (vp A).x m)) (congrArg _ (rbx (m := m) (by rw [h]) (by omega) (by rw [h]; decide))) ?_
   refine At.ar 1 [] 31 (.int .u8 (IntKind.u8.wrap (byteAt (vp A).x m))) (.int .u8 (byteAt (vp A).x m)) (congrArg _ (wr8 (bytes8_byteAt _ m).1 (bytes8_byteAt _ m).2)) ?_
   refine At.sli 0 [] 32 1 (#[.int .u8 (byteAt (vp A).x m)]) 5 fun g32 h32 => ?_
   refine At.app 0 [] 33 (TT := 49) (xv := .slice (some ⟨g32, 0, none⟩) 1 1) (z := .int .u8 0) (sb' := 1) (ys := [.int .u8 (byteAt (vp A).x m)]) 0 rfl (fun W S => S.srcg 0 rfl rfl) (by rw [pcb_len]; show (m + 1 + 1) * 1 ≤ _; omega) (by rw [pcb_len]; show m + 1 + 1 ≤ _; omega) fun y20 hy20 zy20 => ?_
   refine At.run 1 [] [(3, y20.sl)] ?_
   refine At.fin ?_
   show Cd _ _ _ _ _ _ _ _
   refine Cd.rg ?_
   refine At.ar 2 [] 18 (.int .i64 11) (.int .i64 (31 - ((m + 1 : Nat) : Int))) (congrArg _ (by rw [h]; decide)) ?_
   refine At.run 1 [] [(4, .int .i64 (31 - ((m + 1 : Nat) : Int)))] ?_
   refine At.fin ?_
   exact again_of (⟨(m + 1, y20), ⟨(by omega : m + 1 ≤ 32), by rw [hy20, List.length_append, pcb_len]; rfl, zy20 hz⟩⟩) (by show 33 - (m + 1) < 33 - m; omega) (fun _ S => S.tl)
  next =>
   refine Cd.eqv 4 (.int .i64 (31 - ((m : Nat) : Int))) (.int .i64 11) (congrArg _ (by rw [h]; decide)) ?_
   refine Cd.seq ?_
   refine Cd.sr ?_
   refine At.run 2 [] [(16, .bool true)] ?_
   refine At.nx ?_
   refine Cd.ct ?_
   refine Cd.sk ?_
   show Cd _ _ _ _ _ _ _ _
   refine Cd.seq ?_
   refine Cd.blk ?_
   refine Cd.rg ?_
   refine At.run 10 [] [(19, y.sl), (24, .int .u64 (limb ((vp A).x) 1 : Nat)), (28, .int .u64 24)] ?_
   refine At.ar 1 [] 29 (.int .u64 (Int.fdiv ((limb (vp A).x 1 : Nat) : Int) 16777216)) (.int .u64 (((limb (vp A).x 1 : Nat) : Int) / 16777216)) (congrArg _ (Int.fdiv_eq_ediv_of_nonneg _ (by decide))) ?_
   refine At.ar 1 [] 30 (.int .u64 (Int.tmod (((limb (vp A).x 1 : Nat) : Int) / 16777216) 256)) (.int .u64 (byteAt (vp A).x m)) (congrArg _ (rbx (m := m) (by rw [h]) (by omega) (by rw [h]; decide))) ?_
   refine At.ar 1 [] 31 (.int .u8 (IntKind.u8.wrap (byteAt (vp A).x m))) (.int .u8 (byteAt (vp A).x m)) (congrArg _ (wr8 (bytes8_byteAt _ m).1 (bytes8_byteAt _ m).2)) ?_
   refine At.sli 0 [] 32 1 (#[.int .u8 (byteAt (vp A).x m)]) 5 fun g32 h32 => ?_
   refine At.app 0 [] 33 (TT := 49) (xv := .slice (some ⟨g32, 0, none⟩) 1 1) (z := .int .u8 0) (sb' := 1) (ys := [.int .u8 (byteAt (vp A).x m)]) 0 rfl (fun W S => S.srcg 0 rfl rfl) (by rw [pcb_len]; show (m + 1 + 1) * 1 ≤ _; omega) (by rw [pcb_len]; show m + 1 + 1 ≤ _; omega) fun y21 hy21 zy21 => ?_
   refine At.run 1 [] [(3, y21.sl)] ?_
   refine At.fin ?_
   show Cd _ _ _ _ _ _ _ _
   refine Cd.rg ?_
   refine At.ar 2 [] 18 (.int .i64 10) (.int .i64 (31 - ((m + 1 : Nat) : Int))) (congrArg _ (by rw [h]; decide)) ?_
   refine At.run 1 [] [(4, .int .i64 (31 - ((m + 1 : Nat) : Int)))] ?_
   refine At.fin ?_
   exact again_of (⟨(m + 1, y21), ⟨(by omega : m + 1 ≤ 32), by rw [hy21, List.length_append, pcb_len]; rfl, zy21 hz⟩⟩) (by show 33 - (m + 1) < 33 - m; omega) (fun _ S => S.tl)
  next =>
   refine Cd.eqv 4 (.int .i64 (31 - ((m : Nat) : Int))) (.int .i64 10) (congrArg _ (by rw [h]; decide)) ?_
   refine Cd.seq ?_
   refine Cd.sr ?_
   refine At.run 2 [] [(16, .bool true)] ?_
   refine At.nx ?_
   refine Cd.ct ?_
   refine Cd.sk ?_
   show Cd _ _ _ _ _ _ _ _
   refine Cd.seq ?_
   refine Cd.blk ?_
   refine Cd.rg ?_
   refine At.run 10 [] [(19, y.sl), (24, .int .u64 (limb ((vp A).x) 1 : Nat)), (28, .int .u64 16)] ?_
   refine At.ar 1 [] 29 (.int .u64 (Int.fdiv ((limb (vp A).x 1 : Nat) : Int) 65536)) (.int .u64 (((limb (vp A).x 1 : Nat) : Int) / 65536)) (congrArg _ (Int.fdiv_eq_ediv_of_nonneg _ (by decide))) ?_
   refine At.ar 1 [] 30 (.int .u64 (Int.tmod (((limb (vp A).x 1 : Nat) : Int) / 65536) 256)) (.int .u64 (byteAt (vp A).x m)) (congrArg _ (rbx (m := m) (by rw [h]) (by omega) (by rw [h]; decide))) ?_
   refine At.ar 1 [] 31 (.int .u8 (IntKind.u8.wrap (byteAt (vp A).x m))) (.int .u8 (byteAt (vp A).x m)) (congrArg _ (wr8 (bytes8_byteAt _ m).1 (bytes8_byteAt _ m).2)) ?_
   refine At.sli 0 [] 32 1 (#[.int .u8 (byteAt (vp A).x m)]) 5 fun g32 h32 => ?_
   refine At.app 0 [] 33 (TT := 49) (xv := .slice (some ⟨g32, 0, none⟩) 1 1) (z := .int .u8 0) (sb' := 1) (ys := [.int .u8 (byteAt (vp A).x m)]) 0 rfl (fun W S => S.srcg 0 rfl rfl) (by rw [pcb_len]; show (m + 1 + 1) * 1 ≤ _; omega) (by rw [pcb_len]; show m + 1 + 1 ≤ _; omega) fun y22 hy22 zy22 => ?_
   refine At.run 1 [] [(3, y22.sl)] ?_
   refine At.fin ?_
   show Cd _ _ _ _ _ _ _ _
   refine Cd.rg ?_
   refine At.ar 2 [] 18 (.int .i64 9) (.int .i64 (31 - ((m + 1 : Nat) : Int))) (congrArg _ (by rw [h]; decide)) ?_
   refine At.run 1 [] [(4, .int .i64 (31 - ((m + 1 : Nat) : Int)))] ?_
   refine At.fin ?_
   exact again_of (⟨(m + 1, y22), ⟨(by omega : m + 1 ≤ 32), by rw [hy22, List.length_append, pcb_len]; rfl, zy22 hz⟩⟩) (by show 33 - (m + 1) < 33 - m; omega) (fun _ S => S.tl)
  next =>
   refine Cd.eqv 4 (.int .i64 (31 - ((m : Nat) : Int))) (.int .i64 9) (congrArg _ (by rw [h]; decide)) ?_
   refine Cd.seq ?_
   refine Cd.sr ?_
   refine At.run 2 [] [(16, .bool true)] ?_
   refine At.nx ?_
   refine Cd.ct ?_
   refine Cd.sk ?_
   show Cd _ _ _ _ _ _ _ _
   refine Cd.seq ?_
   refine Cd.blk ?_
   refine Cd.rg ?_
   refine At.run 10 [] [(19, y.sl), (24, .int .u64 (limb ((vp A).x) 1 : Nat)), (28, .int .u64 8)] ?_
   refine At.ar 1 [] 29 (.int .u64 (Int.fdiv ((limb (vp A).x 1 : Nat) : Int) 256)) (.int .u64 (((limb (vp A).x 1 : Nat) : Int) / 256)) (congrArg _ (Int.fdiv_eq_ediv_of_nonneg _ (by decide))) ?_
   refine At.ar 1 [] 30 (.int .u64 (Int.tmod (((limb (vp A).x 1 : Nat) : Int) / 256) 256)) (.int .u64 (byteAt (vp A).x m)) (congrArg _ (rbx (m := m) (by rw [h]) (by omega) (by rw [h]; decide))) ?_
   refine At.ar 1 [] 31 (.int .u8 (IntKind.u8.wrap (byteAt (vp A).x m))) (.int .u8 (byteAt (vp A).x m)) (congrArg _ (wr8 (bytes8_byteAt _ m).1 (bytes8_byteAt _ m).2)) ?_
   refine At.sli 0 [] 32 1 (#[.int .u8 (byteAt (vp A).x m)]) 5 fun g32 h32 => ?_
   refine At.app 0 [] 33 (TT := 49) (xv := .slice (some ⟨g32, 0, none⟩) 1 1) (z := .int .u8 0) (sb' := 1) (ys := [.int .u8 (byteAt (vp A).x m)]) 0 rfl (fun W S => S.srcg 0 rfl rfl) (by rw [pcb_len]; show (m + 1 + 1) * 1 ≤ _; omega) (by rw [pcb_len]; show m + 1 + 1 ≤ _; omega) fun y23 hy23 zy23 => ?_
   refine At.run 1 [] [(3, y23.sl)] ?_
   refine At.fin ?_
   show Cd _ _ _ _ _ _ _ _
   refine Cd.rg ?_
   refine At.ar 2 [] 18 (.int .i64 8) (.int .i64 (31 - ((m + 1 : Nat) : Int))) (congrArg _ (by rw [h]; decide)) ?_
   refine At.run 1 [] [(4, .int .i64 (31 - ((m + 1 : Nat) : Int)))] ?_
   refine At.fin ?_
   exact again_of (⟨(m + 1, y23), ⟨(by omega : m + 1 ≤ 32), by rw [hy23, List.length_append, pcb_len]; rfl, zy23 hz⟩⟩) (by show 33 - (m + 1) < 33 - m; omega) (fun _ S => S.tl)
  next =>
   refine Cd.eqv 4 (.int .i64 (31 - ((m : Nat) : Int))) (.int .i64 8) (congrArg _ (by rw [h]; decide)) ?_
   refine Cd.seq ?_
   refine Cd.sr ?_
   refine At.run 2 [] [(16, .bool true)] ?_
   refine At.nx ?_
   refine Cd.ct ?_
   refine Cd.sk ?_
   show Cd _ _ _ _ _ _ _ _
   refine Cd.seq ?_
   refine Cd.blk ?_
   refine Cd.rg ?_
   refine At.run 10 [] [(19, y.sl), (24, .int .u64 (limb ((vp A).x) 1 : Nat)), (28, .int .u64 0)] ?_
   refine At.ar 1 [] 29 (.int .u64 (Int.fdiv ((limb (vp A).x 1 : Nat) : Int) 1)) (.int .u64 (((limb (vp A).x 1 : Nat) : Int) / 1)) (congrArg _ (Int.fdiv_eq_ediv_of_nonneg _ (by decide))) ?_
   refine At.ar 1 [] 30 (.int .u64 (Int.tmod (((limb (vp A).x 1 : Nat) : Int) / 1) 256)) (.int .u64 (byteAt (vp A).x m)) (congrArg _ (rbx (m := m) (by rw [h]) (by omega) (by rw [h]; decide))) ?_
   refine At.ar 1 [] 31 (.int .u8 (IntKind.u8.wrap (byteAt (vp A).x m))) (.int .u8 (byteAt (vp A).x m)) (congrArg _ (wr8 (bytes8_byteAt _ m).1 (bytes8_byteAt _ m).2)) ?_
   refine At.sli 0 [] 32 1 (#[.int .u8 (byteAt (vp A).x m)]) 5 fun g32 h32 => ?_
   refine At.app 0 [] 33 (TT := 49) (xv := .slice (some ⟨g32, 0, none⟩) 1 1) (z := .int .u8 0) (sb' := 1) (ys := [.int .u8 (byteAt (vp A).x m)]) 0 rfl (fun W S => S.srcg 0 rfl rfl) (by rw [pcb_len]; show (m + 1 + 1) * 1 ≤ _; omega) (by rw [pcb_len]; show m + 1 + 1 ≤ _; omega) fun y24 hy24 zy24 => ?_
   refine At.run 1 [] [(3, y24.sl)] ?_
   refine At.fin ?_
   show Cd _ _ _ _ _ _ _ _
   refine Cd.rg ?_
   refine At.ar 2 [] 18 (.int .i64 7) (.int .i64 (31 - ((m + 1 : Nat) : Int))) (congrArg _ (by rw [h]; decide)) ?_
   refine At.run 1 [] [(4, .int .i64 (31 - ((m + 1 : Nat) : Int)))] ?_
   refine At.fin ?_
   exact again_of (⟨(m + 1, y24), ⟨(by omega : m + 1 ≤ 32), by rw [hy24, List.length_append, pcb_len]; rfl, zy24 hz⟩⟩) (by show 33 - (m + 1) < 33 - m; omega) (fun _ S => S.tl)
  next =>
   refine Cd.eqv 4 (.int .i64 (31 - ((m : Nat) : Int))) (.int .i64 7) (congrArg _ (by rw [h]; decide)) ?_
   refine Cd.seq ?_
   refine Cd.sr ?_
   refine At.run 2 [] [(16, .bool true)] ?_
   refine At.nx ?_
   refine Cd.ct ?_
   refine Cd.sk ?_
   show Cd _ _ _ _ _ _ _ _
   refine Cd.seq ?_
   refine Cd.blk ?_
   refine Cd.rg ?_
   refine At.run 10 [] [(19, y.sl), (24, .int .u64 (limb ((vp A).x) 0 : Nat)), (28, .int .u64 56)] ?_
   refine At.ar 1 [] 29 (.int .u64 (Int.fdiv ((limb (vp A).x 0 : Nat) : Int) 72057594037927936)) (.int .u64 (((limb (vp A).x 0 : Nat) : Int) / 72057594037927936)) (congrArg _ (Int.fdiv_eq_ediv_of_nonneg _ (by decide))) ?_
   refine At.ar 1 [] 30 (.int .u64 (Int.tmod (((limb (vp A).x 0 : Nat) : Int) / 72057594037927936) 256)) (.int .u64 (byteAt (vp A).x m)) (congrArg _ (rbx (m := m) (by rw [h]) (by omega) (by rw [h]; decide))) ?_
   refine At.ar 1 [] 31 (.int .u8 (IntKind.u8.wrap (byteAt (vp A).x m))) (.int .u8 (byteAt (vp A).x m)) (congrArg _ (wr8 (bytes8_byteAt _ m).1 (bytes8_byteAt _ m).2)) ?_
   refine At.sli 0 [] 32 1 (#[.int .u8 (byteAt (vp A).x m)]) 5 fun g32 h32 => ?_
   refine At.app 0 [] 33 (TT := 49) (xv := .slice (some ⟨g32, 0, none⟩) 1 1) (z := .int .u8 0) (sb' := 1) (ys := [.int .u8 (byteAt (vp A).x m)]) 0 rfl (fun W S => S.srcg 0 rfl rfl) (by rw [pcb_len]; show (m + 1 + 1) * 1 ≤ _; omega) (by rw [pcb_len]; show m + 1 + 1 ≤ _; omega) fun y25 hy25 zy25 => ?_
   refine At.run 1 [] [(3, y25.sl)] ?_
   refine At.fin ?_
   show Cd _ _ _ _ _ _ _ _
   refine Cd.rg ?_
   refine At.ar 2 [] 18 (.int .i64 6) (.int .i64 (31 - ((m + 1 : Nat) : Int))) (congrArg _ (by rw [h]; decide)) ?_
   refine At.run 1 [] [(4, .int .i64 (31 - ((m + 1 : Nat) : Int)))] ?_
   refine At.fin ?_
   exact again_of (⟨(m + 1, y25), ⟨(by omega : m + 1 ≤ 32), by rw [hy25, List.length_append, pcb_len]; rfl, zy25 hz⟩⟩) (by show 33 - (m + 1) < 33 - m; omega) (fun _ S => S.tl)
  next =>
   refine Cd.eqv 4 (.int .i64 (31 - ((m : Nat) : Int))) (.int .i64 6) (congrArg _ (by rw [h]; decide)) ?_
   refine Cd.seq ?_
   refine Cd.sr ?_
   refine At.run 2 [] [(16, .bool true)] ?_
   refine At.nx ?_
   refine Cd.ct ?_
   refine Cd.sk ?_
   show Cd _ _ _ _ _ _ _ _
   refine Cd.seq ?_
   refine Cd.blk ?_
   refine Cd.rg ?_
   refine At.run 10 [] [(19, y.sl), (24, .int .u64 (limb ((vp A).x) 0 : Nat)), (28, .int .u64 48)] ?_
   refine At.ar 1 [] 29 (.int .u64 (Int.fdiv ((limb (vp A).x 0 : Nat) : Int) 281474976710656)) (.int .u64 (((limb (vp A).x 0 : Nat) : Int) / 281474976710656)) (congrArg _ (Int.fdiv_eq_ediv_of_nonneg _ (by decide))) ?_
   refine At.ar 1 [] 30 (.int .u64 (Int.tmod (((limb (vp A).x 0 : Nat) : Int) / 281474976710656) 256)) (.int .u64 (byteAt (vp A).x m)) (congrArg _ (rbx (m := m) (by rw [h]) (by omega) (by rw [h]; decide))) ?_
   refine At.ar 1 [] 31 (.int .u8 (IntKind.u8.wrap (byteAt (vp A).x m))) (.int .u8 (byteAt (vp A).x m)) (congrArg _ (wr8 (bytes8_byteAt _ m).1 (bytes8_byteAt _ m).2)) ?_
   refine At.sli 0 [] 32 1 (#[.int .u8 (byteAt (vp A).x m)]) 5 fun g32 h32 => ?_
   refine At.app 0 [] 33 (TT := 49) (xv := .slice (some ⟨g32, 0, none⟩) 1 1) (z := .int .u8 0) (sb' := 1) (ys := [.int .u8 (byteAt (vp A).x m)]) 0 rfl (fun W S => S.srcg 0 rfl rfl) (by rw [pcb_len]; show (m + 1 + 1) * 1 ≤ _; omega) (by rw [pcb_len]; show m + 1 + 1 ≤ _; omega) fun y26 hy26 zy26 => ?_
   refine At.run 1 [] [(3, y26.sl)] ?_
   refine At.fin ?_
   show Cd _ _ _ _ _ _ _ _
   refine Cd.rg ?_
   refine At.ar 2 [] 18 (.int .i64 5) (.int .i64 (31 - ((m + 1 : Nat) : Int))) (congrArg _ (by rw [h]; decide)) ?_
   refine At.run 1 [] [(4, .int .i64 (31 - ((m + 1 : Nat) : Int)))] ?_
   refine At.fin ?_
   exact again_of (⟨(m + 1, y26), ⟨(by omega : m + 1 ≤ 32), by rw [hy26, List.length_append, pcb_len]; rfl, zy26 hz⟩⟩) (by show 33 - (m + 1) < 33 - m; omega) (fun _ S => S.tl)
  next =>
   refine Cd.eqv 4 (.int .i64 (31 - ((m : Nat) : Int))) (.int .i64 5) (congrArg _ (by rw [h]; decide)) ?_
   refine Cd.seq ?_
   refine Cd.sr ?_
   refine At.run 2 [] [(16, .bool true)] ?_
   refine At.nx ?_
   refine Cd.ct ?_
   refine Cd.sk ?_
   show Cd _ _ _ _ _ _ _ _
   refine Cd.seq ?_
   refine Cd.blk ?_
   refine Cd.rg ?_
   refine At.run 10 [] [(19, y.sl), (24, .int .u64 (limb ((vp A).x) 0 : Nat)), (28, .int .u64 40)] ?_
   refine At.ar 1 [] 29 (.int .u64 (Int.fdiv ((limb (vp A).x 0 : Nat) : Int) 1099511627776)) (.int .u64 (((limb (vp A).x 0 : Nat) : Int) / 1099511627776)) (congrArg _ (Int.fdiv_eq_ediv_of_nonneg _ (by decide))) ?_
   refine At.ar 1 [] 30 (.int .u64 (Int.tmod (((limb (vp A).x 0 : Nat) : Int) / 1099511627776) 256)) (.int .u64 (byteAt (vp A).x m)) (congrArg _ (rbx (m := m) (by rw [h]) (by omega) (by rw [h]; decide))) ?_
   refine At.ar 1 [] 31 (.int .u8 (IntKind.u8.wrap (byteAt (vp A).x m))) (.int .u8 (byteAt (vp A).x m)) (congrArg _ (wr8 (bytes8_byteAt _ m).1 (bytes8_byteAt _ m).2)) ?_
   refine At.sli 0 [] 32 1 (#[.int .u8 (byteAt (vp A).x m)]) 5 fun g32 h32 => ?_
   refine At.app 0 [] 33 (TT := 49) (xv := .slice (some ⟨g32, 0, none⟩) 1 1) (z := .int .u8 0) (sb' := 1) (ys := [.int .u8 (byteAt (vp A).x m)]) 0 rfl (fun W S => S.srcg 0 rfl rfl) (by rw [pcb_len]; show (m + 1 + 1) * 1 ≤ _; omega) (by rw [pcb_len]; show m + 1 + 1 ≤ _; omega) fun y27 hy27 zy27 => ?_
   refine At.run 1 [] [(3, y27.sl)] ?_
   refine At.fin ?_
   show Cd _ _ _ _ _ _ _ _
   refine Cd.rg ?_
   refine At.ar 2 [] 18 (.int .i64 4) (.int .i64 (31 - ((m + 1 : Nat) : Int))) (congrArg _ (by rw [h]; decide)) ?_
   refine At.run 1 [] [(4, .int .i64 (31 - ((m + 1 : Nat) : Int)))] ?_
   refine At.fin ?_
   exact again_of (⟨(m + 1, y27), ⟨(by omega : m + 1 ≤ 32), by rw [hy27, List.length_append, pcb_len]; rfl, zy27 hz⟩⟩) (by show 33 - (m + 1) < 33 - m; omega) (fun _ S => S.tl)
  next =>
   refine Cd.eqv 4 (.int .i64 (31 - ((m : Nat) : Int))) (.int .i64 4) (congrArg _ (by rw [h]; decide)) ?_
   refine Cd.seq ?_
   refine Cd.sr ?_
   refine At.run 2 [] [(16, .bool true)] ?_
   refine At.nx ?_
   refine Cd.ct ?_
   refine Cd.sk ?_
   show Cd _ _ _ _ _ _ _ _
   refine Cd.seq ?_
   refine Cd.blk ?_
   refine Cd.rg ?_
   refine At.run 10 [] [(19, y.sl), (24, .int .u64 (limb ((vp A).x) 0 : Nat)), (28, .int .u64 32)] ?_
   refine At.ar 1 [] 29 (.int .u64 (Int.fdiv ((limb (vp A).x 0 : Nat) : Int) 4294967296)) (.int .u64 (((limb (vp A).x 0 : Nat) : Int) / 4294967296)) (congrArg _ (Int.fdiv_eq_ediv_of_nonneg _ (by decide))) ?_
   refine At.ar 1 [] 30 (.int .u64 (Int.tmod (((limb (vp A).x 0 : Nat) : Int) / 4294967296) 256)) (.int .u64 (byteAt (vp A).x m)) (congrArg _ (rbx (m := m) (by rw [h]) (by omega) (by rw [h]; decide))) ?_
   refine At.ar 1 [] 31 (.int .u8 (IntKind.u8.wrap (byteAt (vp A).x m))) (.int .u8 (byteAt (vp A).x m)) (congrArg _ (wr8 (bytes8_byteAt _ m).1 (bytes8_byteAt _ m).2)) ?_
   refine At.sli 0 [] 32 1 (#[.int .u8 (byteAt (vp A).x m)]) 5 fun g32 h32 => ?_
   refine At.app 0 [] 33 (TT := 49) (xv := .slice (some ⟨g32, 0, none⟩) 1 1) (z := .int .u8 0) (sb' := 1) (ys := [.int .u8 (byteAt (vp A).x m)]) 0 rfl (fun W S => S.srcg 0 rfl rfl) (by rw [pcb_len]; show (m + 1 + 1) * 1 ≤ _; omega) (by rw [pcb_len]; show m + 1 + 1 ≤ _; omega) fun y28 hy28 zy28 => ?_
   refine At.run 1 [] [(3, y28.sl)] ?_
   refine At.fin ?_
   show Cd _ _ _ _ _ _ _ _
   refine Cd.rg ?_
   refine At.ar 2 [] 18 (.int .i64 3) (.int .i64 (31 - ((m + 1 : Nat) : Int))) (congrArg _ (by rw [h]; decide)) ?_
   refine At.run 1 [] [(4, .int .i64 (31 - ((m + 1 : Nat) : Int)))] ?_
   refine At.fin ?_
   exact again_of (⟨(m + 1, y28), ⟨(by omega : m + 1 ≤ 32), by rw [hy28, List.length_append, pcb_len]; rfl, zy28 hz⟩⟩) (by show 33 - (m + 1) < 33 - m; omega) (fun _ S => S.tl)
  next =>
   refine Cd.eqv 4 (.int .i64 (31 - ((m : Nat) : Int))) (.int .i64 3) (congrArg _ (by rw [h]; decide)) ?_
   refine Cd.seq ?_
   refine Cd.sr ?_
   refine At.run 2 [] [(16, .bool true)] ?_
   refine At.nx ?_
   refine Cd.ct ?_
   refine Cd.sk ?_
   show Cd _ _ _ _ _ _ _ _
   refine Cd.seq ?_
   refine Cd.blk ?_
   refine Cd.rg ?_
   refine At.run 10 [] [(19, y.sl), (24, .int .u64 (limb ((vp A).x) 0 : Nat)), (28, .int .u64 24)] ?_
   refine At.ar 1 [] 29 (.int .u64 (Int.fdiv ((limb (vp A).x 0 : Nat) : Int) 16777216)) (.int .u64 (((limb (vp A).x 0 : Nat) : Int) / 16777216)) (congrArg _ (Int.fdiv_eq_ediv_of_nonneg _ (by decide))) ?_
   refine At.ar 1 [] 30 (.int .u64 (Int.tmod (((limb (vp A).x 0 : Nat) : Int) / 16777216) 256)) (.int .u64 (byteAt (vp A).x m)) (congrArg _ (rbx (m := m) (by rw [h]) (by omega) (by rw [h]; decide))) ?_
   refine At.ar 1 [] 31 (.int .u8 (IntKind.u8.wrap (byteAt (vp A).x m))) (.int .u8 (byteAt (vp A).x m)) (congrArg _ (wr8 (bytes8_byteAt _ m).1 (bytes8_byteAt _ m).2)) ?_
   refine At.sli 0 [] 32 1 (#[.int .u8 (byteAt (vp A).x m)]) 5 fun g32 h32 => ?_
   refine At.app 0 [] 33 (TT := 49) (xv := .slice (some ⟨g32, 0, none⟩) 1 1) (z := .int .u8 0) (sb' := 1) (ys := [.int .u8 (byteAt (vp A).x m)]) 0 rfl (fun W S => S.srcg 0 rfl rfl) (by rw [pcb_len]; show (m + 1 + 1) * 1 ≤ _; omega) (by rw [pcb_len]; show m + 1 + 1 ≤ _; omega) fun y29 hy29 zy29 => ?_
   refine At.run 1 [] [(3, y29.sl)] ?_
   refine At.fin ?_
   show Cd _ _ _ _ _ _ _ _
   refine Cd.rg ?_
   refine At.ar 2 [] 18 (.int .i64 2) (.int .i64 (31 - ((m + 1 : Nat) : Int))) (congrArg _ (by rw [h]; decide)) ?_
   refine At.run 1 [] [(4, .int .i64 (31 - ((m + 1 : Nat) : Int)))] ?_
   refine At.fin ?_
   exact again_of (⟨(m + 1, y29), ⟨(by omega : m + 1 ≤ 32), by rw [hy29, List.length_append, pcb_len]; rfl, zy29 hz⟩⟩) (by show 33 - (m + 1) < 33 - m; omega) (fun _ S => S.tl)
  next =>
   refine Cd.eqv 4 (.int .i64 (31 - ((m : Nat) : Int))) (.int .i64 2) (congrArg _ (by rw [h]; decide)) ?_
   refine Cd.seq ?_
   refine Cd.sr ?_
   refine At.run 2 [] [(16, .bool true)] ?_
   refine At.nx ?_
   refine Cd.ct ?_
   refine Cd.sk ?_
   show Cd _ _ _ _ _ _ _ _
   refine Cd.seq ?_
   refine Cd.blk ?_
   refine Cd.rg ?_
   refine At.run 10 [] [(19, y.sl), (24, .int .u64 (limb ((vp A).x) 0 : Nat)), (28, .int .u64 16)] ?_
   refine At.ar 1 [] 29 (.int .u64 (Int.fdiv ((limb (vp A).x 0 : Nat) : Int) 65536)) (.int .u64 (((limb (vp A).x 0 : Nat) : Int) / 65536)) (congrArg _ (Int.fdiv_eq_ediv_of_nonneg _ (by decide))) ?_
   refine At.ar 1 [] 30 (.int .u64 (Int.tmod (((limb (vp A).x 0 : Nat) : Int) / 65536) 256)) (.int .u64 (byteAt (vp A).x m)) (congrArg _ (rbx (m := m) (by rw [h]) (by omega) (by rw [h]; decide))) ?_
   refine At.ar 1 [] 31 (.int .u8 (IntKind.u8.wrap (byteAt (vp A).x m))) (.int .u8 (byteAt (vp A).x m)) (congrArg _ (wr8 (bytes8_byteAt _ m).1 (bytes8_byteAt _ m).2)) ?_
   refine At.sli 0 [] 32 1 (#[.int .u8 (byteAt (vp A).x m)]) 5 fun g32 h32 => ?_
   refine At.app 0 [] 33 (TT := 49) (xv := .slice (some ⟨g32, 0, none⟩) 1 1) (z := .int .u8 0) (sb' := 1) (ys := [.int .u8 (byteAt (vp A).x m)]) 0 rfl (fun W S => S.srcg 0 rfl rfl) (by rw [pcb_len]; show (m + 1 + 1) * 1 ≤ _; omega) (by rw [pcb_len]; show m + 1 + 1 ≤ _; omega) fun y30 hy30 zy30 => ?_
   refine At.run 1 [] [(3, y30.sl)] ?_
   refine At.fin ?_
   show Cd _ _ _ _ _ _ _ _
   refine Cd.rg ?_
   refine At.ar 2 [] 18 (.int .i64 1) (.int .i64 (31 - ((m + 1 : Nat) : Int))) (congrArg _ (by rw [h]; decide)) ?_
   refine At.run 1 [] [(4, .int .i64 (31 - ((m + 1 : Nat) : Int)))] ?_
   refine At.fin ?_
   exact again_of (⟨(m + 1, y30), ⟨(by omega : m + 1 ≤ 32), by rw [hy30, List.length_append, pcb_len]; rfl, zy30 hz⟩⟩) (by show 33 - (m + 1) < 33 - m; omega) (fun _ S => S.tl)
  next =>
   refine Cd.eqv 4 (.int .i64 (31 - ((m : Nat) : Int))) (.int .i64 1) (congrArg _ (by rw [h]; decide)) ?_
   refine Cd.seq ?_
   refine Cd.sr ?_
   refine At.run 2 [] [(16, .bool true)] ?_
   refine At.nx ?_
   refine Cd.ct ?_
   refine Cd.sk ?_
   show Cd _ _ _ _ _ _ _ _
   refine Cd.seq ?_
   refine Cd.blk ?_
   refine Cd.rg ?_
   refine At.run 10 [] [(19, y.sl), (24, .int .u64 (limb ((vp A).x) 0 : Nat)), (28, .int .u64 8)] ?_
   refine At.ar 1 [] 29 (.int .u64 (Int.fdiv ((limb (vp A).x 0 : Nat) : Int) 256)) (.int .u64 (((limb (vp A).x 0 : Nat) : Int) / 256)) (congrArg _ (Int.fdiv_eq_ediv_of_nonneg _ (by decide))) ?_
   refine At.ar 1 [] 30 (.int .u64 (Int.tmod (((limb (vp A).x 0 : Nat) : Int) / 256) 256)) (.int .u64 (byteAt (vp A).x m)) (congrArg _ (rbx (m := m) (by rw [h]) (by omega) (by rw [h]; decide))) ?_
   refine At.ar 1 [] 31 (.int .u8 (IntKind.u8.wrap (byteAt (vp A).x m))) (.int .u8 (byteAt (vp A).x m)) (congrArg _ (wr8 (bytes8_byteAt _ m).1 (bytes8_byteAt _ m).2)) ?_
   refine At.sli 0 [] 32 1 (#[.int .u8 (byteAt (vp A).x m)]) 5 fun g32 h32 => ?_
   refine At.app 0 [] 33 (TT := 49) (xv := .slice (some ⟨g32, 0, none⟩) 1 1) (z := .int .u8 0) (sb' := 1) (ys := [.int .u8 (byteAt (vp A).x m)]) 0 rfl (fun W S => S.srcg 0 rfl rfl) (by rw [pcb_len]; show (m + 1 + 1) * 1 ≤ _; omega) (by rw [pcb_len]; show m + 1 + 1 ≤ _; omega) fun y31 hy31 zy31 => ?_
   refine At.run 1 [] [(3, y31.sl)] ?_
   refine At.fin ?_
   show Cd _ _ _ _ _ _ _ _
   refine Cd.rg ?_
   refine At.ar 2 [] 18 (.int .i64 0) (.int .i64 (31 - ((m + 1 : Nat) : Int))) (congrArg _ (by rw [h]; decide)) ?_
   refine At.run 1 [] [(4, .int .i64 (31 - ((m + 1 : Nat) : Int)))] ?_
   refine At.fin ?_
   exact again_of (⟨(m + 1, y31), ⟨(by omega : m + 1 ≤ 32), by rw [hy31, List.length_append, pcb_len]; rfl, zy31 hz⟩⟩) (by show 33 - (m + 1) < 33 - m; omega) (fun _ S => S.tl)
  next =>
   refine Cd.eqv 4 (.int .i64 (31 - ((m : Nat) : Int))) (.int .i64 0) (congrArg _ (by rw [h]; decide)) ?_
   refine Cd.seq ?_
   refine Cd.sr ?_
   refine At.run 2 [] [(16, .bool true)] ?_
   refine At.nx ?_
   refine Cd.ct ?_
   refine Cd.sk ?_
   show Cd _ _ _ _ _ _ _ _
   refine Cd.seq ?_
   refine Cd.blk ?_
   refine Cd.rg ?_
   refine At.run 10 [] [(19, y.sl), (24, .int .u64 (limb ((vp A).x) 0 : Nat)), (28, .int .u64 0)] ?_
   refine At.ar 1 [] 29 (.int .u64 (Int.fdiv ((limb (vp A).x 0 : Nat) : Int) 1)) (.int .u64 (((limb (vp A).x 0 : Nat) : Int) / 1)) (congrArg _ (Int.fdiv_eq_ediv_of_nonneg _ (by decide))) ?_
   refine At.ar 1 [] 30 (.int .u64 (Int.tmod (((limb (vp A).x 0 : Nat) : Int) / 1) 256)) (.int .u64 (byteAt (vp A).x m)) (congrArg _ (rbx (m := m) (by rw [h]) (by omega) (by rw [h]; decide))) ?_
   refine At.ar 1 [] 31 (.int .u8 (IntKind.u8.wrap (byteAt (vp A).x m))) (.int .u8 (byteAt (vp A).x m)) (congrArg _ (wr8 (bytes8_byteAt _ m).1 (bytes8_byteAt _ m).2)) ?_
   refine At.sli 0 [] 32 1 (#[.int .u8 (byteAt (vp A).x m)]) 5 fun g32 h32 => ?_
   refine At.app 0 [] 33 (TT := 49) (xv := .slice (some ⟨g32, 0, none⟩) 1 1) (z := .int .u8 0) (sb' := 1) (ys := [.int .u8 (byteAt (vp A).x m)]) 0 rfl (fun W S => S.srcg 0 rfl rfl) (by rw [pcb_len]; show (m + 1 + 1) * 1 ≤ _; omega) (by rw [pcb_len]; show m + 1 + 1 ≤ _; omega) fun y32 hy32 zy32 => ?_
   refine At.run 1 [] [(3, y32.sl)] ?_
   refine At.fin ?_
   show Cd _ _ _ _ _ _ _ _
   refine Cd.rg ?_
   refine At.ar 2 [] 18 (.int .i64 (-1)) (.int .i64 (31 - ((m + 1 : Nat) : Int))) (congrArg _ (by rw [h]; decide)) ?_
   refine At.run 1 [] [(4, .int .i64 (31 - ((m + 1 : Nat) : Int)))] ?_
   refine At.fin ?_
   exact again_of (⟨(m + 1, y32), ⟨(by omega : m + 1 ≤ 32), by rw [hy32, List.length_append, pcb_len]; rfl, zy32 hz⟩⟩) (by show 33 - (m + 1) < 33 - m; omega) (fun _ S => S.tl)
  next =>
   refine Cd.eqv 4 (.int .i64 (31 - ((m : Nat) : Int))) (.int .i64 (-1)) (congrArg _ (by rw [h]; decide)) ?_
   refine Cd.seq ?_
   refine Cd.sr ?_
   refine At.run 2 [] [(16, .bool false)] ?_
   refine At.nx ?_
   refine Cd.cf ?_
   refine Cd.ex ?_
   show Cd _ _ _ _ _ _ _ _
   refine Cd.sr ?_
   refine At.run 2 [] [(2, y.sl)] ?_
   refine At.nx ?_
   exact Cd.rv r0 [] (y.sl) fun W S => cbr_of (y := y) hz (S.og 0 rfl) ((show pcb _ _ m = pcb _ _ 32 by rw [h]).trans (pcb_cby hb)) (S.ogown 0 rfl) S.below
end Go.Proofs.Ythmcejhcidchhaa
namespace Go.Proofs.Ythmcejhcidchhaa
open Go.RowKit
open Ec (vp add mul neg KP GB FP On)
theorem capof_own {W : World} {A : Option Addr} {n c : Nat} {bs : List Nat} (h : RestV W (.slice A n c) bs) : ∀ a m k, Value.slice A n c = .slice a m k → m ≤ k := by
  rcases h with ⟨h, -⟩ | ⟨g, off, cap, cur, h, -, h1, -⟩
  · cases h; intro _ _ _ e; cases e; exact Nat.le_refl _
  · cases h; intro _ _ _ e; cases e; exact h1
theorem cbytes_x {w W : World} {L : List (Nat × Obj)} {X : List Xt} {A : Ec.Pt FP} (S : Sx w L X W) : Calls Try.prog 27 #[pvp A] W fun e w' => ∃ y : Lt, e = .returned (.slice (some ⟨y.n, 0, none⟩) (cby A).length y.c) ∧ Sx w L (xown w (.slice (some ⟨y.n, 0, none⟩) (cby A).length y.c) (cby A) :: X) w' :=
  (cbytes_c W).mono fun e w' ⟨y, he, hR, ho, hb⟩ => ⟨y, he, S.gave ⟨hb, hR, fun b hb => by cases hb; exact ho⟩⟩
theorem rbytes_d {A : Ec.Pt FP} (w : World) : Calls Try.prog 29 #[pvp A] w fun e w' => ∃ y : Lt, e = .returned (.slice (some ⟨y.n, 0, none⟩) (cby A).length y.c) ∧ RestV w' (.slice (some ⟨y.n, 0, none⟩) (cby A).length y.c) (cby A) ∧ Below w.heap.size w w' :=
  (rbytes_c w).mono fun e w' ⟨y, he, hR, _, hb⟩ => ⟨y, he, hR, hb⟩
theorem ron_q {A : Ec.Pt FP} (hA : On A) (W : World) : Calls Try.prog 17 #[pvp A] W fun e w' => e = .returned (.bool true) ∧ Below W.heap.size W w' := (ron_c (Ec.vp_w A).1 (Ec.vp_w A).2 W).mono fun e w' h => by rw [Ec.on_val hA] at h; exact h
theorem parse_own {A : Ec.Pt FP} (hA : On A) {v : Value} (hc : ∀ a n c, v = .slice a n c → n ≤ c) (W : World) (hp : PieceV W W.heap.size v (cby A)) : Calls Try.prog 28 #[v] W fun e' w' => e' = .returned (.tuple #[pvp A, .int .i64 0]) ∧ Below W.heap.size W w' := parse_v (prs_cby hA) (cby_lt A) hc W hp
theorem parse_bad {v : Value} {bs : List Nat} (h : prs bs = (⟨0, 0, false⟩, 41)) (h8 : ∀ y, y ∈ bs → y < 256) (hc : ∀ a n c, v = .slice a n c → n ≤ c) (W : World) (hp : PieceV W W.heap.size v bs) : Calls Try.prog 28 #[v] W fun e' w' => e' = .returned (.tuple #[.agg (pcs 0 0 false), .int .i64 41]) ∧ Below W.heap.size W w' := parse_v (P := ⟨0, 0, false⟩) (e := 41) h.symm h8 hc W hp
theorem app_other {W : World} {g k b o c : Nat} {bs : List Nat} (hl : bs.length = 33) (hg : W.heap[g]? = some (.cells #[.int .u8 ((k : Nat) : Int)] 5 (0, 0))) (hp : PieceV W W.heap.size (.slice (some ⟨b, o, none⟩) 32 c) (bs.drop 1)) :
    ∃ (e : Ending) (w' : World), (∃ y : Lt, e = .returned (.slice (some ⟨y.n, 0, none⟩) 33 y.c) ∧ RestV w' (.slice (some ⟨y.n, 0, none⟩) 33 y.c) (k :: bs.drop 1) ∧ Below W.heap.size W w') ∧ ∃ v', e = .returned v' ∧ (do pure (.value (← Builtin.append_ #[49, 49] 49 #[.slice (some ⟨g, 0, none⟩) 1 1, .slice (some ⟨b, o, none⟩) 32 c])) : Sem Next).run Try.prog W = .ok (.value v') w' := by
  have hl2 : (bs.drop 1).length = 32 := by rw [List.length_drop]; omega
  have hsrc : Src Try.prog 1 49 (.slice (some ⟨b, o, none⟩) 32 c) (bcells (bs.drop 1)).length (bcells (bs.drop 1)) W := by
    have := hp.src
    unfold SrcB at this
    rwa [bcells_len]
  obtain ⟨y, hn, W', hr, hR, hz, ho, hb⟩ := app_new (E := 5) Try.underlying49 (z := .int .u8 0) (sb' := 1) (by kernel_rfl) rfl 49 W (g := g) (off := 0) (cap := 1) (cs := [.int .u8 ((k : Nat) : Int)]) (fun j u hj => by
    rw [cell_of_row _ _ _ _ _ _ hg, Nat.zero_add, ← Array.getElem?_toList]; exact hj) hsrc (by rw [bcells_len, hl2]; show 1 < 1 + 32; decide) (by rw [bcells_len, hl2]; show (1 + 32) * 1 ≤ 70368744177664; decide) (by rw [bcells_len, hl2]; show 1 + 32 ≤ 1000000000000; decide)
  have hR := restv_of (bs := k :: bs.drop 1) hR
  have hR2 := hR
  rcases hR with ⟨-, h2⟩ | ⟨g', off, cap, cur, h1, -⟩
  · cases h2
  · have h0 := hz _ _ _ _ _ h1
    subst h0
    rw [List.length_cons, hl2] at h1
    rw [h1] at hr hR2
    exact ⟨_, W', ⟨lt0 none g' cap, rfl, hR2, hb⟩, _, rfl, by simp only [Sem.run_bind, Sem.run_pure, List.length_singleton] at hr ⊢; rw [hr]; rfl⟩
theorem nst_nul {bs : List Nat} (h : bs ≠ [0]) (h8 : ∀ y, y ∈ bs → y < 256) : ((nst bs).toList != (⟨#[0]⟩ : ByteArray).toList) = true := by
  rw [bne_iff_ne]
  intro e
  have e2 : nst bs = ⟨#[0]⟩ := by
    have := bytes_eq (nst bs) ⟨#[0]⟩
    rw [e, beq_self_eq_true] at this
    exact of_decide_eq_true this.symm
  have := bln_nst bs h8
  rw [e2] at this
  exact h this.symm
theorem ixz_run {b o c n i : Nat} (h : i < n) (W : World) : (Instr.indexAt 49 (.slice (some ⟨b, o, none⟩) n c) (.int .i64 ((i : Nat) : Int))).run Try.prog W = .ok (po b (o + i * 1)) W := by
  have hadd : (⟨b, o, none⟩ : Addr).add (i * 1) = ⟨b, o + i * 1, none⟩ := by unfold Addr.add; split <;> simp_all
  rw [Nat.mul_one] at hadd
  have hs : (sizeOf 5).run Try.prog W = .ok 1 W := sym0_run (by kernel_rfl)
  simp [Instr.indexAt, asIntOf, run_underlying Try.underlying49, hs, h, hadd]
theorem Sx.bnd {w W : World} {L : List (Nat × Obj)} {X : List Xt} (h : Sx w L X W) (i : Nat) {B : Nat} {v : Value} {bs : List Nat} (hi : X[i]? = some (xpc B v bs)) : B ≤ W.heap.size := (show B ≤ W.heap.size ∧ PieceV W B v bs from h.x i hi).1
theorem app_otherz {W : World} {B g k b o c : Nat} {bs : List Nat} (hl : bs.length = 33) (hg : W.heap[g]? = some (.cells #[.int .u8 ((k : Nat) : Int)] 5 (0, 0))) (hp : PieceS W (fun b => b < B) (.slice (some ⟨b, o, none⟩) bs.length c) bs) (hB : B ≤ W.heap.size) (hc : bs.length ≤ c) :
    ∃ (e : Ending) (w' : World), (∃ y : Lt, e = .returned (.slice (some ⟨y.n, 0, none⟩) 33 y.c) ∧ RestV w' (.slice (some ⟨y.n, 0, none⟩) 33 y.c) (k :: bs.drop 1) ∧ Below W.heap.size W w') ∧ ∃ v', e = .returned v' ∧ (do pure (.value (← Builtin.append_ #[49, 49] 49 #[.slice (some ⟨g, 0, none⟩) 1 1, .slice (some ⟨b, o + 1, none⟩) (bs.length - 1) (c - 1)])) : Sem Next).run Try.prog W = .ok (.value v') w' := by
  have h1 : PieceV W W.heap.size (.slice (some ⟨b, o + 1, none⟩) 32 (c - 1)) (bs.drop 1) := by
    refine Or.inr ⟨b, o + 1, c - 1, ?_, by rw [List.length_drop, hl], fun i hi => ?_⟩
    · rcases hp with ⟨-, h⟩ | ⟨b', o', c', h, e, -⟩
      · rw [h] at hl; cases hl
      · injection e with e; injection e with e; injection e with e1 e2; subst e1; omega
    · rw [List.length_drop] at hi
      rw [nth_drop]; exact hp.at (1 + i) _ (by omega) (by omega)
  have := app_other (c := c - 1) hl hg h1
  rw [hl]; exact this
theorem other_of {bs : List Nat} {k n : Nat} (hE : ¬ (prs bs).2 = 0) (hl : bs.length = 33) (h2 : nth bs 0 = k) (hk : (k = 2 ∨ k = 3) ∧ n = 5 - k) : prs (n :: bs.drop 1) = (⟨0, 0, false⟩, 41) := by
  obtain ⟨hk, rfl⟩ := hk
  cases bs with
  | nil => cases hl
  | cons b l =>
    have : b = k := h2
    subst this
    exact prs_other hE (by simpa using hl) hk
theorem other_lt {bs : List Nat} {n : Nat} (h8 : ∀ y, y ∈ bs → y < 256) (hn : n < 256) : ∀ y, y ∈ n :: bs.drop 1 → y < 256 := fun y h => by
  rcases List.mem_cons.1 h with rfl | h
  · exact hn
  · exact h8 y (List.mem_of_mem_drop h)
set_option maxHeartbeats 4000000 in
set_option maxRecDepth 100000 in
theorem curvebytes_w (K : Nat) (cc : Bool) (v : Value) (bs : List Nat) (hK : K < 65536) (hbb : (∀ y, y ∈ bs → y < 256) ∧ bs.length ≤ 9223372036854775807) (w : World) (hp : PieceV w w.heap.size v bs) (hcap : ∀ a n c, v = .slice a n c → n ≤ c) : Calls Try.prog 8 #[.agg (pkc ((K : Nat) : Int) cc), v] w fun e w' => e = .returned (.bool true) ∧ Below w.heap.size w w' := by
 obtain ⟨A, c, rfl⟩ := hp.shape
 have S0 := Sx.ofpc hp
 refine enterQ 109 (fun q => .seq (q 0) (.seq (.seq (q 1) (.cond (.tmp 14) (.seq (q 2) .ret) .skip)) (.seq (.seq (q 3) (.cond (.tmp 17) (.seq (q 4) .ret) .skip)) (.seq (q 5) (.seq (q 6) (.seq (q 7) (.seq (.seq (q 8) (.cond (.tmp 41) (.seq (q 9) .ret) .skip)) (.seq (q 10) (.seq (.seq (q 11) (.cond (.tmp 48) (.seq (q 12) .ret) .skip)) (.seq (.seq (q 13) (.cond (.tmp 73) (.seq (q 14) (.seq (q 15) .ret)) .skip)) (.seq (q 16) .ret))))))))))) S0 Try.func8 ?_
 refine Cd.sr ?_
 refine At.new 0 [] 2 (pkc ((K : Nat) : Int) cc) 24 fun g2 h2 => ?_
 refine At.run 1 [] [] ?_
 refine At.nx ?_
 refine Cd.seq ?_
 refine Cd.sr ?_
 refine At.call 0 [] 13 (fun W S => c4alive_c W) ?_
 refine At.run 1 [] [(14, .bool false)] ?_
 refine At.nx ?_
 refine Cd.cf ?_
 refine Cd.sk ?_
 show Cd _ _ _ _ _ _ _ _
 refine Cd.seq ?_
 refine Cd.sr ?_
 refine At.run 3 [] [(17, .bool (decide (((bs.length : Nat) : Int) > 100)))] ?_
 refine At.nx ?_
 rcases Bool.eq_false_or_eq_true (decide (((bs.length : Nat) : Int) > 100)) with hb | hb
 next =>
  refine Cd.eqv 17 (.bool (decide (((bs.length : Nat) : Int) > 100))) (.bool true) (congrArg _ hb) ?_
  refine Cd.ct ?_
  refine Cd.sr ?_
  refine At.run 1 [] [(4, .bool true)] ?_
  refine At.nx ?_
  exact Cd.rv (rt r0) [] (.bool true) fun W S => ⟨rfl, S.below⟩
 next =>
  refine Cd.eqv 17 (.bool (decide (((bs.length : Nat) : Int) > 100))) (.bool false) (congrArg _ hb) ?_
  refine Cd.cf ?_
  refine Cd.sk ?_
  show Cd _ _ _ _ _ _ _ _
  refine Cd.sr ?_
  obtain ⟨A1, eA1⟩ : ∃ zz, zz = pkA K cc := ⟨_, rfl⟩
  have oA1 : On A1 := eA1 ▸ on_pk K cc
  refine At.call 1 [] 19 (fun W S => of_p eA1 hK W) ?_
  refine At.new 0 [] 5 (pcs 0 0 false) 30 fun g5 h5 => ?_
  refine At.st 0 [] 0 (pcs ((vp A1).x) ((vp A1).y) ((vp A1).o)) h5 ?_
  refine At.nx ?_
  refine Cd.sr ?_
  refine At.callX 1 [] 21 (fun W S => cbytes_x (A := A1) S) fun y2 => ?_
  refine At.run 1 [] [(6, .slice (some ⟨y2.n, 0, none⟩) ((cby A1).length) y2.c)] ?_
  refine At.nx ?_
  refine Cd.sr ?_
  refine At.call 1 [] 24 (fun W S => parse_own oA1 (capof_own (S.own 0 rfl)) W (S.ownpc 0 rfl)) ?_
  refine At.run 3 [] [(25, .agg (pcs ((vp A1).x) ((vp A1).y) ((vp A1).o))), (26, .int .i64 0)] ?_
  refine At.new 0 [] 7 (pcs 0 0 false) 30 fun g7 h7 => ?_
  refine At.st 0 [] 0 (pcs ((vp A1).x) ((vp A1).y) ((vp A1).o)) h7 ?_
  refine At.run 1 [] [(8, .int .i64 0)] ?_
  refine At.nx ?_
  refine Cd.seq ?_
  refine Cd.seq ?_
  refine Cd.dr 13 [0, 0, 1, 0, 0, 0, 0, 0, 0, 0, 0, 0, 1] [(1, .string (nst (cby A1))), (4, .string (nst (cby A1)))] [] [(3, fun y => .slice (some ⟨y.n, 0, none⟩) (cby A1).length y.c, fun y W => RestV W (.slice (some ⟨y.n, 0, none⟩) (cby A1).length y.c) (cby A1))] [(5, .bool ((nst (cby A1)).toList != (nst (cby A1)).toList), .bool false)] (fun u8 => [(37, .bool false), (38, .agg (pcs ((vp A1).x) ((vp A1).y) ((vp A1).o))), (39, .agg (pcs ((vp A1).x) ((vp A1).y) ((vp A1).o)))]) (fun u8 => [(g7, .cells (pcs ((vp A1).x) ((vp A1).y) ((vp A1).o)) 30 (0, 0)), (g5, .cells (pcs ((vp A1).x) ((vp A1).y) ((vp A1).o)) 30 (0, 0)), (g2, .cells (pkc ((K : Nat) : Int) cc) 24 (0, 0))]) (fun u8 => [xown w (.slice (some ⟨y2.n, 0, none⟩) ((cby A1).length) y2.c) (cby A1), xpc w.heap.size (.slice A bs.length c) bs]) (stays_cons (fun _ _ _ hb h => RestV.stays h (fun b _ hl => hb.block b hl)) stays_nil) (eqs_cons (congrArg _ (bne_self_eq_false _)) eqs_nil) (.cons 1 (fun u8 W S h => sem_ob (run_str (S.ownpc 0 rfl))) <| .cons 3 (fun u8 W S h => rbytes_d (A := A1) W) <| .cons 4 (fun u8 W S h => sem_ob (run_str (RestV.piece (h.2 3 _ rfl (by kernel_rfl))))) <| .nil) (fun u8 W S h => S) fun u8 hu8 => ?_
  refine At.ar 1 [] 40 (.bool (!(weq ((vp A1).x) ((vp A1).x) && (weq ((vp A1).y) ((vp A1).y) && (((vp A1).o == (vp A1).o) && true))))) (.bool false) (congrArg _ (pqn (A := A1) (B := A1) (rfl))) ?_
  refine At.run 1 [] [(41, .bool false)] ?_
  refine At.nx ?_
  refine Cd.cf ?_
  refine Cd.sk ?_
  show Cd _ _ _ _ _ _ _ _
  by_cases hE : (prs bs).2 = 0
  next =>
   obtain ⟨B, oB, eB, cB⟩ := prs_sound (P := (prs bs).1) (by rw [← hE]) hbb.1
   refine Cd.sr ?_
   refine At.call 1 [] 44 (fun W S => parse_v (P := vp B) (e := 0) (by rw [eB]; exact Prod.ext rfl hE.symm) hbb.1 hcap W (S.pc 1 rfl)) ?_
   refine At.run 3 [] [(45, .agg (pcs ((vp B).x) ((vp B).y) ((vp B).o))), (46, .int .i64 0)] ?_
   refine At.new 0 [] 9 (pcs 0 0 false) 30 fun g9 h9 => ?_
   refine At.st 0 [] 0 (pcs ((vp B).x) ((vp B).y) ((vp B).o)) h9 ?_
   refine At.run 1 [] [(10, .int .i64 0)] ?_
   refine At.nx ?_
   refine Cd.seq ?_
   refine Cd.sr ?_
   refine At.run 2 [] [(48, .bool true)] ?_
   refine At.nx ?_
   refine Cd.ct ?_
   refine Cd.seq ?_
   refine Cd.dr 8 [] [(1, .bool true), (5, .string (nst (cby B))), (7, .string (nst bs))] [] [(4, fun y => .slice (some ⟨y.n, 0, none⟩) (cby B).length y.c, fun y W => RestV W (.slice (some ⟨y.n, 0, none⟩) (cby B).length y.c) (cby B))] [] (fun u12 => [(51, .bool true), (54, .string (nst (cby B))), (56, .string (nst bs))]) (fun u12 => [(g9, .cells (pcs ((vp B).x) ((vp B).y) ((vp B).o)) 30 (0, 0)), (g7, .cells (pcs ((vp A1).x) ((vp A1).y) ((vp A1).o)) 30 (0, 0)), (g5, .cells (pcs ((vp A1).x) ((vp A1).y) ((vp A1).o)) 30 (0, 0)), (g2, .cells (pkc ((K : Nat) : Int) cc) 24 (0, 0))]) (fun u12 => [xown w (.slice (some ⟨y2.n, 0, none⟩) ((cby A1).length) y2.c) (cby A1), xpc w.heap.size (.slice A bs.length c) bs]) (stays_cons (fun _ _ _ hb h => RestV.stays h (fun b _ hl => hb.block b hl)) stays_nil) eqs_nil (.cons 1 (fun u12 W S h => ron_q oB W) <| .cons 4 (fun u12 W S h => rbytes_d (A := B) W) <| .cons 5 (fun u12 W S h => sem_ob (run_str (RestV.piece (h.2 4 _ rfl (by kernel_rfl))))) <| .cons 7 (fun u12 W S h => sem_ob (run_str (S.pc 1 rfl))) <| .nil) (fun u12 W S h => S) fun u12 hu12 => ?_
   refine At.ar 1 [] 57 (.bool ((nst (cby B)).toList == (nst bs).toList)) (.bool true) (congrArg _ (by rw [cB]; exact beq_self_eq_true _)) ?_
   refine At.run 2 [] [(4, .bool true)] ?_
   refine At.nx ?_
   exact Cd.rv (rt r0) [] (.bool true) fun W S => ⟨rfl, S.below⟩
  next =>
   have hE2 := prs_err hE
   refine Cd.sr ?_
   refine At.call 1 [] 44 (fun W S => parse_bad hE2 hbb.1 hcap W (S.pc 1 rfl)) ?_
   refine At.run 3 [] [(45, .agg (pcs 0 0 false)), (46, .int .i64 41)] ?_
   refine At.new 0 [] 9 (pcs 0 0 false) 30 fun g9 h9 => ?_
   refine At.st 0 [] 0 (pcs 0 0 false) h9 ?_
   refine At.run 1 [] [(10, .int .i64 41)] ?_
   refine At.nx ?_
   refine Cd.seq ?_
   refine Cd.sr ?_
   refine At.run 2 [] [(48, .bool false)] ?_
   refine At.nx ?_
   refine Cd.cf ?_
   refine Cd.sk ?_
   show Cd _ _ _ _ _ _ _ _
   refine Cd.seq ?_
   refine Cd.sr ?_
   by_cases hl : bs.length = 33
   next =>
    refine At.fact (p := ∃ b o, A = some ⟨b, o, none⟩) (fun W S => S.lies 1 rfl rfl (by omega)) (fun ⟨b, o, eA⟩ => ?_)
    subst eA
    rcases (by omega : nth bs 0 = 2 ∨ nth bs 0 = 3 ∨ (nth bs 0 ≠ 2 ∧ nth bs 0 ≠ 3)) with h2 | h2 | h2
    next =>
     refine At.ar 3 [] 61 (.bool (((bs.length : Nat) : Int) == (33 : Int))) (.bool true) (congrArg _ (by rw [hl]; rfl)) ?_
     refine At.run 2 [] [(62, .bool true), (63, .slice (some ⟨b, o, none⟩) bs.length c)] ?_
     refine At.ixs 0 [] 64 1 b o bs.length c .i64 0 (by omega) ?_
     refine At.ld 0 [] 65 b (o + 0 * 1) (.int .u8 2) (fun W S => by have q := (S.pcS 1 rfl).at 0 (o + 0 * 1) (by omega) rfl; rwa [h2] at q) ?_
     refine At.run 8 [] [(73, .bool true)] ?_
     refine At.nx ?_
     refine Cd.ct ?_
     refine Cd.seq ?_
     refine Cd.drL 13 11 [] [(1, po b (o + 0 * 1)), (2, .int .u8 2), (6, .slice (some ⟨b, o + 1, none⟩) (bs.length - 1) (c - 1)), (8, .tuple #[.agg (pcs 0 0 false), .int .i64 41])] [(4, ⟨some 1, #[.int .u8 3], 5⟩), (12, ⟨none, pcs 0 0 false, 30⟩)] [(7, fun y => .slice (some ⟨y.n, 0, none⟩) 33 y.c, fun y W => RestV W (.slice (some ⟨y.n, 0, none⟩) 33 y.c) (3 :: bs.drop 1))] [] (fun u14 => [(84, .agg (pcs 0 0 false)), (85, .int .i64 41), (11, pt ((u14 12).n))]) (fun u14 => [((u14 4).n, .cells #[.int .u8 3] 5 (0, 0)), ((u14 12).n, .cells (pcs 0 0 false) 30 (0, 0)), (g9, .cells (pcs 0 0 false) 30 (0, 0)), (g7, .cells (pcs ((vp A1).x) ((vp A1).y) ((vp A1).o)) 30 (0, 0)), (g5, .cells (pcs ((vp A1).x) ((vp A1).y) ((vp A1).o)) 30 (0, 0)), (g2, .cells (pkc ((K : Nat) : Int) cc) 24 (0, 0))]) (fun u14 => [xown w (.slice (some ⟨y2.n, 0, none⟩) ((cby A1).length) y2.c) (cby A1), xpc w.heap.size (.slice (some ⟨b, o, none⟩) bs.length c) bs]) (stays_cons (fun _ _ _ hb h => RestV.stays h (fun b _ hl => hb.block b hl)) stays_nil) eqs_nil (.cons 1 (fun u14 W S h => sem_ob (ixz_run (b := b) (o := o) (n := bs.length) (c := c) (i := 0) (by omega) W)) <| .cons 2 (fun u14 W S h => sem_ob (run_load1 Try.underlying5 rfl (by have q := (S.pcS 1 rfl).at 0 (o + 0 * 1) (by omega) rfl; rwa [h2] at q))) <| .cons 6 (fun u14 W S h => sem_ob (cut_l_run (b := b) (o := o) (m := bs.length) (c := c) (lo := 1) (by omega) (hcap _ _ _ rfl) W)) <| .cons 7 (fun u14 W S h => app_otherz hl (h.1 4 _ rfl (by kernel_rfl)) (S.pcS 1 rfl) (S.bnd 1 rfl) (hcap _ _ _ rfl)) <| .cons 8 (fun u14 W S h => parse_bad (other_of hE hl h2 (by decide)) (other_lt hbb.1 (by decide)) (capof_own (h.2 7 _ rfl (by kernel_rfl))) W (RestV.piece (h.2 7 _ rfl (by kernel_rfl)))) <| .nil) (fun u14 W S h => S) (fun u14 => [(9, pt g9), (10, .int .i64 41), (12, .int .i64 41)]) (fun u14 => [((u14 4).n, .cells #[.int .u8 3] 5 (0, 0)), ((u14 12).n, .cells (pcs 0 0 false) 30 (0, 0)), (g9, .cells (pcs 0 0 false) 30 (0, 0)), (g7, .cells (pcs ((vp A1).x) ((vp A1).y) ((vp A1).o)) 30 (0, 0)), (g5, .cells (pcs ((vp A1).x) ((vp A1).y) ((vp A1).o)) 30 (0, 0)), (g2, .cells (pkc ((K : Nat) : Int) cc) 24 (0, 0))]) (fun u14 => [xown w (.slice (some ⟨y2.n, 0, none⟩) ((cby A1).length) y2.c) (cby A1), xpc w.heap.size (.slice (some ⟨b, o, none⟩) bs.length c) bs]) (fun u14 hu14 => ?_) (fun u14 hu14 => ?_)
     next =>
      refine At.st 0 [] 1 (pcs 0 0 false) (hu14 12 _ rfl) ?_
      refine At.run 1 [] [(12, .int .i64 41)] ?_
      exact At.fin (endsU_of u14 hu14)
     show Cd _ _ _ _ _ _ _ _
     refine Cd.sr ?_
     refine At.run 9 [0, 0, 0, 0, 0, 0, 0, 2] [(92, .bool true), (93, .agg (pcs 0 0 false)), (94, .agg (pcs 0 0 false))] ?_
     refine At.ar 1 [] 95 (.bool (weq 0 0 && (weq 0 0 && ((false == false) && true)))) (.bool true) (congrArg _ (by decide +kernel)) ?_
     refine At.run 2 [] [(4, .bool true)] ?_
     refine At.nx ?_
     exact Cd.rv (rt r0) [] (.bool true) fun W S => ⟨rfl, S.below⟩
    next =>
     refine At.ar 3 [] 61 (.bool (((bs.length : Nat) : Int) == (33 : Int))) (.bool true) (congrArg _ (by rw [hl]; rfl)) ?_
     refine At.run 2 [] [(62, .bool true), (63, .slice (some ⟨b, o, none⟩) bs.length c)] ?_
     refine At.ixs 0 [] 64 1 b o bs.length c .i64 0 (by omega) ?_
     refine At.ld 0 [] 65 b (o + 0 * 1) (.int .u8 3) (fun W S => by have q := (S.pcS 1 rfl).at 0 (o + 0 * 1) (by omega) rfl; rwa [h2] at q) ?_
     refine At.run 3 [] [(67, .bool false), (68, .slice (some ⟨b, o, none⟩) bs.length c)] ?_
     refine At.ixs 0 [] 69 1 b o bs.length c .i64 0 (by omega) ?_
     refine At.ld 0 [] 70 b (o + 0 * 1) (.int .u8 3) (fun W S => by have q := (S.pcS 1 rfl).at 0 (o + 0 * 1) (by omega) rfl; rwa [h2] at q) ?_
     refine At.run 3 [] [(73, .bool true)] ?_
     refine At.nx ?_
     refine Cd.ct ?_
     refine Cd.seq ?_
     refine Cd.drL 13 11 [] [(1, po b (o + 0 * 1)), (2, .int .u8 3), (6, .slice (some ⟨b, o + 1, none⟩) (bs.length - 1) (c - 1)), (8, .tuple #[.agg (pcs 0 0 false), .int .i64 41])] [(4, ⟨some 1, #[.int .u8 2], 5⟩), (12, ⟨none, pcs 0 0 false, 30⟩)] [(7, fun y => .slice (some ⟨y.n, 0, none⟩) 33 y.c, fun y W => RestV W (.slice (some ⟨y.n, 0, none⟩) 33 y.c) (2 :: bs.drop 1))] [] (fun u14 => [(84, .agg (pcs 0 0 false)), (85, .int .i64 41), (11, pt ((u14 12).n))]) (fun u14 => [((u14 4).n, .cells #[.int .u8 2] 5 (0, 0)), ((u14 12).n, .cells (pcs 0 0 false) 30 (0, 0)), (g9, .cells (pcs 0 0 false) 30 (0, 0)), (g7, .cells (pcs ((vp A1).x) ((vp A1).y) ((vp A1).o)) 30 (0, 0)), (g5, .cells (pcs ((vp A1).x) ((vp A1).y) ((vp A1).o)) 30 (0, 0)), (g2, .cells (pkc ((K : Nat) : Int) cc) 24 (0, 0))]) (fun u14 => [xown w (.slice (some ⟨y2.n, 0, none⟩) ((cby A1).length) y2.c) (cby A1), xpc w.heap.size (.slice (some ⟨b, o, none⟩) bs.length c) bs]) (stays_cons (fun _ _ _ hb h => RestV.stays h (fun b _ hl => hb.block b hl)) stays_nil) eqs_nil (.cons 1 (fun u14 W S h => sem_ob (ixz_run (b := b) (o := o) (n := bs.length) (c := c) (i := 0) (by omega) W)) <| .cons 2 (fun u14 W S h => sem_ob (run_load1 Try.underlying5 rfl (by have q := (S.pcS 1 rfl).at 0 (o + 0 * 1) (by omega) rfl; rwa [h2] at q))) <| .cons 6 (fun u14 W S h => sem_ob (cut_l_run (b := b) (o := o) (m := bs.length) (c := c) (lo := 1) (by omega) (hcap _ _ _ rfl) W)) <| .cons 7 (fun u14 W S h => app_otherz hl (h.1 4 _ rfl (by kernel_rfl)) (S.pcS 1 rfl) (S.bnd 1 rfl) (hcap _ _ _ rfl)) <| .cons 8 (fun u14 W S h => parse_bad (other_of hE hl h2 (by decide)) (other_lt hbb.1 (by decide)) (capof_own (h.2 7 _ rfl (by kernel_rfl))) W (RestV.piece (h.2 7 _ rfl (by kernel_rfl)))) <| .nil) (fun u14 W S h => S) (fun u14 => [(9, pt g9), (10, .int .i64 41), (12, .int .i64 41)]) (fun u14 => [((u14 4).n, .cells #[.int .u8 2] 5 (0, 0)), ((u14 12).n, .cells (pcs 0 0 false) 30 (0, 0)), (g9, .cells (pcs 0 0 false) 30 (0, 0)), (g7, .cells (pcs ((vp A1).x) ((vp A1).y) ((vp A1).o)) 30 (0, 0)), (g5, .cells (pcs ((vp A1).x) ((vp A1).y) ((vp A1).o)) 30 (0, 0)), (g2, .cells (pkc ((K : Nat) : Int) cc) 24 (0, 0))]) (fun u14 => [xown w (.slice (some ⟨y2.n, 0, none⟩) ((cby A1).length) y2.c) (cby A1), xpc w.heap.size (.slice (some ⟨b, o, none⟩) bs.length c) bs]) (fun u14 hu14 => ?_) (fun u14 hu14 => ?_)
     next =>
      refine At.st 0 [] 1 (pcs 0 0 false) (hu14 12 _ rfl) ?_
      refine At.run 1 [] [(12, .int .i64 41)] ?_
      exact At.fin (endsU_of u14 hu14)
     show Cd _ _ _ _ _ _ _ _
     refine Cd.sr ?_
     refine At.run 9 [0, 0, 0, 0, 0, 0, 0, 2] [(92, .bool true), (93, .agg (pcs 0 0 false)), (94, .agg (pcs 0 0 false))] ?_
     refine At.ar 1 [] 95 (.bool (weq 0 0 && (weq 0 0 && ((false == false) && true)))) (.bool true) (congrArg _ (by decide +kernel)) ?_
     refine At.run 2 [] [(4, .bool true)] ?_
     refine At.nx ?_
     exact Cd.rv (rt r0) [] (.bool true) fun W S => ⟨rfl, S.below⟩
    next =>
     refine At.ar 3 [] 61 (.bool (((bs.length : Nat) : Int) == (33 : Int))) (.bool true) (congrArg _ (by rw [hl]; rfl)) ?_
     refine At.run 2 [] [(62, .bool true), (63, .slice (some ⟨b, o, none⟩) bs.length c)] ?_
     refine At.ixs 0 [] 64 1 b o bs.length c .i64 0 (by omega) ?_
     refine At.ld 0 [] 65 b (o + 0 * 1) (.int .u8 ((nth bs 0 : Nat) : Int)) (fun W S => by have q := (S.pcS 1 rfl).at 0 (o + 0 * 1) (by omega) rfl; exact q) ?_
     refine At.ar 1 [] 66 (.bool (((nth bs 0 : Nat) : Int) == (2 : Int))) (.bool false) (congrArg _ (by simpa using fun e : ((nth bs 0 : Nat) : Int) = 2 => h2.1 (by omega))) ?_
     refine At.run 2 [] [(67, .bool false), (68, .slice (some ⟨b, o, none⟩) bs.length c)] ?_
     refine At.ixs 0 [] 69 1 b o bs.length c .i64 0 (by omega) ?_
     refine At.ld 0 [] 70 b (o + 0 * 1) (.int .u8 ((nth bs 0 : Nat) : Int)) (fun W S => by have q := (S.pcS 1 rfl).at 0 (o + 0 * 1) (by omega) rfl; exact q) ?_
     refine At.ar 1 [] 71 (.bool (((nth bs 0 : Nat) : Int) == (3 : Int))) (.bool false) (congrArg _ (by simpa using fun e : ((nth bs 0 : Nat) : Int) = 3 => h2.2 (by omega))) ?_
     refine At.run 2 [] [(73, .bool false)] ?_
     refine At.nx ?_
     refine Cd.cf ?_
     refine Cd.sk ?_
     show Cd _ _ _ _ _ _ _ _
     refine Cd.sr ?_
     refine At.run 5 [] [(99, .bool true), (100, .agg (pcs 0 0 false)), (101, .agg (pcs 0 0 false))] ?_
     refine At.ar 1 [] 102 (.bool (weq 0 0 && (weq 0 0 && ((false == false) && true)))) (.bool true) (congrArg _ (by decide +kernel)) ?_
     refine At.run 3 [] [(104, .bool true), (105, .slice (some ⟨b, o, none⟩) bs.length c)] ?_
     refine At.sem 0 [] 106 (convert 49 9 (.slice (some ⟨b, o, none⟩) bs.length c)) (.string (nst bs)) (fun W S => run_str (S.pc 1 rfl)) ?_
     refine At.ar 1 [] 107 (.bool ((nst bs).toList != (⟨#[0]⟩ : ByteArray).toList)) (.bool true) (congrArg _ (nst_nul (prs_nul hE) hbb.1)) ?_
     refine At.run 2 [] [(4, .bool true)] ?_
     refine At.nx ?_
     exact Cd.rv r0 [] (.bool true) fun W S => ⟨rfl, S.below⟩
   next =>
    refine At.ar 3 [] 61 (.bool (((bs.length : Nat) : Int) == (33 : Int))) (.bool false) (congrArg _ (by simpa using fun e : ((bs.length : Nat) : Int) = 33 => hl (by omega))) ?_
    refine At.run 12 [] [(73, .bool false)] ?_
    refine At.nx ?_
    refine Cd.cf ?_
    refine Cd.sk ?_
    show Cd _ _ _ _ _ _ _ _
    refine Cd.sr ?_
    refine At.run 5 [] [(99, .bool true), (100, .agg (pcs 0 0 false)), (101, .agg (pcs 0 0 false))] ?_
    refine At.ar 1 [] 102 (.bool (weq 0 0 && (weq 0 0 && ((false == false) && true)))) (.bool true) (congrArg _ (by decide +kernel)) ?_
    refine At.run 3 [] [(104, .bool true), (105, .slice A bs.length c)] ?_
    refine At.sem 0 [] 106 (convert 49 9 (.slice A bs.length c)) (.string (nst bs)) (fun W S => run_str (S.pc 1 rfl)) ?_
    refine At.ar 1 [] 107 (.bool ((nst bs).toList != (⟨#[0]⟩ : ByteArray).toList)) (.bool true) (congrArg _ (nst_nul (prs_nul hE) hbb.1)) ?_
    refine At.run 2 [] [(4, .bool true)] ?_
    refine At.nx ?_
    exact Cd.rv r0 [] (.bool true) fun W S => ⟨rfl, S.below⟩
end Go.Proofs.Ythmcejhcidchhaa
namespace Go.Proofs.Ythmcejhcidchhaa
open Go.ChangeShapes Go.WideShapes Go.ChangeAt Go.RowKit
theorem own_c : ownKnob Try.prog.godebug = none := by kernel_rfl
theorem laid_c : laidOutB Try.prog = true := by kernel_rfl
theorem trodAll_stays {H : Type} {enc : TypeId × Value → H} {P : Program} (hl : laidOutB P = true) {W W' : World} (hb : Below W.heap.size W W') : ∀ (ts : List TypeId) (args : List Value) (ds : List (DataW H)) (p : List MemPlace),
    (∀ t, t ∈ ts → P.readableRec t = true ∧ t < P.types.size) → DataW.TrodAll enc P W 0 (fun _ => true) true ts args ds p → (∀ x ∈ p, x.block < W.heap.size) →
    DataW.TrodAll enc P W' 0 (fun b => decide (b < W.heap.size)) true ts args ds p
  | [], args, ds, p, _, h, _ => by
    obtain ⟨rfl, rfl, rfl⟩ := trodAll_nil h
    exact rfl
  | t :: ts, args, ds, p, ht, h, hp => by
    obtain ⟨v, vs, d, ds', p1, p2, rfl, rfl, rfl, h1, h2⟩ := trodAll_cons h
    exact trodAll_cons_mk (Below.trod hl (ht t (by simp)).1 (ht t (by simp)).2 h1 hb (fun x hx => hp x (by simp [hx]))) (trodAll_stays hl hb ts vs ds' p2 (fun t h => ht t (by simp [h])) h2 (fun x hx => hp x (by simp [hx])))
/-- A law that has answered true. -/
theorem law_post {H : Type} {enc : TypeId × Value → H} {f : Func} {s : ChangeSpec} {W W' : World} {args : Array Value} {ds gs : List (DataW H)} {before : List MemPlace} {apart fresh handsOn : Bool} (hv : s.vars = [])
    (hr : f.resultTypes = #[4]) (hf : ∀ t, t ∈ f.params.toList → Try.prog.readableRec t = true ∧ t < Try.prog.types.size)
    (hW : DataW.Whole enc Try.prog f.params.toList s.vars apart W args.toList ds gs before) (h1 : (s.fn H (ds ++ gs)).results = [.lit (.bool true)]) (h2 : (s.fn H (ds ++ gs)).args = ds) (h3 : (s.fn H (ds ++ gs)).vars = [])
    (hb : Below W.heap.size W W') : s.post enc Try.prog f apart fresh handsOn false W args (.bool true) W' := by
  have hW' := hW
  obtain ⟨p, q, hA, hV, rfl, hfz, hnd⟩ := hW
  rw [hv] at hV
  obtain ⟨rfl, rfl⟩ := trodVars_none hV
  refine ⟨ds, [], _, [], p, [], hW', ?_, ?_, ?_, hb.frame _, fun h => by cases h⟩
  · rw [h1, hr]; exact trodAll_mk1 (shut_bool Try.underlying4 _)
  · rw [h2]
    exact trodAll_stays laid_c hb _ _ _ _ hf hA (fun x hx => hW'.lt x (by simp [hx]))
  · rw [h3, hv]; exact rfl
end Go.Proofs.Ythmcejhcidchhaa
namespace Go.Proofs.Ythmcejhcidchhaa
open Go.ChangeShapes Go.WideShapes Go.ChangeAt Go.RowKit
theorem byte_of_wf {x : Int} (h : (Lit.int .u8 x).wf = true) : 0 ≤ x ∧ x < 256 := by
  simp [Lit.wf, IntKind.min, IntKind.max, IntKind.signed, IntKind.bits] at h
  exact ⟨by omega, by omega⟩
theorem lt_of_cell {W : World} {b o : Nat} {v : Value} (h : W.cell? ⟨b, o, none⟩ = some v) : b < W.heap.size := by
  unfold World.cell? at h
  rcases Nat.lt_or_ge b W.heap.size with h' | h'
  · exact h'
  · simp [Array.getElem?_eq_none h'] at h
/-- A slice of bytes as numbers, out of the reading. -/
theorem ints_piece {W : World} {a : Addr} {len cap : Nat} {zs : List Int} (hle : len ≤ zs.length) (hcell : ∀ i, i < zs.length → W.cell? (a.add i) = some (.int .u8 (zs.getD i 0))) (hwf : ∀ n ∈ zs, (Lit.int .u8 n).wf = true) :
    ∃ bs : List Nat, bs.length = len ∧ (∀ y, y ∈ bs → y < 256) ∧ PieceV W W.heap.size (.slice (some a) len cap) bs := by
  refine ⟨(zs.take len).map Int.toNat, by simp; omega, fun y hy => ?_, ?_⟩
  · simp only [List.mem_map] at hy
    obtain ⟨z, hz, rfl⟩ := hy
    have := byte_of_wf (hwf z (List.mem_of_mem_take hz)); omega
  · by_cases h0 : len = 0
    · exact Or.inl ⟨⟨_, _, by rw [h0]⟩, by simp [h0]⟩
    · obtain ⟨b, off, rfl, hc⟩ := ints_at hcell (by omega)
      have hl : ((zs.take len).map Int.toNat).length = len := by simp; omega
      refine Or.inr ⟨b, off, cap, lt_of_cell (hc 0 (by omega)), by rw [hl], fun i hi => ?_⟩
      rw [hl] at hi
      rw [hc i (by omega)]
      have hi2 : i < zs.length := by omega
      have hw := byte_of_wf (hwf _ (List.getElem_mem hi2))
      have e : nth ((zs.take len).map Int.toNat) i = (zs[i]'hi2).toNat := by
        unfold nth
        rw [List.getD_eq_getElem?_getD, List.getElem?_map, List.getElem?_take, if_pos hi, List.getElem?_eq_getElem hi2]; rfl
      rw [e, List.getD_eq_getElem?_getD, List.getElem?_eq_getElem hi2]
      simp only [Option.getD_some]
      rw [Int.toNat_of_nonneg hw.1]
set_option maxRecDepth 100000 in
theorem open_bytesc {H : Type} {enc : TypeId × Value → H} {W : World} {r : Reach} {base : Nat} {sp : Nat → Bool} {held : Bool} {b0 : Nat} {v : Value} {d : DataW H} {p : List MemPlace} (hv : Value.okWide Try.prog W r base 49 v) (h : DataW.Trod enc Try.prog W b0 sp held 49 v d p) :
    ∃ bs : List Nat, ((∀ y, y ∈ bs → y < 256) ∧ bs.length ≤ 9223372036854775807) ∧ PieceV W W.heap.size v bs ∧ ∀ a n c, v = .slice a n c → n ≤ c := by
  obtain ⟨a0, len, cap, rfl⟩ := okWide_slice Try.underlying49 hv
  obtain ⟨fuel, hf⟩ := h
  have hc1 : Try.prog.cellsOf 5 = 1 := by kernel_rfl
  rcases open_ints Try.underlying49 Try.underlying5 hc1 hf with ⟨hcs, -⟩ | ⟨a, len', cap', zs, hcs, -, hl, hm, hz, -, hcell, hwf⟩
  · have e : (Value.slice a0 len cap) = .slice none 0 0 := by simpa [Value.cells] using hcs
    injection e with e1 e2 e3
    subst e1 e2 e3
    exact ⟨[], ⟨by simp, by simp⟩, Or.inl ⟨⟨_, _, rfl⟩, rfl⟩, fun a n c h => by injection h with h1 h2 h3; omega⟩
  · have e : (Value.slice a0 len cap) = .slice (some a) len' cap' := by simpa [Value.cells] using hcs
    injection e with e1 e2 e3
    subst e1 e2 e3
    have hle : len ≤ zs.length := by rw [hz]; split <;> omega
    obtain ⟨bs, h1, h2, h3⟩ := ints_piece (cap := cap) hle hcell hwf
    simp only [maxLen] at hm
    exact ⟨bs, ⟨h2, by omega⟩, h3, fun a n c h => by injection h with h1 h2 h3; omega⟩
end Go.Proofs.Ythmcejhcidchhaa
namespace Go.Proofs.Ythmcejhcidchhaa
open Go.ChangeShapes Go.WideShapes Go.ChangeAt Go.RowKit
theorem array2 {α : Type} {cs : Array α} (h : cs.size = 2) : ∃ c0 c1, cs = #[c0, c1] := by
  obtain ⟨l⟩ := cs
  match l, h with
  | [c0, c1], _ => exact ⟨c0, c1, rfl⟩
theorem u16_of_wf {x : Int} (h : (Lit.int .u16 x).wf = true) : 0 ≤ x ∧ x < 65536 := by
  simp [Lit.wf, IntKind.min, IntKind.max, IntKind.signed, IntKind.bits] at h
  exact ⟨by omega, by omega⟩
set_option maxRecDepth 100000 in
theorem open_pick {H : Type} {enc : TypeId × Value → H} {W : World} {r : Reach} {base : Nat} {sp : Nat → Bool} {held : Bool} {b0 : Nat} {v : Value} {d : DataW H} {p : List MemPlace} (hv : Value.okWide Try.prog W r base 24 v) (h : DataW.Trod enc Try.prog W b0 sp held 24 v d p) :
    ∃ (K : Nat) (c : Bool), K < 65536 ∧ v = .agg (pkc ((K : Nat) : Int) c) := by
  obtain ⟨cs, rfl, hsz⟩ := okWide_struct Try.underlying24 hv
  have hC : Try.prog.cellsOf 24 = 2 := by kernel_rfl
  have k1 : Try.prog.cellsOf 22 = 1 := by kernel_rfl
  have k2 : Try.prog.cellsOf 4 = 1 := by kernel_rfl
  rw [hC] at hsz
  obtain ⟨c0, c1, rfl⟩ := array2 hsz
  obtain ⟨fuel, hf⟩ := h
  obtain ⟨xs, n, -, -, -, hlen, hg⟩ := DataW.trod_struct Try.underlying24 hf
  have g0 : DataW.trod enc Try.prog W b0 sp held n 22 (([c0, c1].drop 0).take (Try.prog.cellsOf 22)) = xs[0]? := hg 0 _ rfl
  have g1 : DataW.trod enc Try.prog W b0 sp held n 4 (([c0, c1].drop 1).take (Try.prog.cellsOf 4)) = xs[1]? := hg 1 _ rfl
  rw [k1, List.getElem?_eq_getElem (by rw [hlen]; decide)] at g0
  rw [k2, List.getElem?_eq_getElem (by rw [hlen]; decide)] at g1
  obtain ⟨a, e0, -, hw⟩ := DataW.trod_int Try.underlying22 g0
  obtain ⟨o, e1, -⟩ := DataW.trod_bool Try.underlying4 g1
  have hb := u16_of_wf hw
  obtain ⟨K, rfl⟩ := Int.eq_ofNat_of_zero_le hb.1
  have e0' : c0 = .int .u16 (K : Int) := by simpa using e0
  have e1' : c1 = .bool o := by simpa using e1
  exact ⟨K, o, by omega, by rw [e0', e1']; rfl⟩
end Go.Proofs.Ythmcejhcidchhaa
