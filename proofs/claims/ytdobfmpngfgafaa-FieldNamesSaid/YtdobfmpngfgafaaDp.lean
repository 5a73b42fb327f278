/-
  One digit more behind digits that the call owns: append's law, fitted.
-/
import Derived.Test.YtdobfmpngfgafaaDw
import Derived.Test.YtdobfmpngfgafaaWm
import Derived.Laws.AppendOwn
import Derived.Laws.OwnMore
namespace Go.Proofs.Ytdobfmpngfgafaa
open Go.RowKit

theorem u64_row : (Try.prog.info? 22).map (fun i => (i.zero, i.size, i.bytes)) = some (some (.int .u64 0), 1, 8) := by kernel_rfl

/-- The digits as cells. -/
def dcells (ds : List Nat) : List Value := ds.map fun d => .int .u64 ((d : Nat) : Int)

/-- A slice that the call owns, from block B on: these digits. -/
structure OwnD (W : World) (B g n c : Nat) (ds : List Nat) : Prop where
  own : W.ownsRow B 22 1 (sv g 0 n c) n (dcells ds)
  len : ds.length = n

theorem OwnD.base {W : World} {B g n c : Nat} {ds : List Nat} (h : OwnD W B g n c ds) : B ≤ g ∧ g < W.heap.size := h.own.lt g rfl
theorem OwnD.dg {W : World} {B g n c : Nat} {ds : List Nat} (h : OwnD W B g n c ds) : Dg W g 0 ds := by
  refine ⟨h.base.2, fun i hi => ?_⟩
  have e := h.own.cells (g := g) rfl i (.int .u64 ((Go.Proofs.Ytdobfmpngfgafaa.dg ds i : Nat) : Int)) (by
    simp only [dcells, List.getElem?_map, Go.Proofs.Ytdobfmpngfgafaa.dg, List.getD_eq_getElem?_getD, List.getElem?_eq_getElem hi]; rfl)
  have hadd : (⟨g, 0, none⟩ : Addr).add i = ⟨g, 0 + i, none⟩ := by unfold Addr.add; split <;> simp_all
  rw [hadd] at e; exact e
theorem OwnD.keep {W W' : World} {B g n c : Nat} {ds : List Nat} (h : OwnD W B g n c ds) (hb : Below W.heap.size W W') : OwnD W' B g n c ds := by
  refine ⟨h.own.kept (row := none) ⟨hb.os, hb.tape, hb.output, hb.size, fun k hk _ => hb.block k hk⟩ (.inr (by simp [Value.ownBlock])), h.len⟩
theorem OwnD.start (W : World) (B : Nat) (hB : B ≤ W.heap.size) : OwnD (W.alloc (.cells #[] 22)) B W.heap.size 0 0 [] :=
  ⟨World.ownsRow_made W #[] 0 hB (by decide) rfl, rfl⟩

theorem OwnD.start' (W : World) (B : Nat) (hB : B ≤ W.heap.size) (n : Nat) (hn : W.heap.size = n) : OwnD (W.alloc (.cells #[] 22)) B n 0 0 [] := by
  subst hn; exact OwnD.start W B hB

/-- append(s, d). -/
theorem wpList_push {ops : Array Oper} {rest : List Oper} {o : Oper} {a : Act} {Q : Exit → Act → World → Prop} {W : World} (hgd : o.guard = none) (s x : Operand)
    (ho : o.op = .call { callee := .builtin .append, args := #[s, x], argTypes := #[27, 27] })
    (B g n c d b : Nat) (ds : List Nat) (hs : a.eval s = sv g 0 n c) (hx : a.eval x = .slice (some ⟨b, 0, none⟩) 1 1) (hown : OwnD W B g n c ds) (hn : n ≤ 1000000) (hb : W.cell? ⟨b, 0, none⟩ = some (.int .u64 ((d : Nat) : Int)))
    (h : ∀ g' c' W', OwnD W' B g' (n + 1) c' (ds ++ [d]) → Below B W W' → wpList Try.prog ops Q rest (a.put o.dst (sv g' 0 (n + 1) c')) W') : wpList Try.prog ops Q (o :: rest) a W := by
  obtain ⟨i0, hi, hz0, hz1, hz2⟩ := info_parts u64_row
  refine wpList_append_own W hgd s x 27 ho B 22 i0 (.int .u64 0) 1 8 Try.underlying27 hi hz0 hz1 hz2 rfl (by decide) (sv g 0 n c) n (dcells ds) hs hown.own ⟨b, 0, none⟩ 1 1 [.int .u64 ((d : Nat) : Int)] hx rfl ?_ ?_ ?_ ?_ ?_ ?_
  · intro j u hj
    cases j with
    | zero => simp at hj; subst hj; exact hb
    | succ j => simp at hj
  · simp [Value.oneCell']
  · simp only [maxLen]; omega
  · omega
  · have := hown.base; omega
  · intro v' W' ho' hg hnil
    rcases ho'.2 with ⟨rfl, h0⟩ | ⟨g', cap, cur, rfl, hr⟩
    · omega
    · refine h g' cap W' ⟨by rw [show dcells (ds ++ [d]) = dcells ds ++ [.int .u64 ((d : Nat) : Int)] by simp [dcells]]; exact ho', by simp [hown.len]⟩ ?_
      exact (Below.refl B W).grown hg (by have := hown.base; omega) (fun k hk => by simp [Value.ownBlock] at hk; have := hown.base; omega)

end Go.Proofs.Ytdobfmpngfgafaa
