/-
  append on slices of bytes that lie anywhere in a row; what a call keeps.
-/
import Derived.Test.YtbjcigokimieoaaHe
import Derived.Deep.AppendSrc
import Derived.Laws.OwnMore
namespace Go.Proofs.Ytbjcigokimieoaa
open Go.RowKit

theorem u8_row : (Try.prog.info? 5).map (fun i => (i.zero, i.size, i.bytes)) = some (some (.int .u8 0), 1, 1) := by kernel_rfl

/-- Bytes as cells. -/
def bcells (l : List Nat) : List Value := l.map fun n => Value.int .u8 ((n : Nat) : Int)
theorem bcells_len (l : List Nat) : (bcells l).length = l.length := by simp [bcells]
theorem bcells_get (l : List Nat) (i : Nat) (h : i < l.length) : (bcells l)[i]? = some (.int .u8 ((nth l i : Nat) : Int)) := by
  simp only [bcells, List.getElem?_map, nth_get l i h, Option.map_some]
theorem bcells_one (l : List Nat) : ∀ u ∈ bcells l, u.oneCell' = true := by
  intro u hu; simp only [bcells, List.mem_map] at hu; obtain ⟨_, -, rfl⟩ := hu; rfl

/-- What a step leaves as it was: all old blocks but those of F. -/
structure Keeps (F : Nat → Prop) (W W' : World) : Prop where
  os : W'.os = W.os
  tape : W'.tape = W.tape
  output : W'.output = W.output
  size : W.heap.size ≤ W'.heap.size
  block : ∀ b, b < W.heap.size → ¬ F b → W'.heap[b]? = W.heap[b]?
theorem Keeps.refl (F : Nat → Prop) (W : World) : Keeps F W W := ⟨rfl, rfl, rfl, Nat.le_refl _, fun _ _ _ => rfl⟩
theorem Keeps.trans {F G : Nat → Prop} {A B C : World} (h : Keeps F A B) (k : Keeps G B C) (hG : ∀ b, G b → F b ∨ A.heap.size ≤ b) : Keeps F A C :=
  ⟨k.os.trans h.os, k.tape.trans h.tape, k.output.trans h.output, Nat.le_trans h.size k.size, fun b hb hf => (k.block b (Nat.lt_of_lt_of_le hb h.size) (fun hg => by rcases hG b hg with h1 | h1; exact hf h1; omega)).trans (h.block b hb hf)⟩
theorem Keeps.of_below {F : Nat → Prop} {W W' : World} (h : Below W.heap.size W W') : Keeps F W W' := ⟨h.os, h.tape, h.output, h.size, fun b hb _ => h.block b hb⟩
theorem Keeps.below {F : Nat → Prop} {W W' : World} (h : Keeps F W W') (hF : ∀ b, F b → W.heap.size ≤ b) : Below W.heap.size W W' := ⟨h.os, h.tape, h.output, h.size, fun b hb => h.block b hb (fun hf => by have := hF b hf; omega)⟩
theorem Keeps.drew {F : Nat → Prop} {W W' : World} (h : Keeps F W W') : Keeps F W W'.drew := ⟨h.os, h.tape, h.output, h.size, h.block⟩
theorem Keeps.setCell {F : Nat → Prop} {A W : World} (h : Keeps F A W) {g o : Nat} (v : Value) (hF : F g ∨ A.heap.size ≤ g) : Keeps F A (W.setCell ⟨g, o, none⟩ v) :=
  h.trans (G := fun b => b = g) (let k := Below.setCell (Below.refl 0 W) (p := ⟨g, o, none⟩) (Nat.zero_le _) v; ⟨k.os, k.tape, k.output, k.size, fun b _ hb => heap_setCell_other W _ _ _ hb⟩) (fun b hb => by subst hb; exact hF)
theorem Keeps.setRow {F : Nat → Prop} {A W : World} (h : Keeps F A W) {g : Nat} (c : Array Value) (hF : F g ∨ A.heap.size ≤ g) : Keeps F A (W.setRow g c) :=
  h.trans (G := fun b => b = g) ⟨rfl, rfl, rfl, by simp [World.setRow], fun b _ hb => setRow_other W g b c hb⟩ (fun b hb => by subst hb; exact hF)
theorem Keeps.alloc {F : Nat → Prop} {A W : World} (h : Keeps F A W) (o : Obj) : Keeps F A (W.alloc o) := h.trans (Keeps.of_below (F := F) ((Below.refl _ _).alloc (Nat.le_refl _) o)) (fun _ hb => Or.inl hb)

/-- A slice of bytes that may be appended to: where it lies. -/
def RestV (W : World) (v : Value) (bs : List Nat) : Prop :=
  (v = .slice none 0 0 ∧ bs = []) ∨ ∃ g off cap cur, v = .slice (some ⟨g, off, none⟩) bs.length cap ∧ W.heap[g]? = some (.cells cur 5 (0, 0)) ∧ bs.length ≤ cap ∧ off + cap ≤ cur.size ∧ (∀ i, i < bs.length → cur[off + i]? = some (.int .u8 ((nth bs i : Nat) : Int)))
theorem RestV.keep {W W' : World} {v : Value} {bs : List Nat} {F : Nat → Prop} (h : RestV W v bs) (k : Keeps F W W') (hF : ∀ g, v.ownBlock = some g → ¬ F g) : RestV W' v bs := by
  rcases h with h | ⟨g, off, cap, cur, rfl, hg, h1, h2, h3⟩
  · exact Or.inl h
  · exact Or.inr ⟨g, off, cap, cur, rfl, (k.block g (lt_of_block hg) (hF g rfl)).trans hg, h1, h2, h3⟩
theorem RestV.shape {W : World} {v : Value} {bs : List Nat} (h : RestV W v bs) : ∃ a c, v = .slice a bs.length c := by
  rcases h with ⟨rfl, rfl⟩ | ⟨g, off, cap, cur, rfl, -⟩
  · exact ⟨_, _, rfl⟩
  · exact ⟨_, _, rfl⟩

/-- A source of bytes. -/
abbrev SrcB (W : World) (x : Value) (ys : List Nat) : Prop := Src Try.prog 1 22 x ys.length (bcells ys) W
theorem srcB_slice (W : World) (b o c : Nat) (ys : List Nat) (h : ∀ i, i < ys.length → W.cell? ⟨b, o + i, none⟩ = some (.int .u8 ((nth ys i : Nat) : Int))) : SrcB W (.slice (some ⟨b, o, none⟩) ys.length c) ys :=
  Src.ofSlice (w := W) Try.underlying22 ⟨b, o, none⟩ _ c _ (by rw [bcells_len, Nat.mul_one]) (fun j u hj => by
    have hl : j < ys.length := by have := (List.getElem?_eq_some_iff.1 hj).1; rwa [bcells_len] at this
    rw [bcells_get ys j hl] at hj
    have hadd : (⟨b, o, none⟩ : Addr).add j = ⟨b, o + j, none⟩ := by unfold Addr.add; split <;> simp_all
    rw [hadd, h j hl]; exact hj) (bcells_one ys)
theorem srcB_nil (W : World) (c : Nat) : SrcB W (.slice none 0 c) [] := Src.ofNil W Try.underlying22 c
theorem RestV.src {W : World} {v : Value} {bs : List Nat} (h : RestV W v bs) : SrcB W v bs := by
  rcases h with ⟨rfl, rfl⟩ | ⟨g, off, cap, cur, rfl, hg, h1, h2, h3⟩
  · exact srcB_nil W 0
  · exact srcB_slice W g off cap bs (fun i hi => (cell_of_row _ _ _ _ _ _ hg).trans (h3 i hi))

theorem run_app_room (ty : TypeId) (i : TypeInfo) (hi : Try.prog.info? 5 = some i) (h1 : i.size = 1) (W : World) (g off n cap : Nat) (cur : Array Value) (hg : W.heap[g]? = some (.cells cur 5 (0, 0))) (x : Value) (m : Nat) (news : List Value) (hs : Src Try.prog 1 22 x m news W)
    (hroom : n + m ≤ cap) (hfit : off + cap ≤ cur.size) :
    (Builtin.append_ #[22, 22] ty #[.slice (some ⟨g, off, none⟩) n cap, x]).run Try.prog W = .ok (.slice (some ⟨g, off, none⟩) (n + m) cap) (W.setRow g (cur.toList.take (off + n) ++ news ++ cur.toList.drop (off + n + news.length)).toArray) := by
  have hl := hs.newsLen
  have hst := run_storeCells_at Try.prog g (off + n) 5 news 0 cur W hg (by omega) hs.one
  simp only [Nat.add_zero] at hst
  rcases hs.kind with ⟨e', hk⟩ | hk <;> simp [Builtin.append_, run_underlying Try.underlying22, sizeOf, typeInfo, hi, h1, hs.len, hroom, hs.cells, Addr.add_lit, hst]

theorem run_append_nothing' (ty : TypeId) (i : TypeInfo) (hi : Try.prog.info? 5 = some i) (h1 : i.size = 1) (W : World) (base : Option Addr) (n cap : Nat) (hle : n ≤ cap) (x : Value) (hs : Src Try.prog 1 22 x 0 [] W) :
    (Builtin.append_ #[22, 22] ty #[.slice base n cap, x]).run Try.prog W = .ok (.slice base n cap) W := by
  rcases hs.kind with ⟨e', hk⟩ | hk <;> cases base <;> simp [Builtin.append_, run_underlying Try.underlying22, sizeOf, typeInfo, hi, h1, hs.len, hle, hs.cells, storeCells]

/-- append(s, x...). -/
theorem run_app (ty : TypeId) (W : World) (v x : Value) (bs ys : List Nat) (hv : RestV W v bs) (hs : SrcB W x ys) (hn : bs.length + ys.length ≤ 70368744177664) :
    ∃ v' W', (Builtin.append_ #[22, 22] ty #[v, x]).run Try.prog W = .ok v' W' ∧ RestV W' v' (bs ++ ys) ∧ Keeps (fun b => v.ownBlock = some b) W W' ∧ (∀ b, v'.ownBlock = some b → v.ownBlock = some b ∨ b = W.heap.size) := by
  obtain ⟨i, hi, hz, h1, h2⟩ := info_parts u8_row
  have hsm : ∀ k, k = bs.length + ys.length → ((k : Nat) : Int) ≤ 9223372036854775807 := fun k hk => by omega
  -- a new row
  have grow : ∀ (base : Option Addr) (cap : Nat), v = .slice base bs.length cap → cap < bs.length + ys.length → (Builtin.firstCells i.size bs.length (.slice base bs.length cap)).run Try.prog W.drew = .ok (bcells bs).toArray W.drew →
      ∃ v' W', (Builtin.append_ #[22, 22] ty #[v, x]).run Try.prog W = .ok v' W' ∧ RestV W' v' (bs ++ ys) ∧ Keeps (fun b => v.ownBlock = some b) W W' ∧ (∀ b, v'.ownBlock = some b → v.ownBlock = some b ∨ b = W.heap.size) := by
    rintro base cap rfl hlt hold
    have hfit : Builtin.nextslicecap (bs.length + ys.length) cap * i.bytes ≤ 281474976710656 := growslice_fits (by omega) (by rw [h2]; omega)
    have hr := run_append_grow_src (P := Try.prog) (w := W) 22 22 ty 5 i (.int .u8 0) Try.underlying22 hi hz base bs.length cap (bcells bs) hold x ys.length (bcells ys) (by rw [h1]; exact hs) hlt (hsm _ rfl) hfit
    have hge := grownCap_ge W (bs.length + ys.length) cap 5
    generalize grownCap W (bs.length + ys.length) cap 5 = gc at hr hge
    refine ⟨_, _, hr, Or.inr ⟨W.heap.size, 0, gc, _, by rw [List.length_append], heap_alloc_new W.drew _, by rw [List.length_append]; exact hge, ?_, ?_⟩, ?_, ?_⟩
    · simp only [Array.size_append, List.size_toArray, List.length_append, bcells_len, size_zeroCells]
      simp [Value.cells]; omega
    · intro k hk
      rw [Nat.zero_add, Array.getElem?_append_left (by simpa [bcells_len] using hk), List.getElem?_toArray]
      rw [show bcells bs ++ bcells ys = bcells (bs ++ ys) by simp [bcells]]
      exact bcells_get _ k hk
    · exact Keeps.of_below ((Below.refl _ _).drew.alloc (Nat.le_refl _) _)
    · intro b hb; simp [Value.ownBlock] at hb; exact Or.inr hb.symm
  rcases hv with ⟨rfl, rfl⟩ | ⟨g, off, cap, cur, rfl, hg, hc1, hc2, hc3⟩
  · by_cases hm : ys.length = 0
    · obtain rfl : ys = [] := List.eq_nil_of_length_eq_zero hm
      have hr := run_append_nothing' ty i hi h1 W none 0 0 (Nat.le_refl _) x hs
      exact ⟨_, _, hr, Or.inl ⟨rfl, rfl⟩, Keeps.refl _ _, fun b hb => Or.inl hb⟩
    · exact grow none 0 rfl (by simp; omega) (run_firstCells_none (P := Try.prog) W.drew i.size 0 0 0)
  · by_cases hroom : bs.length + ys.length ≤ cap
    · have hr := run_app_room ty i hi h1 W g off bs.length cap cur hg x ys.length (bcells ys) hs hroom hc2
      refine ⟨_, _, hr, Or.inr ⟨g, off, cap, _, by rw [List.length_append], setRow_heap W g cur _ _ _ hg, by rw [List.length_append]; exact hroom, ?_, ?_⟩, ?_, ?_⟩
      · simp only [List.size_toArray, List.length_append, List.length_take, List.length_drop, Array.length_toList, bcells_len]; omega
      · intro k hk
        rw [List.getElem?_toArray]
        have htl : (List.take (off + bs.length) cur.toList).length = off + bs.length := by simp; omega
        by_cases hkb : k < bs.length
        · rw [List.append_assoc, List.getElem?_append_left (by rw [htl]; omega), List.getElem?_take, if_pos (by omega), nth_append_left _ _ _ hkb]
          have := hc3 k hkb
          simpa using this
        · rw [List.length_append] at hk
          rw [List.append_assoc, List.getElem?_append_right (by rw [htl]; omega), htl, List.getElem?_append_left (by rw [bcells_len]; omega), show off + k - (off + bs.length) = k - bs.length by omega, bcells_get ys _ (by omega), nth_append_right _ _ _ (by omega)]
      · exact (Keeps.refl _ W).setRow _ (Or.inl rfl)
      · intro b hb; exact Or.inl hb
    · refine grow (some ⟨g, off, none⟩) cap rfl (by omega) ?_
      rw [h1]
      exact run_firstCells_some (P := Try.prog) W.drew 1 bs.length ⟨g, off, none⟩ bs.length cap (bcells bs) (by rw [bcells_len, Nat.mul_one]) (fun j u hj => by
        have hl : j < bs.length := by have := (List.getElem?_eq_some_iff.1 hj).1; rwa [bcells_len] at this
        rw [bcells_get bs j hl] at hj
        have hadd : (⟨g, off, none⟩ : Addr).add j = ⟨g, off + j, none⟩ := by unfold Addr.add; split <;> simp_all
        rw [hadd, ← hj]
        exact (cell_of_row W g (off + j) cur _ _ hg).trans (hc3 j hl))

/-- The operation, where it stands in a list. -/
theorem wpList_app {ops : Array Oper} {rest : List Oper} {o : Oper} {a : Act} {Q : Exit → Act → World → Prop} {W : World} (hgd : o.guard = none) (s x : Operand)
    (ho : o.op = .call { callee := .builtin .append, args := #[s, x], argTypes := #[22, 22] }) (v xv : Value) (hsv : a.eval s = v) (hxv : a.eval x = xv) (bs ys : List Nat) (hv : RestV W v bs) (hs : SrcB W xv ys) (hn : bs.length + ys.length ≤ 70368744177664)
    (h : ∀ v' W', RestV W' v' (bs ++ ys) → Keeps (fun b => v.ownBlock = some b) W W' → (∀ b, v'.ownBlock = some b → v.ownBlock = some b ∨ b = W.heap.size) → wpList Try.prog ops Q rest (a.put o.dst v') W') : wpList Try.prog ops Q (o :: rest) a W := by
  refine wpList_plain hgd fun K hK => ?_
  obtain ⟨v', W', hr, h2, h3, h4⟩ := run_app o.type W v xv bs ys hv hs hn
  unfold Oper.wp execOp
  simp only [ho, resolve, invoke, builtin, Sem.run_bind, Sem.run_pure, Result.andThen_ok, List.map_toArray, List.map_cons, List.map_nil, hsv, hxv, hr]
  exact hK _ _ (h v' W' h2 h3 h4)
end Go.Proofs.Ytbjcigokimieoaa
