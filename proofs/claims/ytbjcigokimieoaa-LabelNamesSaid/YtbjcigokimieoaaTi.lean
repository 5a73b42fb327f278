/-
  label.pushed. (Printed by gen_label.py.)
-/
import Derived.Test.YtbjcigokimieoaaTh
import Derived.Test.YtbjcigokimieoaaTd
import Derived.Test.YtbjcigokimieoaaSq
namespace Go.Proofs.Ytbjcigokimieoaa
open Go.RowKit

theorem bs_row : (Try.prog.info? 22).map (fun i => (i.zero, i.size, i.bytes)) = some (some (.slice none 0 0), 1, 24) := by kernel_rfl
/-- What pushed gives back. -/
def RetU (w : World) (bs : List Nat) (k : Nat) (e : Ending) (w' : World) : Prop :=
  (parS bs k = none ∧ e = .returned (.tuple #[.slice none 0 0, .slice none 0 0, .bool false]) ∧ Below w.heap.size w w') ∨
    ∃ l r lv rv, parS bs k = some (l, r) ∧ e = .returned (.tuple #[lv, rv, .bool true]) ∧ Below w.heap.size w w' ∧ PcsS w' (fun b => w.heap.size ≤ b ∧ b < w'.heap.size) lv l
theorem Sx.topcsB {w W : World} {L : List (Nat × Obj)} {X : List Xt} (h : Sx w L X W) (i j : Nat) {S : Nat → Prop} {E : TypeId} {v : Value} {vs : List Value} {pss : List (List Nat)} (hi : X[i]? = some (xog E w v vs)) (hj : X[j]? = some (xpl S vs pss)) (hl : vs.length = pss.length) (hS : ∀ b, S b → w.heap.size ≤ b) : PcsS W (fun b => w.heap.size ≤ b ∧ b < W.heap.size) v pss := by
  have h1 := h.og i hi
  have ho := h.ogown i hi
  have h2 : (∀ b, S b → b < W.heap.size) ∧ ∀ (i : Nat) v ps, vs[i]? = some v → pss[i]? = some ps → PieceS W S v ps := h.x j hj
  refine ⟨fun _ h => h.2, ?_⟩
  rcases h1 with ⟨rfl, rfl⟩ | ⟨g, off, cap, cur, rfl, hg, a1, a2, a3⟩
  · exact Or.inl ⟨⟨_, _, rfl⟩, List.eq_nil_of_length_eq_zero hl.symm⟩
  · refine Or.inr ⟨g, off, cap, ⟨ho g rfl, lt_of_block hg⟩, by rw [hl], fun k ys hk => ?_⟩
    have hkl : k < vs.length := by rw [hl]; exact (List.getElem?_eq_some_iff.1 hk).1
    obtain ⟨x, hx⟩ : ∃ x, vs[k]? = some x := ⟨_, List.getElem?_eq_getElem hkl⟩
    exact ⟨x, (cell_of_row _ _ _ _ _ _ hg).trans ((a3 k hkl).trans hx), (h2.2 k x ys hx hk).mono (fun b hb => ⟨hS b hb, h2.1 b hb⟩)⟩
theorem Sx.rot {w W : World} {L : List (Nat × Obj)} {q a b c : Xt} (h : Sx w L [q, a, b, c] W) : Sx w L [a, b, q] W := by
  obtain ⟨e1, e2⟩ := List.pairwise_cons.1 h.excl
  obtain ⟨e3, e4⟩ := List.pairwise_cons.1 e2
  obtain ⟨e5, e6⟩ := List.pairwise_cons.1 e4
  have m : ∀ r, r ∈ [a, b, q] → r ∈ [q, a, b, c] := fun r hr => by
    simp only [List.mem_cons, List.not_mem_nil, or_false] at hr ⊢
    rcases hr with h | h | h
    · exact Or.inr (Or.inl h)
    · exact Or.inr (Or.inr (Or.inl h))
    · exact Or.inl h
  refine ⟨h.below, h.rows, h.apart, fun r hr => h.ext r (m r hr), fun p hp r hr => h.sep p hp r (m r hr), fun r hr => h.bound r (m r hr), ?_⟩
  refine List.Pairwise.cons (fun r hr => ?_) (List.Pairwise.cons (fun r hr => ?_) (List.pairwise_singleton _ _))
  · simp only [List.mem_cons, List.not_mem_nil, or_false] at hr
    rcases hr with rfl | rfl
    · exact e3 _ (List.mem_cons_self ..)
    · exact fun hx x h1 h2 => e1 a (List.mem_cons_self ..) (by rw [Bool.or_comm]; exact hx) x h2 h1
  · simp only [List.mem_cons, List.not_mem_nil, or_false] at hr
    subst hr
    exact fun hx x h1 h2 => e1 b (List.mem_cons_of_mem _ (List.mem_cons_self ..)) (by rw [Bool.or_comm]; exact hx) x h2 h1
set_option maxRecDepth 100000 in
set_option maxHeartbeats 4000000 in
theorem lb_pushed (v : Value) (bs : List Nat) (m : Nat) (hm : m ≤ 1000) (w : World) (hp : PieceV w w.heap.size v bs) (hcap : ∀ a n c, v = .slice a n c → n ≤ c) (hby : ∀ y, y ∈ bs → y < 256) (hlen : bs.length ≤ 1000000000) : Calls Try.prog 20 #[v, .int .i64 (m : Int)] w (RetU w bs m) := by
  obtain ⟨ba, bc, rfl⟩ := hp.shape
  have hc := hcap _ _ _ rfl
  have S0 := Sx.ofpc hp
  clear hp hcap
  have sk : Try.f20.body = some (.seq (rgn Try.f20 0) (.seq (rgn Try.f20 1) (.seq (.seq (rgn Try.f20 2) (.block 0 (.loop (.seq (rgn Try.f20 3) (.seq (.cond (.tmp 14) .skip (.exit 0)) (.seq (.block 1 (.seq (rgn Try.f20 4) (.seq (.seq (rgn Try.f20 5) (.cond (.tmp 23) (.seq (rgn Try.f20 6) .ret) .skip)) (.seq (rgn Try.f20 7) (rgn Try.f20 8))))) (rgn Try.f20 9))))))) (.seq (rgn Try.f20 10) .ret)))) := by kernel_rfl
  refine enter 34 [(0, .slice ba (bs.length) (bc)), (1, .int .i64 ((m : Int)))] Try.func20 sk (by rfl) rfl S0 (fun T W hF hS => ?_)
  clear sk S0
  refine wp_seq ?_
  conv => arg 2; whnf
  refine wp_region_lit ?_
  refine so_pure hF rfl (wanted_none rfl _) (by decide) rfl (.slice none 0 0) (fun K hK => ?_) ?_
  · skip
    exact wp_assign rfl rfl hK
  clear hF
  clear T
  intro T hF
  refine so_pure hF rfl (wanted_none rfl _) (by decide) rfl (.slice none 0 0) (fun K hK => ?_) ?_
  · skip
    exact wp_assign rfl rfl hK
  clear hF
  clear T
  intro T hF
  refine so_pure hF rfl (wanted_none rfl _) (by decide) rfl (.bool false) (fun K hK => ?_) ?_
  · skip
    exact wp_assign rfl rfl hK
  clear hF
  clear T
  intro T hF
  refine wpList_nil ?_
  refine then_normal ?_
  refine wp_seq ?_
  conv => arg 2; whnf
  refine wp_region_lit ?_
  refine so_pure hF rfl (wanted_none rfl _) (by decide) rfl (.slice none 0 0) (fun K hK => ?_) ?_
  · skip
    exact wp_assign rfl rfl hK
  clear hF
  clear T
  intro T hF
  refine wpList_nil ?_
  refine then_normal ?_
  refine wp_seq ?_
  refine wp_seq ?_
  conv => arg 2; whnf
  refine wp_region_lit ?_
  refine so_pure hF rfl (wanted_none rfl _) (by decide) rfl (.int .i64 ((m : Int))) (fun K hK => ?_) ?_
  · skip
    exact wp_move rfl (hF.op 5 rfl) hK
  clear hF
  clear T
  intro T hF
  refine so_pure hF rfl (wanted_none rfl _) (by decide) rfl (.int .i64 0) (fun K hK => ?_) ?_
  · skip
    exact wp_move rfl rfl hK
  clear hF
  clear T
  intro T hF
  refine wpList_nil ?_
  refine then_normal ?_
  refine wp_block ?_
  refine wp_loop_ghost (fun n a W => ∃ T : Array Value, ∃ k : Nat, ∃ cur : List Nat, ∃ ca : Option Addr, ∃ cc : Nat, ∃ l : List (List Nat), ∃ vs : List Value, ∃ S : Nat → Prop, ∃ oa : Option Addr, ∃ oc : Nat, a = ⟨T, []⟩ ∧ Fr 34 ⟨T, []⟩ [(13, .int .i64 ((k : Int))), (12, .int .i64 ((m : Nat))), (0, .slice ca (cur.length) (cc)), (7, .slice oa vs.length oc)] ∧ Sx w [] [xpl S vs l, xog 22 w (.slice oa vs.length oc) vs, xpc w.heap.size (.slice ca (cur.length) (cc)) cur] W ∧ (k + n = m) ∧ (parS bs k = some (l, cur)) ∧ (vs.length = l.length) ∧ (l.length = k) ∧ (cur.length ≤ cc) ∧ (cur.length ≤ 1000000000) ∧ (∀ y, y ∈ cur → y < 256) ∧ (∀ b, S b → w.heap.size ≤ b)) (m) ⟨T, 0, bs, ba, bc, [], [], fun _ => False, none, 0, rfl, (hF.pick [0, 1, 6, 2]), ((hS.nilog 22).nilpl), Nat.zero_add _, rfl, rfl, rfl, hc, hlen, hby, fun _ h => h.elim⟩ ?_
  clear hF hS
  try clear T
  try clear W
  clear hby hc hlen
  rintro n a W ⟨T, k, cur, ca, cc, l, vs, S, oa, oc, rfl, hF, hS, hk, hpar, hvl, hlk, hcc, hcl, hcb, hSB⟩
  have HPAR := Lib.hid hpar; have HVL := Lib.hid hvl; have HLK := Lib.hid hlk; have HCB := Lib.hid hcb; have HSB := Lib.hid hSB
  clear hpar hvl hlk hcb hSB
  have hkl : (k : Int) ≤ m := by omega
  refine wp_seq ?_
  by_cases h : k < m
  · skip
    conv => arg 2; whnf
    refine wp_region_lit ?_
    refine so_pure hF rfl (wanted_none rfl _) (by decide) rfl (.bool true) (fun K hK => ?_) ?_
    · skip
      exact wp_lss_t rfl (hF.op 0 rfl) (hF.op 1 rfl) (by omega) hK
    clear hF
    clear T
    intro T hF
    refine wpList_nil ?_
    refine then_normal ?_
    refine wp_seq ?_
    refine wp_cond_true (hF.op 0 rfl) ?_
    refine wp_skip ?_
    refine then_normal ?_
    refine wp_seq ?_
    refine wp_block ?_
    refine wp_seq ?_
    conv => arg 2; whnf
    refine wp_region_lit ?_
    refine so_pure hF rfl (wanted_none rfl _) (by decide) rfl (.slice ca (cur.length) (cc)) (fun K hK => ?_) ?_
    · skip
      exact wp_move rfl (hF.op 3 rfl) hK
    clear hF
    clear T
    intro T hF
    refine so_step hF rfl (wanted_none rfl _) (by decide) rfl (fun v W' => (nxt cur = none ∧ .tuple #[.int .u8 0, .slice none 0 0, .int .i64 0, .int .i64 71] = v ∧ Sx w [] [xpl S vs l, xog 22 w (.slice oa vs.length oc) vs, xpc w.heap.size (.slice ca (cur.length) (cc)) cur] W') ∨ (∃ (c : Nat) (d : List Nat) (u : Nat) (va : Option Addr) (vc : Nat), nxt cur = some (c, d, u) ∧ .tuple #[.int .u8 (((c : Nat) : Int)), .slice va (d.length) (vc), .int .i64 (((u : Nat) : Int)), .int .i64 0] = v ∧ Sx w [] [xown w (.slice va d.length vc) d, xpl S vs l, xog 22 w (.slice oa vs.length oc) vs, xpc w.heap.size (.slice ca (cur.length) (cc)) cur] W')) (fun K hK => ?_) ?_
    · skip
      refine wp_call rfl Try.func29 (by kernel_rfl) (ev1 (hF.op 0 rfl)) ?_
      refine (next_c _ cur _ (hS.pc 2 rfl) (by rintro a n c h; injection h with h1 h2 h3; omega) HCB.out hcl).mono ?_
      rintro e W2 (⟨hn, rfl, hb⟩ | ⟨c, d, u, v, hn, rfl, hp⟩)
      · exact ⟨_, rfl, hK.out _ _ (Or.inl ⟨hn, rfl, hS.keep hb⟩)⟩
      · obtain ⟨va, vc, rfl⟩ := hp.rest.shape
        exact ⟨_, rfl, hK.out _ _ (Or.inr ⟨c, d, u, va, vc, hn, rfl, hS.gave hp⟩)⟩
    clear hF hS
    clear T
    rintro v T W1 (⟨hn, rfl, hS⟩ | ⟨c, d, u, va, vc, hn, rfl, hS⟩) hF
    · try clear W
      obtain ⟨W, rfl⟩ : ∃ x, x = W1 := ⟨_, rfl⟩
      refine so_pure hF rfl (wanted_none rfl _) (by decide) rfl (.tuple #[.int .u8 0, .slice none 0 0, .int .i64 0, .int .i64 71]) (fun K hK => ?_) ?_
      · skip
        exact wp_move rfl (hF.op 0 rfl) hK
      clear hF
      clear T
      intro T hF
      refine so_pure hF rfl (wanted_none rfl _) (by decide) rfl (.int .u8 0) (fun K hK => ?_) ?_
      · skip
        exact wp_extract rfl (hF.op 0 rfl) rfl hK
      clear hF
      clear T
      intro T hF
      refine so_pure hF rfl (wanted_none rfl _) (by decide) rfl (.slice none 0 0) (fun K hK => ?_) ?_
      · skip
        exact wp_extract rfl (hF.op 1 rfl) rfl hK
      clear hF
      clear T
      intro T hF
      refine so_pure hF rfl (wanted_none rfl _) (by decide) rfl (.int .i64 0) (fun K hK => ?_) ?_
      · skip
        exact wp_extract rfl (hF.op 2 rfl) rfl hK
      clear hF
      clear T
      intro T hF
      refine so_pure hF rfl (wanted_none rfl _) (by decide) rfl (.int .i64 71) (fun K hK => ?_) ?_
      · skip
        exact wp_extract rfl (hF.op 3 rfl) rfl hK
      clear hF
      clear T
      intro T hF
      refine so_pure hF rfl (wanted_none rfl _) (by decide) rfl (.int .u8 0) (fun K hK => ?_) ?_
      · skip
        exact wp_assign rfl (hF.op 3 rfl) hK
      clear hF
      clear T
      intro T hF
      refine so_pure hF rfl (wanted_none rfl _) (by decide) rfl (.slice none 0 0) (fun K hK => ?_) ?_
      · skip
        exact wp_assign rfl (hF.op 3 rfl) hK
      clear hF
      clear T
      intro T hF
      refine so_pure hF rfl (wanted_none rfl _) (by decide) rfl (.int .i64 0) (fun K hK => ?_) ?_
      · skip
        exact wp_assign rfl (hF.op 3 rfl) hK
      clear hF
      clear T
      intro T hF
      refine so_pure hF rfl (wanted_none rfl _) (by decide) rfl (.int .i64 71) (fun K hK => ?_) ?_
      · skip
        exact wp_assign rfl (hF.op 3 rfl) hK
      clear hF
      clear T
      intro T hF
      refine wpList_nil ?_
      refine then_normal ?_
      refine wp_seq ?_
      refine wp_seq ?_
      conv => arg 2; whnf
      refine wp_region_lit ?_
      refine so_pure hF rfl (wanted_none rfl _) (by decide) rfl (.int .i64 71) (fun K hK => ?_) ?_
      · skip
        exact wp_move rfl (hF.op 0 rfl) hK
      clear hF
      clear T
      intro T hF
      refine so_pure hF rfl (wanted_none rfl _) (by decide) rfl (.bool true) (fun K hK => ?_) ?_
      · skip
        exact wp_neq_t rfl (hF.op 0 rfl) rfl (by omega) hK
      clear hF
      clear T
      intro T hF
      refine wpList_nil ?_
      refine then_normal ?_
      refine wp_cond_true (hF.op 0 rfl) ?_
      refine wp_seq ?_
      conv => arg 2; whnf
      refine wp_region_lit ?_
      refine so_pure hF rfl (wanted_none rfl _) (by decide) rfl (.slice none 0 0) (fun K hK => ?_) ?_
      · skip
        exact wp_assign rfl rfl hK
      clear hF
      clear T
      intro T hF
      refine so_pure hF rfl (wanted_none rfl _) (by decide) rfl (.slice none 0 0) (fun K hK => ?_) ?_
      · skip
        exact wp_assign rfl rfl hK
      clear hF
      clear T
      intro T hF
      refine so_pure hF rfl (wanted_none rfl _) (by decide) rfl (.bool false) (fun K hK => ?_) ?_
      · skip
        exact wp_assign rfl rfl hK
      clear hF
      clear T
      intro T hF
      refine wpList_nil ?_
      refine then_normal ?_
      refine wp_ret ?_
      refine then_ret ?_
      refine block_ret ?_
      refine then_ret ?_
      refine then_ret ?_
      refine block_ret ?_
      refine then_ret ?_
      refine bodyPost_ret (v := .tuple #[.slice none 0 0, .slice none 0 0, .bool false]) (results_t3 Try.results20 (hF.ev 2 rfl) (hF.ev 1 rfl) (hF.ev 0 rfl)) rfl ?_
      exact Or.inl ⟨by have h1 := parS_none HPAR.out hn (m - (k + 1)); rwa [show k + 1 + (m - (k + 1)) = m by omega] at h1, rfl, hS.below⟩
    · try clear W
      obtain ⟨W, rfl⟩ : ∃ x, x = W1 := ⟨_, rfl⟩
      refine so_pure hF rfl (wanted_none rfl _) (by decide) rfl (.tuple #[.int .u8 (((c : Nat) : Int)), .slice va (d.length) (vc), .int .i64 (((u : Nat) : Int)), .int .i64 0]) (fun K hK => ?_) ?_
      · skip
        exact wp_move rfl (hF.op 0 rfl) hK
      clear hF
      clear T
      intro T hF
      refine so_pure hF rfl (wanted_none rfl _) (by decide) rfl (.int .u8 (((c : Nat) : Int))) (fun K hK => ?_) ?_
      · skip
        exact wp_extract rfl (hF.op 0 rfl) rfl hK
      clear hF
      clear T
      intro T hF
      refine so_pure hF rfl (wanted_none rfl _) (by decide) rfl (.slice va (d.length) (vc)) (fun K hK => ?_) ?_
      · skip
        exact wp_extract rfl (hF.op 1 rfl) rfl hK
      clear hF
      clear T
      intro T hF
      refine so_pure hF rfl (wanted_none rfl _) (by decide) rfl (.int .i64 (((u : Nat) : Int))) (fun K hK => ?_) ?_
      · skip
        exact wp_extract rfl (hF.op 2 rfl) rfl hK
      clear hF
      clear T
      intro T hF
      refine so_pure hF rfl (wanted_none rfl _) (by decide) rfl (.int .i64 0) (fun K hK => ?_) ?_
      · skip
        exact wp_extract rfl (hF.op 3 rfl) rfl hK
      clear hF
      clear T
      intro T hF
      refine so_pure hF rfl (wanted_none rfl _) (by decide) rfl (.int .u8 (((c : Nat) : Int))) (fun K hK => ?_) ?_
      · skip
        exact wp_assign rfl (hF.op 3 rfl) hK
      clear hF
      clear T
      intro T hF
      refine so_pure hF rfl (wanted_none rfl _) (by decide) rfl (.slice va (d.length) (vc)) (fun K hK => ?_) ?_
      · skip
        exact wp_assign rfl (hF.op 3 rfl) hK
      clear hF
      clear T
      intro T hF
      refine so_pure hF rfl (wanted_none rfl _) (by decide) rfl (.int .i64 (((u : Nat) : Int))) (fun K hK => ?_) ?_
      · skip
        exact wp_assign rfl (hF.op 3 rfl) hK
      clear hF
      clear T
      intro T hF
      refine so_pure hF rfl (wanted_none rfl _) (by decide) rfl (.int .i64 0) (fun K hK => ?_) ?_
      · skip
        exact wp_assign rfl (hF.op 3 rfl) hK
      clear hF
      clear T
      intro T hF
      refine wpList_nil ?_
      refine then_normal ?_
      refine wp_seq ?_
      refine wp_seq ?_
      have HOW := Lib.hid (show ∀ b, (Value.slice va d.length vc).ownBlock = some b → w.heap.size ≤ b from (show RestV W _ _ ∧ _ from hS.x 0 rfl).2)
      have hnl := nxt_le hn
      conv => arg 2; whnf
      refine wp_region_lit ?_
      refine so_pure hF rfl (wanted_none rfl _) (by decide) rfl (.int .i64 0) (fun K hK => ?_) ?_
      · skip
        exact wp_move rfl (hF.op 0 rfl) hK
      clear hF
      clear T
      intro T hF
      refine so_pure hF rfl (wanted_none rfl _) (by decide) rfl (.bool false) (fun K hK => ?_) ?_
      · skip
        exact wp_neq_f rfl (hF.op 0 rfl) rfl (by omega) hK
      clear hF
      clear T
      intro T hF
      refine wpList_nil ?_
      refine then_normal ?_
      refine wp_cond_false (hF.op 0 rfl) ?_
      refine wp_skip ?_
      refine then_normal ?_
      refine wp_seq ?_
      conv => arg 2; whnf
      refine wp_region_lit ?_
      refine so_pure hF rfl (wanted_none rfl _) (by decide) rfl (.slice oa vs.length oc) (fun K hK => ?_) ?_
      · skip
        exact wp_move rfl (hF.op 17 rfl) hK
      clear hF
      clear T
      intro T hF
      refine so_pure hF rfl (wanted_none rfl _) (by decide) rfl (.slice va (d.length) (vc)) (fun K hK => ?_) ?_
      · skip
        exact wp_move rfl (hF.op 5 rfl) hK
      clear hF
      clear T
      intro T hF
      refine so_step hF rfl (wanted_none rfl _) (by decide) rfl (fun v W' => ∃ g, (.slice (some ⟨g, 0, none⟩) 1 1 : Value) = v ∧ w.heap.size ≤ g ∧ Sx w ((g, .cells #[.slice va (d.length) (vc)] 22 (0, 0)) :: []) [xown w (.slice va d.length vc) d, xpl S vs l, xog 22 w (.slice oa vs.length oc) vs, xpc w.heap.size (.slice ca (cur.length) (cc)) cur] W') (fun K hK => ?_) ?_
      · skip
        have f25 := hF.ev 0 rfl
        go_simp
        exact hK.out _ _ ⟨_, rfl, hS.below.size, hS.alloc _⟩
      clear hS
      clear hF
      clear T
      rintro v T W1 ⟨g26, rfl, hg26, hS⟩ hF
      try clear W
      obtain ⟨W, rfl⟩ : ∃ x, x = W1 := ⟨_, rfl⟩
      refine so_step hF rfl (wanted_none rfl _) (by decide) rfl (fun v W' => ∃ aq cq, .slice aq (vs ++ [Value.slice va d.length vc]).length cq = v ∧ Sx w [(g26, .cells #[.slice va (d.length) (vc)] 22 (0, 0))] (List.set [xown w (.slice va d.length vc) d, xpl S vs l, xog 22 w (.slice oa vs.length oc) vs, xpc w.heap.size (.slice ca (cur.length) (cc)) cur] 2 (xog 22 w (.slice aq (vs ++ [Value.slice va d.length vc]).length cq) (vs ++ [Value.slice va d.length vc]))) W') (fun K hK => ?_) ?_
      · skip
        refine wp_appg hS 2 Try.underlying44 bs_row rfl (.tmp 24) (.tmp 26) rfl (hF.op 2 rfl) (hF.op 0 rfl) rfl (ys := [.slice va d.length vc]) (hS.at 0 rfl) rfl (by simp [Value.oneCell']) (by have h1 := HVL.out; have h2 := HLK.out; simp only [List.length_cons, List.length_nil]; omega) (by have h1 := HVL.out; have h2 := HLK.out; simp only [List.length_cons, List.length_nil]; omega) (fun v' W' hS' => ?_)
        obtain ⟨a, c, e⟩ := (hS'.og 2 rfl).shape
        subst e
        exact hK.out _ _ ⟨a, c, rfl, hS'⟩
      clear hF hS
      clear T
      rintro v T W1 ⟨oa2, oc2, rfl, hS⟩ hF
      try clear W
      obtain ⟨W, rfl⟩ : ∃ x, x = W1 := ⟨_, rfl⟩
      replace hS : Sx w [] [xpl (fun b => S b ∨ (Value.slice va d.length vc).ownBlock = some b) (vs ++ [Value.slice va d.length vc]) (l ++ [d]), xog 22 w (.slice oa2 (vs ++ [Value.slice va d.length vc]).length oc2) (vs ++ [Value.slice va d.length vc]), xpc w.heap.size (.slice ca (cur.length) (cc)) cur] W := (hS.pick [] [0, 1, 2, 3] rfl rfl).snocpl HVL.out
      replace hF : Fr 34 ⟨T, []⟩ [(27, .slice oa2 (vs ++ [Value.slice va d.length vc]).length oc2), (26, .slice (some ⟨g26, 0, none⟩) 1 1), (25, .slice va (d.length) (vc)), (24, .slice oa vs.length oc), (23, .bool false), (22, .int .i64 0), (11, .int .i64 0), (10, .int .i64 (((u : Nat) : Int))), (9, .slice va (d.length) (vc)), (8, .int .u8 (((c : Nat) : Int))), (21, .int .i64 0), (20, .int .i64 (((u : Nat) : Int))), (19, .slice va (d.length) (vc)), (18, .int .u8 (((c : Nat) : Int))), (15, .tuple #[.int .u8 (((c : Nat) : Int)), .slice va (d.length) (vc), .int .i64 (((u : Nat) : Int)), .int .i64 0]), (17, .tuple #[.int .u8 (((c : Nat) : Int)), .slice va (d.length) (vc), .int .i64 (((u : Nat) : Int)), .int .i64 0]), (16, .slice ca (cur.length) (cc)), (14, .bool true), (13, .int .i64 ((k : Int))), (12, .int .i64 ((m : Nat))), (0, .slice ca (cur.length) (cc))] := hF.pick [0, 1, 2, 3, 4, 5, 6, 7, 8, 9, 10, 11, 12, 13, 14, 15, 16, 17, 18, 19, 20]
      refine so_pure hF rfl (wanted_none rfl _) (by decide) rfl (.slice oa2 (vs ++ [Value.slice va d.length vc]).length oc2) (fun K hK => ?_) ?_
      · skip
        exact wp_assign rfl (hF.op 0 rfl) hK
      clear hF
      clear T
      intro T hF
      refine wpList_nil ?_
      refine then_normal ?_
      conv => arg 2; whnf
      refine wp_region_lit ?_
      refine so_pure hF rfl (wanted_none rfl _) (by decide) rfl (.slice ca (cur.length) (cc)) (fun K hK => ?_) ?_
      · skip
        exact wp_move rfl (hF.op 21 rfl) hK
      clear hF
      clear T
      intro T hF
      refine so_pure hF rfl (wanted_none rfl _) (by decide) rfl (.int .i64 (((u : Nat) : Int))) (fun K hK => ?_) ?_
      · skip
        exact wp_move rfl (hF.op 9 rfl) hK
      clear hF
      clear T
      intro T hF
      refine so_step hF rfl (wanted_none rfl _) (by decide) rfl (fun v W' => ∃ aq, .slice aq ((cur.drop u).length) (cc - (u)) = v ∧ Sx w [] [xpc w.heap.size (.slice aq ((cur.drop u).length) (cc - (u))) (cur.drop u), xpl (fun b => S b ∨ (Value.slice va d.length vc).ownBlock = some b) (vs ++ [Value.slice va d.length vc]) (l ++ [d]), xog 22 w (.slice oa2 (vs ++ [Value.slice va d.length vc]).length oc2) (vs ++ [Value.slice va d.length vc]), xpc w.heap.size (.slice ca (cur.length) (cc)) cur] W') (fun K hK => ?_) ?_
      · skip
        refine wp_cut_l (lo := u) rfl (hF.op 1 rfl) (hF.op 0 rfl) (hS.pcS 2 rfl) rfl (by omega) hcc (fun aq hp => ?_)
        rw [show cur.length - u = (cur.drop u).length from (List.length_drop).symm] at hp ⊢
        exact hK.out _ _ ⟨aq, rfl, hS.cutpc 2 rfl hp⟩
      clear hF hS
      clear T
      rintro v T W1 ⟨a30, rfl, hS⟩ hF
      try clear W
      obtain ⟨W, rfl⟩ : ∃ x, x = W1 := ⟨_, rfl⟩
      replace hF : Fr 34 ⟨T, []⟩ [(30, .slice a30 ((cur.drop u).length) (cc - (u))), (29, .int .i64 (((u : Nat) : Int))), (28, .slice ca (cur.length) (cc)), (7, .slice oa2 (vs ++ [Value.slice va d.length vc]).length oc2), (27, .slice oa2 (vs ++ [Value.slice va d.length vc]).length oc2), (26, .slice (some ⟨g26, 0, none⟩) 1 1), (25, .slice va (d.length) (vc)), (24, .slice oa vs.length oc), (23, .bool false), (22, .int .i64 0), (11, .int .i64 0), (10, .int .i64 (((u : Nat) : Int))), (9, .slice va (d.length) (vc)), (8, .int .u8 (((c : Nat) : Int))), (21, .int .i64 0), (20, .int .i64 (((u : Nat) : Int))), (19, .slice va (d.length) (vc)), (18, .int .u8 (((c : Nat) : Int))), (15, .tuple #[.int .u8 (((c : Nat) : Int)), .slice va (d.length) (vc), .int .i64 (((u : Nat) : Int)), .int .i64 0]), (17, .tuple #[.int .u8 (((c : Nat) : Int)), .slice va (d.length) (vc), .int .i64 (((u : Nat) : Int)), .int .i64 0]), (16, .slice ca (cur.length) (cc)), (14, .bool true), (13, .int .i64 ((k : Int))), (12, .int .i64 ((m : Nat)))] := hF.pick [0, 1, 2, 3, 4, 5, 6, 7, 8, 9, 10, 11, 12, 13, 14, 15, 16, 17, 18, 19, 20, 21, 22, 23]
      refine so_pure hF rfl (wanted_none rfl _) (by decide) rfl (.slice a30 ((cur.drop u).length) (cc - (u))) (fun K hK => ?_) ?_
      · skip
        exact wp_assign rfl (hF.op 0 rfl) hK
      clear hF
      clear T
      intro T hF
      refine wpList_nil ?_
      replace hS : Sx w [] [xpl (fun b => S b ∨ (Value.slice va d.length vc).ownBlock = some b) (vs ++ [Value.slice va d.length vc]) (l ++ [d]), xog 22 w (.slice oa2 (vs ++ [Value.slice va d.length vc]).length oc2) (vs ++ [Value.slice va d.length vc]), xpc w.heap.size (.slice a30 ((cur.drop u).length) (cc - (u))) (cur.drop u)] W := hS.rot
      refine block_normal ?_
      refine then_normal ?_
      conv => arg 2; whnf
      refine wp_region_lit ?_
      refine so_pure hF rfl (wanted_none rfl _) (by decide) rfl (.int .i64 ((k + 1 : Nat) : Int)) (fun K hK => ?_) ?_
      · skip
        exact wp_add rfl (hF.op 23 rfl) rfl (((k + 1 : Nat) : Int)) (by rw [IntKind.wrap_i64]; omega) hK
      clear hF
      clear T
      intro T hF
      replace hF : Fr 34 ⟨T, []⟩ [(31, .int .i64 ((k + 1 : Nat) : Int)), (0, .slice a30 ((cur.drop u).length) (cc - (u))), (30, .slice a30 ((cur.drop u).length) (cc - (u))), (29, .int .i64 (((u : Nat) : Int))), (28, .slice ca (cur.length) (cc)), (7, .slice oa2 (vs ++ [Value.slice va d.length vc]).length oc2), (27, .slice oa2 (vs ++ [Value.slice va d.length vc]).length oc2), (26, .slice (some ⟨g26, 0, none⟩) 1 1), (25, .slice va (d.length) (vc)), (24, .slice oa vs.length oc), (23, .bool false), (22, .int .i64 0), (11, .int .i64 0), (10, .int .i64 (((u : Nat) : Int))), (9, .slice va (d.length) (vc)), (8, .int .u8 (((c : Nat) : Int))), (21, .int .i64 0), (20, .int .i64 (((u : Nat) : Int))), (19, .slice va (d.length) (vc)), (18, .int .u8 (((c : Nat) : Int))), (15, .tuple #[.int .u8 (((c : Nat) : Int)), .slice va (d.length) (vc), .int .i64 (((u : Nat) : Int)), .int .i64 0]), (17, .tuple #[.int .u8 (((c : Nat) : Int)), .slice va (d.length) (vc), .int .i64 (((u : Nat) : Int)), .int .i64 0]), (16, .slice ca (cur.length) (cc)), (14, .bool true), (12, .int .i64 ((m : Nat)))] := hF.pick [0, 1, 2, 3, 4, 5, 6, 7, 8, 9, 10, 11, 12, 13, 14, 15, 16, 17, 18, 19, 20, 21, 22, 23, 25]
      refine so_pure hF rfl (wanted_none rfl _) (by decide) rfl (.int .i64 ((k + 1 : Nat) : Int)) (fun K hK => ?_) ?_
      · skip
        exact wp_move rfl (hF.op 0 rfl) hK
      clear hF
      clear T
      intro T hF
      refine wpList_nil ?_
      refine then_normal ?_
      exact ⟨n - 1, by omega, T, k + 1, cur.drop u, _, _, l ++ [d], vs ++ [Value.slice va d.length vc], _, _, _, rfl, (hF.pick [0, 25, 2, 6]), hS, by omega, parS_some HPAR.out hn, by rw [List.length_append, List.length_append, HVL.out]; rfl, by rw [List.length_append, HLK.out]; rfl, by rw [List.length_drop]; omega, by rw [List.length_drop]; omega, fun y hy => HCB.out y (List.mem_of_mem_drop hy), fun b hb => hb.elim (HSB.out b) (HOW.out b)⟩
  · skip
    obtain rfl : k = m := by omega
    conv => arg 2; whnf
    refine wp_region_lit ?_
    refine so_pure hF rfl (wanted_none rfl _) (by decide) rfl (.bool false) (fun K hK => ?_) ?_
    · skip
      exact wp_lss_f rfl (hF.op 0 rfl) (hF.op 1 rfl) (by omega) hK
    clear hF
    clear T
    intro T hF
    refine wpList_nil ?_
    refine then_normal ?_
    refine wp_seq ?_
    refine wp_cond_false (hF.op 0 rfl) ?_
    refine wp_exit ?_
    refine then_exit ?_
    refine then_exit ?_
    refine block_exit ?_
    refine then_normal ?_
    refine wp_seq ?_
    conv => arg 2; whnf
    refine wp_region_lit ?_
    refine so_pure hF rfl (wanted_none rfl _) (by decide) rfl (.slice oa vs.length oc) (fun K hK => ?_) ?_
    · skip
      exact wp_move rfl (hF.op 4 rfl) hK
    clear hF
    clear T
    intro T hF
    refine so_pure hF rfl (wanted_none rfl _) (by decide) rfl (.slice ca (cur.length) (cc)) (fun K hK => ?_) ?_
    · skip
      exact wp_move rfl (hF.op 4 rfl) hK
    clear hF
    clear T
    intro T hF
    refine so_pure hF rfl (wanted_none rfl _) (by decide) rfl (.slice oa vs.length oc) (fun K hK => ?_) ?_
    · skip
      exact wp_assign rfl (hF.op 1 rfl) hK
    clear hF
    clear T
    intro T hF
    refine so_pure hF rfl (wanted_none rfl _) (by decide) rfl (.slice ca (cur.length) (cc)) (fun K hK => ?_) ?_
    · skip
      exact wp_assign rfl (hF.op 1 rfl) hK
    clear hF
    clear T
    intro T hF
    refine so_pure hF rfl (wanted_none rfl _) (by decide) rfl (.bool true) (fun K hK => ?_) ?_
    · skip
      exact wp_assign rfl rfl hK
    clear hF
    clear T
    intro T hF
    refine wpList_nil ?_
    refine then_normal ?_
    refine wp_ret ?_
    refine bodyPost_ret (v := .tuple #[.slice oa vs.length oc, .slice ca (cur.length) (cc), .bool true]) (results_t3 Try.results20 (hF.ev 2 rfl) (hF.ev 1 rfl) (hF.ev 0 rfl)) rfl ?_
    exact Or.inr ⟨l, cur, _, _, HPAR.out, rfl, hS.below, hS.topcsB 1 0 rfl rfl HVL.out HSB.out⟩
end Go.Proofs.Ytbjcigokimieoaa
