/-
  The law DigestAdds: its walk.
-/
import Derived.Test.YtpdccbcbjiombaaIb
namespace Go.Proofs.Ytpdccbcbjiombaa
open Go.RowKit

theorem Keeps.weaken {F G : Nat → Prop} {W W' : World} (h : Keeps F W W') (hFG : ∀ b, F b → G b) : Keeps G W W' := ⟨h.os, h.tape, h.output, h.size, fun b hb hg => h.block b hb (fun hf => hg (hFG b hf))⟩
theorem Keeps.below_at {F : Nat → Prop} {w W W' : World} (hb : Below w.heap.size w W) (k : Keeps F W W') (hF : ∀ b, F b → w.heap.size ≤ b) : Below w.heap.size w W' :=
  hb.trans ⟨k.os, k.tape, k.output, k.size, fun b hlt => k.block b (Nat.lt_of_lt_of_le hlt hb.size) (fun hf => by have := hF b hf; omega)⟩
theorem HasherV.keep {W W' : World} {hg : Nat} {v : Value} {bs : List Nat} {F : Nat → Prop} (h : HasherV W hg v bs) (k : Keeps F W W') (h1 : ¬ F hg) (h2 : ∀ b, v.ownBlock = some b → ¬ F b) : HasherV W' hg v bs :=
  ⟨(k.block hg (lt_of_block h.row) h1).trans h.row, h.rest.keep k h2⟩

/-- What the loop holds: these bytes are added, and gathered. -/
structure DA (w : World) (hg : Nat) (bs : List Nat) (s4 : Value) (W : World) : Prop where
  below : Below w.heap.size w W
  hge : w.heap.size ≤ hg
  has : ∃ v, HasherV W hg v bs ∧ (∀ b, v.ownBlock = some b → w.heap.size ≤ b) ∧ ∀ b, s4.ownBlock = some b → v.ownBlock ≠ some b
  all : RestV W s4 bs
  own : ∀ b, s4.ownBlock = some b → w.heap.size ≤ b ∧ b ≠ hg
theorem lt_of_cell0 {W : World} {b o : Nat} {v : Value} (h : W.cell? ⟨b, o, none⟩ = some v) : b < W.heap.size := World.block_lt_of_cell? _ _ h
theorem RestV.lt {W : World} {v : Value} {bs : List Nat} (h : RestV W v bs) {b : Nat} (hb : v.ownBlock = some b) : b < W.heap.size := by
  rcases h with ⟨rfl, -⟩ | ⟨g, off, cap, cur, rfl, hg, -⟩
  · simp [Value.ownBlock] at hb
  · simp [Value.ownBlock] at hb; subst hb; exact lt_of_block hg
theorem DA.keep {w W W' : World} {hg : Nat} {bs : List Nat} {s4 : Value} (h : DA w hg bs s4 W) (hb : Below W.heap.size W W') : DA w hg bs s4 W' := by
  obtain ⟨v, h1, h2, h3⟩ := h.has
  have k : Keeps (fun _ => False) W W' := Keeps.of_below hb
  exact ⟨below_step h.below hb, h.hge, ⟨v, h1.keep k (fun h => h) (fun _ _ h => h), h2, h3⟩, h.all.keep k (fun _ _ h => h), h.own⟩
theorem DA.app {w W W' : World} {hg : Nat} {bs ys : List Nat} {s4 s4' : Value} {v : Value} (hbw : Below w.heap.size w W) (hge : w.heap.size ≤ hg) (hv : HasherV W hg v (bs ++ ys)) (hvo : ∀ b, v.ownBlock = some b → w.heap.size ≤ b) (hne : ∀ b, s4.ownBlock = some b → v.ownBlock ≠ some b)
    (hown : ∀ b, s4.ownBlock = some b → w.heap.size ≤ b ∧ b ≠ hg) (R : RestV W' s4' (bs ++ ys)) (K : Keeps (fun b => s4.ownBlock = some b) W W') (N : ∀ b, s4'.ownBlock = some b → s4.ownBlock = some b ∨ b = W.heap.size) : DA w hg (bs ++ ys) s4' W' := by
  have hlt := lt_of_block hv.row
  refine ⟨K.below_at hbw (fun b hb => (hown b hb).1), hge, ⟨v, hv.keep K (fun e => (hown _ e).2 rfl) (fun b hb e => hne b e hb), hvo, fun b hb e => ?_⟩, R, fun b hb => ?_⟩
  · rcases N b hb with h | h
    · exact hne b h e
    · have := hv.rest.lt e; omega
  · rcases N b hb with h | h
    · exact hown b h
    · exact ⟨by rw [h]; exact hbw.size, by omega⟩
/-- Behind Add of one piece. -/
theorem DA.added {w W W' : World} {hg : Nat} {bs ys : List Nat} {s4 : Value} {v : Value} (h : DA w hg bs s4 W) (hne : ∀ b, s4.ownBlock = some b → v.ownBlock ≠ some b) (hvo : ∀ b, v.ownBlock = some b → w.heap.size ≤ b) (A : AddInv W 0 hg v bs [ys, []] 2 W') :
    Below w.heap.size w W' ∧ RestV W' s4 bs ∧ ∃ v', HasherV W' hg v' (bs ++ ys) ∧ (∀ b, v'.ownBlock = some b → w.heap.size ≤ b) ∧ ∀ b, s4.ownBlock = some b → v'.ownBlock ≠ some b := by
  obtain ⟨v', h1, h2⟩ := A.now
  have hsz := h.below.size
  refine ⟨A.keeps.below_at h.below (fun b hb => ?_), h.all.keep A.keeps (fun b hb hf => ?_), v', by simpa using h1, fun b hb => ?_, fun b hb e => ?_⟩
  · rcases hb with rfl | hb
    · exact h.hge
    · exact hvo b hb
  · rcases hf with e | e
    · exact (h.own b hb).2 e
    · exact hne b hb e
  · rcases h2 b hb with h3 | h3
    · exact hvo b h3
    · omega
  · rcases h2 b e with h3 | h3
    · exact hne b hb h3
    · have := h.all.lt hb; omega

set_option maxRecDepth 100000 in
set_option maxHeartbeats 8000000 in
theorem dadds_w (lv : Value) (pss : List (List Nat)) (hby : (∀ ys, ys ∈ pss → ∀ y, y ∈ ys → y < 256) ∧ pss.length ≤ 9223372036854775807) (w : World) (hp : Pcs w w.heap.size lv pss) (hpl : ∀ ys, ys ∈ pss → ys.length ≤ 9223372036854775807) :
    Calls Try.prog 3 #[lv] w (RetB w true) := by
  have q1 := eql_hash; have q2 := hash_guard
  have HP := Lib.hid hp; have HBY := Lib.hid hby.1; have HPL := Lib.hid hpl
  have hl := hby.2
  obtain ⟨la, lc, rfl⟩ : ∃ a c, lv = .slice a pss.length c := by
    rcases hp.shape with ⟨⟨a, c, rfl⟩, rfl⟩ | ⟨lb, lo, c, -, rfl, -⟩
    · exact ⟨_, _, rfl⟩
    · exact ⟨_, _, rfl⟩
  clear hp hby hpl
  go_enter Try.func3, Try.ntmps3
  go_wp2_with fail
  refine (dalive_c _).mono ?_
  rintro e W1 ⟨rfl, hb1⟩
  have HB1 := Lib.hid hb1
  by_cases h20 : 20 < pss.length
  · have g20 : (20 : Int) < pss.length := by omega
    go_wp2_with fail
    go_ret
    exact ⟨rfl, HB1.out⟩
  have g20 : ¬ (20 : Int) < pss.length := by omega
  go_wp2_with fail
  refine (new_c _).mono ?_
  rintro e W2 ⟨hg, rfl, hrow, hgge, hb2⟩
  have D0 : Hid (DA w hg [] (.slice (some ⟨W2.heap.size, 0, none⟩) 0 0) (W2.alloc (.cells #[] 5))) := by
    have hbw := below_step hb1 hb2
    have hlt := lt_of_block hrow.out
    have P := PadR.new W2
    have hge2 : W1.heap.size ≤ hg := hgge.out
    have k : Keeps (fun _ => False) W2 (W2.alloc (.cells #[] 5)) := Keeps.of_below P.below
    refine ⟨below_step hbw P.below, Nat.le_trans hb1.size hge2, ⟨.slice none 0 0, HasherV.keep ⟨hrow.out, Or.inl ⟨rfl, rfl⟩⟩ k (fun h => h) (fun _ _ h => h), fun b hb => ?_, fun b hb => ?_⟩, P.rest, fun b hb => ?_⟩
    · simp [Value.ownBlock] at hb
    · simp [Value.ownBlock]
    · simp [Value.ownBlock] at hb; subst hb
      exact ⟨hbw.size, by omega⟩
  clear hb1 hb2 hrow hgge
  go_wp2_with fail
  go_loopw [4, 16] (fun s4 s16 wr => ∃ k n : Nat, ∃ a c, s16 = .int .i64 (k : Int) ∧ k ≤ pss.length ∧ s4 = .slice a n c ∧ (n = (pss.take k).flatten.length ∧ n ≤ 300 * k) ∧ Hid (DA w hg (pss.take k).flatten s4 wr)) (fun _ s16 _ => (pss.length - intOf s16).toNat)
  case atStart => exact ⟨0, 0, _, _, rfl, by omega, rfl, ⟨by simp, by omega⟩, by simpa using D0⟩
  case round =>
    obtain ⟨k, n, a4, c4, rfl, hk, rfl, hn, HD⟩ := hrel
    by_cases hkn : k = pss.length
    · have hge : ¬ (k : Int) < pss.length := by omega
      go_wp2_with fail
      go_ret
      exact ⟨rfl, HD.out.below⟩
    · have hlt : (k : Int) < pss.length := by omega
      obtain ⟨ys, hys⟩ : ∃ ys, pss[k]? = some ys := ⟨pss[k]'(by omega), List.getElem?_eq_getElem (by omega)⟩
      have hymem : ys ∈ pss := List.mem_of_getElem? hys
      obtain ⟨lb, lo, xv, hla, hxc, hxp0⟩ : ∃ lb lo xv, la = some ⟨lb, lo, none⟩ ∧ wr.cell? ⟨lb, lo + k, none⟩ = some xv ∧ PieceV w w.heap.size xv ys := by
        rcases HP.out.shape with ⟨-, h1⟩ | ⟨lb, lo, c', hlb, h1, h2⟩
        · exfalso; rw [h1] at hk hkn; simp at hk hkn; omega
        · injection h1 with e1 e2 e3
          obtain ⟨xv, h3, h4⟩ := h2 k ys hys
          exact ⟨lb, lo, xv, e1, (HD.out.below.cell (p := ⟨lb, lo + k, none⟩) hlb).trans h3, h4⟩
      subst hla
      obtain ⟨xa, xc, rfl⟩ := PieceS.shape hxp0
      have hyl := HPL.out ys hymem
      have htk : (pss.take (k + 1)).flatten = (pss.take k).flatten ++ ys := by rw [List.take_add_one, hys]; simp
      have HXP := Lib.hid hxp0
      have hlbb := lt_of_cell0 hxc
      by_cases h300 : 300 < ys.length
      · have g300 : (300 : Int) < ys.length := by omega
        have HDB := Lib.hid HD.out.below
        clear hxp0 htk HD
        go_wp2_with fail
        go_ret
        exact ⟨rfl, HDB.out⟩
      · have g300 : ¬ (300 : Int) < ys.length := by omega
        obtain ⟨bs, hbs⟩ : ∃ bs, bs = (pss.take k).flatten := ⟨_, rfl⟩
        have hb256 : ∀ y, y ∈ bs ++ ys → y < 256 := fun y hy => by
          rcases List.mem_append.1 hy with h | h
          · rw [hbs] at h
            obtain ⟨z, hz, hyz⟩ := List.mem_flatten.1 h
            exact HBY.out z (List.mem_of_mem_take hz) y hyz
          · exact HBY.out ys hymem y h
        rw [← hbs] at hn HD htk
        have hnl := hn.1; have hn3 := hn.2
        have hblen : (bs ++ ys).length ≤ 6300 := by rw [List.length_append]; omega
        obtain ⟨v, hv, hvo, hne⟩ := HD.out.has
        have R1 : Obj := .cells #[.slice xa ys.length xc, .slice none 0 0] 26
        have HD1 := HD.out.keep ((Below.refl wr.heap.size wr).alloc (Nat.le_refl _) (.cells #[.slice xa ys.length xc, .slice none 0 0] 26))
        obtain ⟨v', hv', hvo', hne'⟩ := HD1.has
        have hrow1 : (wr.alloc (.cells #[.slice xa ys.length xc, .slice none 0 0] 26)).heap[wr.heap.size]? = some (.cells #[.slice xa ys.length xc, .slice none 0 0] 26 (0, 0)) := lastH _ _ _ rfl
        have hhg : hg < wr.heap.size := lt_of_block hv.row
        have hps : PcsS (wr.alloc (.cells #[.slice xa ys.length xc, .slice none 0 0] 26)) (fun b => b < w.heap.size ∨ b = wr.heap.size) (.slice (some ⟨wr.heap.size, 0, none⟩) 2 2) [ys, []] := by
          have hsz := HD.out.below.size
          refine ⟨fun b hb => ?_, Or.inr ⟨wr.heap.size, 0, 2, Or.inr rfl, rfl, fun i zs hi => ?_⟩⟩
          · rcases hb with h | h
            · simp; omega
            · simp; omega
          · match i with
            | 0 =>
              simp at hi; subst hi
              refine ⟨_, (cell_of_row _ _ _ _ _ _ hrow1).trans rfl, ?_⟩
              rcases HXP.out.keep (Nat.le_refl _) (F := fun _ => False) (Keeps.of_below HD1.below) (fun _ _ h => h) with h | ⟨b, o, c, h1, h2, h3⟩
              · exact Or.inl h
              · exact Or.inr ⟨b, o, c, Or.inl h1, h2, h3⟩
            | 1 =>
              simp at hi; subst hi
              exact ⟨_, (cell_of_row _ _ _ _ _ _ hrow1).trans rfl, Or.inl ⟨⟨_, _, rfl⟩, rfl⟩⟩
            | i + 2 => simp at hi
        have CA := Lib.hid (add_s 0 _ hg v' (.slice (some ⟨wr.heap.size, 0, none⟩) 2 2) bs [ys, []] _ hv' hps (fun b hb e => by
          rcases hb with h | h
          · have := HD.out.hge; omega
          · omega) (fun b hb hs => by
          have hlt := hvo' b hb
          rcases hs with h | h
          · omega
          · have : b < wr.heap.size := by
              rcases hv'.rest with ⟨rfl, -⟩ | ⟨g, off, cap, cur, rfl, hgg, -⟩
              · simp [Value.ownBlock] at hb
              · simp [Value.ownBlock] at hb; subst hb
                rcases Nat.lt_or_ge g wr.heap.size with h' | h'
                · exact h'
                · exfalso
                  have : g = wr.heap.size := by omega
                  subst this
                  rw [hrow1] at hgg; simp at hgg
            omega) (by simpa using hb256) (by simp at hblen ⊢; omega) (by simp))
        have HD1' := Lib.hid HD1; have HNE := Lib.hid hne'; have HVO := Lib.hid hvo'
        have HB256 := Lib.hid hb256; have HBL := Lib.hid hblen; have HTK := Lib.hid htk
        have HGE := Lib.hid HD.out.hge; have HOWN := Lib.hid HD.out.own
        have RS : Hid (∀ W u, RestV W u (bs ++ ys) → Calls Try.prog 13 #[u] W fun e w' => e = .returned (.agg (wcells .u8 (sha (bs ++ ys)))) ∧ Below W.heap.size W w') := fun W u h => rsum_c u _ W h.piece HB256.out (by have := HBL.out; omega)
        have CS : Hid (∀ W u, Pcs W W.heap.size u [bs ++ ys] → Calls Try.prog 14 #[u] W fun e w' => e = .returned (.agg (wcells .u8 (sha (bs ++ ys)))) ∧ Below W.heap.size W w') := fun W u h => by
          have := sum_c u [bs ++ ys] W h (by simpa using HB256.out) (by have := HBL.out; simp at this ⊢; omega) (by simp)
          simpa using this
        have CH : Hid (∀ W u, HasherV W hg u (bs ++ ys) → Calls Try.prog 12 #[hptr hg] W fun e w' => e = .returned (.agg (wcells .u8 (sha (bs ++ ys)))) ∧ Below W.heap.size W w') := fun W u h => sum_h hg u _ W h HB256.out (by have := HBL.out; omega)
        have hl1 := sha_len (bs ++ ys)
        obtain ⟨d, hd⟩ : ∃ d, d = sha (bs ++ ys) := ⟨_, rfl⟩
        rw [← hd] at RS CS CH hl1
        have HL1 := Lib.hid hl1
        have e11 := heq_self d
        have e12 := q1 d d hl1 hl1
        rw [e11] at e12
        clear hd hl1 hv hvo hne hv' hvo' hne' hps hrow1 HD1 R1 hb256 hblen htk hxp0 hn hbs hys hymem hyl
        go_wp2_with fail
        refine CA.out.mono ?_
        rintro e W3 ⟨rfl, HA⟩
        obtain ⟨hB3, hR3, v3, hv3, hvo3, hne3⟩ := DA.added HD1'.out HNE.out HVO.out HA.out
        have HB3 := Lib.hid hB3; have HR3 := Lib.hid hR3
        have X3 := Lib.hid (HXP.out.later hB3).src
        have HV3 := Lib.hid hv3; have HVO3 := Lib.hid hvo3; have HNE3 := Lib.hid hne3
        clear hB3 hR3 hv3 hvo3 hne3 HA CA
        subst hnl
        go_wp2_with (at_builtin; go_loud (first
          | (refine wpList_app (by rfl) (.tmp 27) (.tmp 28) (by rfl) _ _ (by rfl) (by rfl) bs ys HR3.out X3.out (by have := HBL.out; simp at this; omega) ?_; intro u4 W4 R4 K4 N4; obtain ⟨ua4, uc4, e4⟩ := R4.shape; subst e4; have D4a := DA.app HB3.out HGE.out HV3.out HVO3.out HNE3.out HOWN.out R4 K4 N4; rw [List.length_append] at D4a; have D4 := Lib.hid D4a; clear R4 K4 N4 D4a)))
        obtain ⟨v4, hv4, -, -⟩ := D4.out.has
        have C1 := Lib.hid (CH.out _ _ hv4)
        clear hv4
        refine C1.out.mono ?_
        rintro e W5 ⟨rfl, hb⟩
        have D5 := Lib.hid (D4.out.keep hb)
        clear hb C1
        go_wp2_with fail
        refine (RS.out _ _ D5.out.all).mono ?_
        rintro e W6 ⟨rfl, hb⟩
        have D6 := Lib.hid (D5.out.keep hb)
        obtain ⟨v6, hv6, -, -⟩ := D6.out.has
        have C2 := Lib.hid (CH.out _ _ hv6)
        clear hb hv6
        go_wp2_with fail
        refine C2.out.mono ?_
        rintro e W7 ⟨rfl, hb⟩
        have D7 := Lib.hid (D6.out.keep hb)
        have D8 := Lib.hid (D7.out.keep ((Below.refl W7.heap.size W7).alloc (Nat.le_refl _) (.cells #[.slice ua4 (bs.length + ys.length) uc4] 26)))
        have C3 := Lib.hid (CS.out _ _ (pcs1 (lastH W7 (.cells #[.slice ua4 (bs.length + ys.length) uc4] 26) _ rfl) D8.out.all.piece))
        clear hb C2
        go_wp2_with fail
        refine C3.out.mono ?_
        rintro e W8 ⟨rfl, hb⟩
        have D9 := Lib.hid (D8.out.keep hb)
        clear hb C3
        go_wp2_with fail
        go_roundw
        case rel => exact ⟨k + 1, bs.length + ys.length, ua4, uc4, by go_num, by omega, rfl, ⟨by rw [HTK.out, List.length_append], by omega⟩, by rw [HTK.out]; exact D9⟩
        case measure => simp [intOf]; omega
end Go.Proofs.Ytpdccbcbjiombaa
