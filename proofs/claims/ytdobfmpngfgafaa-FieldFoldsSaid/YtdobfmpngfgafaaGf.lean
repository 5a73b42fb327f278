/-
  The law FieldFolds: its walk.
-/
import Derived.Test.YtdobfmpngfgafaaGt
import Derived.Deep.AppendLies
namespace Go.Proofs.Ytdobfmpngfgafaa
open Go.RowKit

/-- append(s, t...), in a region that draws its order. -/
theorem step_join {ops : Array Oper} {o : Oper} {a : Act} {W : World} {K : Act → World → Prop} {Q : Exit → Act → World → Prop} {E : Prop} (hgd : o.guard = none) (s x : Operand)
    (ho : o.op = .call { callee := .builtin .append, args := #[s, x], argTypes := #[27, 27] })
    (B g n c b m cm : Nat) (ds es : List Nat) (hs : a.eval s = sv g 0 n c) (hx : a.eval x = sv b 0 m cm) (hown : OwnD W B g n c ds) (he : Dg W b 0 es) (hm : es.length = m) (hpos : 0 < m) (hn : n + m ≤ 1000000)
    (h : ∀ g' c' W', OwnD W' B g' (n + m) c' (ds ++ es) → Below B W W' → K (a.put o.dst (sv g' 0 (n + m) c')) W') : if Region.wanted o (yielded ops a.tmps) = true then Oper.wp Try.prog o a W K Q else E := by
  obtain ⟨i0, hi, hz0, hz1, hz2⟩ := info_parts u64_row
  refine step_append_lies W hgd s x 27 ho B 22 i0 (.int .u64 0) 1 8 Try.underlying27 hi hz0 hz1 hz2 rfl (by decide) (sv g 0 n c) n (dcells ds) hs hown.own ⟨b, 0, none⟩ m cm (dcells es) hx (by simp [dcells, hm]) ?_ ?_ hpos ?_ ?_ ?_ _ rfl ?_
  · intro j u hj
    have hj' : j < es.length := by
      have := (List.getElem?_eq_some_iff.1 hj).1
      simpa [dcells] using this
    have hadd : (⟨b, 0, none⟩ : Addr).add j = ⟨b, 0 + j, none⟩ := by unfold Addr.add; split <;> simp_all
    rw [hadd, he.cell j hj']
    simp only [dcells, List.getElem?_map, List.getElem?_eq_getElem hj', Option.map_some, Option.some.injEq] at hj
    rw [← hj]
    simp [dg, List.getD_eq_getElem?_getD, hj']
  · intro u hu
    simp only [dcells, List.mem_map] at hu
    obtain ⟨d, -, rfl⟩ := hu
    rfl
  · simp only [maxLen]; omega
  · omega
  · have := hown.base; omega
  · intro g' cap W' ho' hg _ _
    refine h g' cap W' ⟨by rw [show dcells (ds ++ es) = dcells ds ++ dcells es by simp [dcells]]; exact ho', by rw [List.length_append, hown.len, hm]⟩ ?_
    exact (Below.refl B W).grown hg (by have := hown.base; omega) (fun k hk => by simp [Value.ownBlock] at hk; have := hown.base; omega)

theorem St.keepB {w W W' : World} {L : List (Nat × Obj)} {B : Nat} (h : St w L W) (hb : Below B W W') (hL : ∀ q, q ∈ L → q.1 < B) (hw : w.heap.size ≤ B) : St w L W' :=
  ⟨h.below.trans (hb.mono hw), fun q hq => (hb.block _ (hL q hq)).trans (h.rows q hq)⟩

/-- Of, with the row that the call owns. -/
theorem of_o (x : Nat) (hx : x < W256) (w : World) : Calls Try.prog 11 #[wv x] w fun e w' => ∃ g c ds, Hid (val ds = x ∧ Digs ds ∧ ds.length = 16) ∧ e = .returned (sv g 0 16 c) ∧ Hid (OwnD w' w.heap.size g 16 c ds) ∧ Below w.heap.size w w' := by
  refine (of_d x hx w).mono ?_
  rintro e w' ⟨g, c, ds, hQ, rfl, ho, hb⟩
  rw [hQ.2.2] at ho ⊢
  exact ⟨g, c, ds, hQ, rfl, ho, hb⟩

set_option maxRecDepth 100000 in
set_option maxHeartbeats 8000000 in
theorem folds_w (p : Bool) (a b : Nat) (ha : a < W256) (hb' : b < W256) (w : World) : Calls Try.prog 3 #[.bool p, wv a, wv b] w (RetB w true) := by
  have q1 := eql_wide0; have q2 := wide_guard; have q3 := eql_wide
  have HA := Lib.hid ha; have HB := Lib.hid hb'
  obtain ⟨t, ht⟩ : ∃ s, (a + W256 * b) % PRM p = s := ⟨_, rfl⟩
  have HT := Lib.hid ht
  have hW : Hid (t < W256) := by rw [← ht]; exact Nat.lt_trans (Nat.mod_lt _ (by have := prm_big p; omega)) (prm_lt p)
  clear ha hb' ht
  have CO1 := Lib.hid (fun W => of_o a HA.out W)
  have CO2 := Lib.hid (fun W => of_o b HB.out W)
  have CLR := Lib.hid (fun W => lring_c p W)
  go_enter Try.func3, Try.ntmps3
  have S0 := ((St.nil w).alloc (wrow a) _ rfl).alloc (wrow b) (w.heap.size + 1) (by simp)
  go_wp2_with fail
  refine (falive_c _).mono ?_
  rintro e W1 ⟨rfl, hb⟩
  have S1 := S0.keep hb
  have hW1 : Hid (w.heap.size + 2 ≤ W1.heap.size) := by have := hb.size; simp at this; exact this
  clear hb S0
  obtain ⟨L0, hL0⟩ : ∃ L, L = [(w.heap.size + 1, wrow b), (w.heap.size, wrow a)] := ⟨_, rfl⟩
  rw [← hL0] at S1
  have mb : (w.heap.size + 1, wrow b) ∈ L0 := by rw [hL0]; exact List.Mem.head _
  have ma : (w.heap.size, wrow a) ∈ L0 := by rw [hL0]; exact List.Mem.tail _ (List.Mem.head _)
  have hlow : Hid (∀ q, q ∈ L0 → q.1 < w.heap.size + 2) := by rw [hL0]; intro q hq; simp at hq; rcases hq with rfl | rfl <;> simp
  have r0 := St.reads (w := w) (L := L0) (g := w.heap.size) (z := a) ma
  have r1 := St.reads (w := w) (L := L0) (g := w.heap.size + 1) (z := b) mb
  clear hL0
  go_wp2_with fail
  have S2 : St w L0 W1.drew ∧ w.heap.size + 2 ≤ W1.drew.heap.size := ⟨S1.drew, hW1.out⟩
  have hB2 : w.heap.size + 2 ≤ W1.drew.heap.size := hW1.out
  have hB1 : w.heap.size ≤ W1.drew.heap.size := Nat.le_trans (by omega) hW1.out
  go_cut [7] (fun s7 wx => ∃ gx cx x ox, Hid (val x = a + W256 * b ∧ Digs x ∧ x.length = 32) ∧ Hid (DRow x ox) ∧ Hid (32 ≤ cx) ∧ s7 = sv gx 0 32 cx ∧ St w ((gx, ox) :: L0) wx)
  case first =>
    go_region_held3 (fun w' => St w L0 w' ∧ w.heap.size + 2 ≤ w'.heap.size) (first | (exact ⟨St.keep (And.left (by assumption)) (by assumption), Nat.le_trans (And.right (by assumption)) (Below.size (by assumption))⟩) | assumption | exact ⟨SJ, Nat.le_trans (And.right (by assumption)) HZ.out.size⟩)
      (first
        | (go_at_call 11; (with_reducible refine (CO1.out _).mono ?_); rintro e w' ⟨gx, cx, x, Hx, rfl, Ox, hbx⟩)
        | (go_at_call 11; (with_reducible refine (CO2.out _).mono ?_); rintro e w' ⟨gy, cy, y, Hy, rfl, Oy, hby⟩)
        | (have _t := Oy; go_loud (refine step_join (by rfl) (.tmp 11) (.tmp 13) (by rfl) _ gx 16 cx gy 16 cy x y (by rfl) (by rfl) (Ox.out.keep hby) Oy.out.dg Hy.out.2.2 (by decide) (by decide) ?_; intro gz cz W' Oz hz; have OZ := Lib.hid Oz; have HZ := Lib.hid hz; have SJ := St.keepB (And.left (by assumption)) hz (fun q hq => Nat.lt_of_lt_of_le (hlow.out q hq) hB2) hB1; clear Oz hz))
        | fail)
    have HXY : Hid (val (x ++ y) = a + W256 * b ∧ Digs (x ++ y) ∧ (x ++ y).length = 32) := by
      refine ⟨?_, ?_, by rw [List.length_append, Hx.out.2.2, Hy.out.2.2]⟩
      · have hp : 65536 ^ 16 = W256 := by decide +kernel
        rw [val_append, Hx.out.1, Hy.out.1, Hx.out.2.2, hp]
      · intro d hd
        rcases List.mem_append.1 hd with h | h
        · exact Hx.out.2.1 d h
        · exact Hy.out.2.1 d h
    obtain ⟨oz, hrz, hgz⟩ := OZ.out.row
    have HC : Hid (32 ≤ cz) := by have := OZ.out.cap; rw [HXY.out.2.2] at this; exact this
    have HRZ := Lib.hid hrz; have HGZ := Lib.hid hgz
    have SF := Lib.hid (show St w L0 W' from SJ)
    clear hrz hgz
    go_wp2_with fail
    go_meet
    exact ⟨gz, cz, x ++ y, oz, HXY, HRZ, HC, rfl, SF.out.cons HGZ.out⟩
  case rest =>
    obtain ⟨gx, cx, x, ox, Hx, Rx, Cx, rfl, S3⟩ := hcut
    clear r0 r1 S1 S2 CO1 CO2
    obtain ⟨M, hMM⟩ : ∃ M, M = (gx, ox) :: L0 := ⟨_, rfl⟩
    rw [← hMM] at S3
    have nx : (gx, ox) ∈ M := by rw [hMM]; exact List.Mem.head _
    have na : (w.heap.size, wrow a) ∈ M := by rw [hMM]; exact List.Mem.tail _ ma
    have nb : (w.heap.size + 1, wrow b) ∈ M := by rw [hMM]; exact List.Mem.tail _ mb
    have r0 := St.reads (w := w) (L := M) (g := w.heap.size) (z := a) na
    have r1 := St.reads (w := w) (L := M) (g := w.heap.size + 1) (z := b) nb
    clear hMM
    have CF : Hid (∀ W g, Hid (W.heap[g]? = some (rrow p)) → Calls Try.prog 13 #[rptr g, wv a, wv b] W fun e w' => e = .returned (wv t) ∧ Below W.heap.size W w') := fun W g h => by
      have := fold_c g a b p HA.out HB.out W h.out; rwa [HT.out] at this
    have CM : Hid (∀ W, St w M W → Calls Try.prog 15 #[sv gx 0 32 cx, .bool p] W (RetT W fun z => val z = t ∧ Digs z ∧ z.length ≤ 16 ∧ Trimmed z)) := fun W S => by
      have := mod_d gx cx ox x p W (S.get nx) Rx.out Hx.out.2.1 (by rw [Hx.out.2.2]; decide) (by rw [Hx.out.2.2]; exact Cx.out)
      rwa [Hx.out.2.2, Hx.out.1, HT.out] at this
    have e1 : weq t t = true := eql_wide_iff hW.out hW.out rfl
    go_wp2_with fail
    have S4 := S3.drew
    go_region_held3 (fun w' => St w M w') (first | (exact St.keep (by assumption) (by assumption)) | assumption)
      (first
        | (go_at_call 12; (with_reducible refine (CLR.out _).mono ?_); rintro e w' ⟨g, rfl, hg, hb⟩)
        | (go_at_call 13; (with_reducible refine (CF.out _ g hg).mono ?_); rintro e w' ⟨rfl, hb⟩)
        | (go_at_call 15; (with_reducible refine (CM.out _ (by assumption)).mono ?_); rintro e w' ⟨g3, c3, z3, o3, H3, rfl, K3, R3, T3, hb⟩)
        | (go_at_call 14; (with_reducible refine (wide_v g3 c3 z3 o3 _ t hW.out H3 R3 T3).mono ?_); rintro e w' ⟨rfl, hb⟩)
        | fail)
    go_wp2_with fail
    go_ret
    exact ⟨rfl, St.below (L := M) (by assumption)⟩
end Go.Proofs.Ytdobfmpngfgafaa
