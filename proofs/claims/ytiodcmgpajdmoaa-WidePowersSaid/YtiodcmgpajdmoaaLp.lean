/-
  The law WidePowers: its walk. (Printed by gen_powers.py.)
-/
import Derived.Test.YtiodcmgpajdmoaaLa
import Derived.Test.YtiodcmgpajdmoaaRg
namespace Go.Proofs.Ytiodcmgpajdmoaa
open Go.RowKit

theorem powers_one (n : Int) (hn : 0 ≤ n) (one : Nat) (h : one = 2 ^ n.toNat) : ((blen one : Nat) : Int) = n + 1 := by
  have : blen one = n.toNat + 1 := blen_unique _ _ (by rw [h]; exact Nat.pow_lt_pow_right (by decide) (by omega)) (.inr (by rw [h]; simp))
  omega
theorem powers_rest (a : Nat) (n : Int) (hn : 0 ≤ n) (rest : Nat) (h : rest = a % 2 ^ n.toNat) : ((blen rest : Nat) : Int) ≤ n := by
  have : blen rest ≤ n.toNat := (blen_le_iff _ _).2 (by rw [h]; exact Nat.mod_lt _ (Nat.two_pow_pos _))
  omega
theorem powers_fin (a : Nat) (n : Int) (hn : 0 ≤ n) (times : Nat) (ht : times < W256) (h : times = a / 2 ^ n.toNat) : decide (((blen a : Nat) : Int) ≤ n) = weq times 0 := by
  rw [weq_decide ht (by decide)]
  have h1 := blen_le_iff a n.toNat
  have h2 : times = 0 ↔ a < 2 ^ n.toNat := by rw [h]; exact Nat.div_eq_zero_iff_lt (Nat.two_pow_pos _)
  rw [decide_eq_decide]
  constructor
  · intro hh; exact h2.2 (h1.1 (by omega))
  · intro hh; have := h1.2 (h2.1 hh); omega
theorem right_any (a : Nat) (ha : a < W256) (n : Int) (hn : 0 ≤ n) (t : Nat) (h : t = a / 2 ^ n.toNat) (w : World) : Calls Try.prog 25 #[wv a, .int .i64 n] w fun e w' => e = .returned (wv t) ∧ Below w.heap.size w w' := by
  by_cases h0 : n < 1
  · obtain rfl : n = 0 := by omega
    refine (right_n a ha 0 h0 w).mono ?_
    rintro e w' ⟨z, -, rfl, rfl, hb⟩
    simp at h; subst h; exact ⟨rfl, hb⟩
  · refine (right_c a ha n (by omega) w).mono ?_
    rintro e w' ⟨z, -, rfl, rfl, hb⟩
    rw [← h]; exact ⟨rfl, hb⟩
theorem left_any (a : Nat) (ha : a < W256) (n : Int) (hn : 0 ≤ n) (hn1 : n ≤ 255) (t : Nat) (h : t = a * 2 ^ n.toNat % W256) (w : World) : Calls Try.prog 24 #[wv a, .int .i64 n] w fun e w' => e = .returned (wv t) ∧ Below w.heap.size w w' := by
  by_cases h0 : n < 1
  · obtain rfl : n = 0 := by omega
    refine (left_n a ha 0 h0 w).mono ?_
    rintro e w' ⟨z, -, rfl, rfl, hb⟩
    have e1 : t = z := by rw [h]; simpa using Nat.mod_eq_of_lt ha
    rw [e1]; exact ⟨rfl, hb⟩
  · refine (left_c a ha n (by omega) (by omega) w).mono ?_
    rintro e w' ⟨z, -, rfl, rfl, hb⟩
    rw [← h]; exact ⟨rfl, hb⟩

set_option maxRecDepth 100000 in
set_option maxHeartbeats 4000000 in
theorem powers_w (a : Nat) (n : Int) (ha : a < W256) (hn0 : 0 ≤ n) (hn1 : n ≤ 255) (w : World) :
    Calls Try.prog 9 #[wv a, .int .i64 n] w (RetB w true) := by
  have q1 := eql_wide0; have q2 := wide_guard; have q3 := eql_wide
  obtain ⟨one, h1, h1W⟩ : ∃ z, z = 1 * 2 ^ n.toNat ∧ z < W256 := ⟨_, rfl, by rw [Nat.one_mul, W256_pow]; exact Nat.pow_lt_pow_right (by decide) (by omega)⟩
  have cL := fun W => left_fit 1 n hn0 (by omega) one h1 h1W W
  have CL := Lib.hid cL; have H1 := Lib.hid h1
  clear cL h1
  go_enter Try.func9, Try.ntmps9
  have S0 := (St.nil w).alloc (wrow a) _ rfl
  go_wp2_with fail
  refine (alive_c _).mono ?_
  rintro e W1 ⟨rfl, hb⟩
  have S1 := S0.keep hb
  clear hb
  go_wp2_with fail
  refine (of_c 1 (by decide) (by decide) _).mono ?_
  rintro e W2 ⟨z, -, rfl, rfl, hb⟩
  have S2 := S1.keep hb
  clear hb
  go_wp2_with fail
  refine (CL.out _).mono ?_
  rintro e W3 ⟨rfl, hb⟩
  have S3 := (S2.keep hb).alloc (wrow one) (W3.heap.size) rfl
  clear hb
  have hpos : one ≠ 0 := by rw [H1.out, Nat.one_mul]; exact Nat.ne_of_gt (Nat.two_pow_pos _)
  have Hpos := Lib.hid hpos; clear hpos
  go_wp2_with (first | (refine wpList_wide rfl _ rfl _ rfl S3 _ (List.Mem.tail _ (List.Mem.head _)) ?_) | (refine wpList_wide rfl _ rfl _ rfl S3 _ (List.Mem.head _) ?_))
  refine (div_c _ _ ha h1W _).mono ?_
  rintro e W4 ⟨times, rest, htimes, hrest, ⟨-, Qd⟩, rfl, hb⟩
  obtain ⟨Jt, Jr⟩ := Qd Hpos.out
  have Qt := Lib.hid Jt; have Qr := Lib.hid Jr; clear Jt Jr Qd
  have S4 := ((S3.keep hb).alloc (wrow times) (W4.heap.size) rfl).alloc (wrow rest) (W4.heap.size + 1) (by simp)
  clear hb
  go_wp2_with (first | (refine wpList_wide rfl _ rfl _ rfl S4 _ (List.Mem.tail _ (List.Mem.tail _ (List.Mem.tail _ (List.Mem.head _)))) ?_) | (refine wpList_wide rfl _ rfl _ rfl S4 _ (List.Mem.tail _ (List.Mem.tail _ (List.Mem.head _))) ?_))
  refine (mul_c _ _ ha h1W _).mono ?_
  rintro e W5 ⟨low, high, hlow, hhigh, ⟨Jl, Jh⟩, rfl, hb⟩
  have Ql := Lib.hid Jl; clear Jl Jh
  have S5 := ((S4.keep hb).alloc (wrow low) (W5.heap.size) rfl).alloc (wrow high) (W5.heap.size + 1) (by simp)
  clear hb
  obtain ⟨L, hL⟩ : ∃ L, L = [(W5.heap.size + 1, wrow high), (W5.heap.size, wrow low), (W4.heap.size + 1, wrow rest), (W4.heap.size, wrow times), (W3.heap.size, wrow one), (w.heap.size, wrow a)] := ⟨_, rfl⟩
  rw [← hL] at S5
  have r0 := St.reads (w := w) (L := L) (g := W5.heap.size) (z := low) (by rw [hL]; exact (List.Mem.tail _ (List.Mem.head _)))
  have r1 := St.reads (w := w) (L := L) (g := W4.heap.size + 1) (z := rest) (by rw [hL]; exact (List.Mem.tail _ (List.Mem.tail _ (List.Mem.head _))))
  have r2 := St.reads (w := w) (L := L) (g := W4.heap.size) (z := times) (by rw [hL]; exact (List.Mem.tail _ (List.Mem.tail _ (List.Mem.tail _ (List.Mem.head _)))))
  have r3 := St.reads (w := w) (L := L) (g := W3.heap.size) (z := one) (by rw [hL]; exact (List.Mem.tail _ (List.Mem.tail _ (List.Mem.tail _ (List.Mem.tail _ (List.Mem.head _))))))
  have r4 := St.reads (w := w) (L := L) (g := w.heap.size) (z := a) (by rw [hL]; exact (List.Mem.tail _ (List.Mem.tail _ (List.Mem.tail _ (List.Mem.tail _ (List.Mem.tail _ (List.Mem.head _)))))))
  obtain ⟨lt, hlt, hltW⟩ : ∃ z, z = times * 2 ^ n.toNat ∧ z < W256 := ⟨_, rfl, by
    have := Nat.div_mul_le_self a one
    rw [Qt.out]; rw [H1.out, Nat.one_mul] at *; omega⟩
  have cl2 := fun W => left_fit times n hn0 (by omega) lt hlt hltW W
  have CL2 := Lib.hid cl2; have HLT := Lib.hid hlt
  clear cl2 hlt
  obtain ⟨back, hback⟩ : ∃ z, z = (lt + rest) % W256 := ⟨_, rfl⟩
  obtain ⟨mb, hmb⟩ : ∃ b, b = decide (W256 ≤ lt + rest) := ⟨_, rfl⟩
  have ca := fun W : World => (show Calls Try.prog 13 #[wv lt, wv rest] W (fun e w' => e = .returned (.tuple #[wv back, .bool mb]) ∧ Below W.heap.size W w') from (add_c lt rest hltW hrest W).mono (by
    rintro e w' ⟨z, b, -, ⟨rfl, rfl⟩, rfl, hb⟩; rw [hback, hmb]; exact ⟨rfl, hb⟩))
  have CA := Lib.hid ca; have HB := Lib.hid hback
  clear ca hback hmb
  have HL := Lib.hid hL; clear hL
  go_wp2_with fail
  have S6 := S5.drew
  go_cut [10, 11] (fun s10 s11 wx => ∃ g : Nat, s10 = .pointer (some ⟨g, 0, none⟩) ∧ s11 = .bool mb ∧ St w ((g, wrow back) :: L) wx)
  case first =>
    go_region_held3 (fun w' => St w L w') (first | assumption | ((repeat (first | exact S6 | exact S5 | (refine St.keep ?_ (by assumption)) | refine St.alloc0 ?_ _ | refine St.drew ?_ | ((refine St.setCell2 (n := _) S5 ?h ?_ _ _); (case h => (simp; done))) | refine St.setCell1 ?_ ?_ _ _)); done))
      (first | (go_at_call 24; (with_reducible refine (CL2.out _).mono ?_); rintro e w' ⟨rfl, hb⟩; obtain ⟨hc, hf, hl, hm⟩ := bfacts hb) | (go_at_call 13; (with_reducible refine (CA.out _).mono ?_); rintro e w' ⟨rfl, hb⟩; obtain ⟨hc, hf, hl, hm⟩ := bfacts hb))
    all_goals (go_wp2_with fail; go_meet)
    all_goals refine ⟨_, rfl, rfl, ?_⟩
    all_goals first
      | ((refine St.alloc ?_ (wrow back) _ rfl); (repeat (first | exact S6 | exact S5 | (refine St.keep ?_ (by assumption)) | refine St.alloc0 ?_ _ | refine St.drew ?_ | ((refine St.setCell2 (n := _) S5 ?h ?_ _ _); (case h => (simp; done))) | refine St.setCell1 ?_ ?_ _ _)); done)
      | ((refine St.cons ?_ (set4 ?hz _)); (case hz => (repeat (first | exact lastH _ _ _ (by simp) | (refine keepH (by assumption) ?_)))); (repeat (first | exact S6 | exact S5 | (refine St.keep ?_ (by assumption)) | refine St.alloc0 ?_ _ | refine St.drew ?_ | ((refine St.setCell2 (n := _) S5 ?h ?_ _ _); (case h => (simp; done))) | refine St.setCell1 ?_ ?_ _ _)); done)
  case rest =>
    obtain ⟨g, rfl, rfl, S7⟩ := hcut
    clear r0 r1 r2 r3 r4
    obtain ⟨L2, hL2⟩ : ∃ L2, L2 = (g, wrow back) :: L := ⟨_, rfl⟩
    rw [← hL2] at S7
    have r0 := St.reads (w := w) (L := L2) (g := g) (z := back) (by rw [hL2, HL.out]; exact (List.Mem.head _))
    have r1 := St.reads (w := w) (L := L2) (g := W5.heap.size) (z := low) (by rw [hL2, HL.out]; exact (List.Mem.tail _ (List.Mem.tail _ (List.Mem.head _))))
    have r2 := St.reads (w := w) (L := L2) (g := W4.heap.size + 1) (z := rest) (by rw [hL2, HL.out]; exact (List.Mem.tail _ (List.Mem.tail _ (List.Mem.tail _ (List.Mem.head _)))))
    have r3 := St.reads (w := w) (L := L2) (g := W4.heap.size) (z := times) (by rw [hL2, HL.out]; exact (List.Mem.tail _ (List.Mem.tail _ (List.Mem.tail _ (List.Mem.tail _ (List.Mem.head _))))))
    have r4 := St.reads (w := w) (L := L2) (g := W3.heap.size) (z := one) (by rw [hL2, HL.out]; exact (List.Mem.tail _ (List.Mem.tail _ (List.Mem.tail _ (List.Mem.tail _ (List.Mem.tail _ (List.Mem.head _)))))))
    have r5 := St.reads (w := w) (L := L2) (g := w.heap.size) (z := a) (by rw [hL2, HL.out]; exact (List.Mem.tail _ (List.Mem.tail _ (List.Mem.tail _ (List.Mem.tail _ (List.Mem.tail _ (List.Mem.tail _ (List.Mem.head _))))))))
    clear hL2
    have p1 := Lib.hid (powers_one n hn0 one (by rw [H1.out, Nat.one_mul]))
    have o1 : one = 2 ^ n.toNat := by rw [H1.out, Nat.one_mul]
    have cBone := fun W : World => (show Calls Try.prog 22 #[wv one] W (fun e w' => e = .returned (.int .i64 (n + 1)) ∧ Below W.heap.size W w') from (bits_c one h1W W).mono (by
      rintro e w' ⟨rfl, hb⟩; rw [p1.out]; exact ⟨rfl, hb⟩))
    have cR := fun W => right_any a ha n hn0 times (by rw [Qt.out, o1]) W
    have cLo := fun W => left_any a ha n hn0 hn1 low (by rw [Ql.out, o1]) W
    have cBr := fun W => bits_c rest hrest W
    have cBa := fun W => bits_c a ha W
    have hbr : (blen rest : Int) ≤ n := powers_rest a n hn0 rest (by rw [Qr.out, o1])
    have hfin : decide ((blen a : Int) ≤ n) = weq times 0 := powers_fin a n hn0 times htimes (by rw [Qt.out, o1])
    have hwr : IntKind.i64.wrap (n + 1) = n + 1 := IntWalk.i64_in _ ⟨by omega, by omega⟩
    have e1 : weq times times = true := eql_wide_iff htimes htimes rfl
    have e2 : weq low low = true := eql_wide_iff hlow hlow rfl
    have hbk : back = a := by
      rw [HB.out, HLT.out, Qt.out, Qr.out, o1, Nat.mul_comm, Nat.div_add_mod]; exact Nat.mod_eq_of_lt ha
    have e3 : weq back a = true := eql_wide_iff (by rw [hbk]; exact ha) ha hbk
    have CBone := Lib.hid cBone; have CR := Lib.hid cR; have CLo := Lib.hid cLo; have CBr := Lib.hid cBr; have CBa := Lib.hid cBa
    clear cBone cR cLo cBr cBa hbk o1
    go_wp2_with fail
    have S8 := S7.drew
    go_region_held3 (fun w' => St w L2 w') (first | (exact St.keep (by assumption) (by assumption)) | assumption)
      (first
        | (go_at_call 22; (with_reducible refine (CBone.out _).mono ?_); rintro e w' ⟨rfl, hb⟩)
        | (go_at_call 25; (with_reducible refine (CR.out _).mono ?_); rintro e w' ⟨rfl, hb⟩)
        | (go_at_call 24; (with_reducible refine (CLo.out _).mono ?_); rintro e w' ⟨rfl, hb⟩)
        | (go_at_call 22; (with_reducible refine (CBr.out _).mono ?_); rintro e w' ⟨rfl, hb⟩)
        | (go_at_call 22; (with_reducible refine (CBa.out _).mono ?_); rintro e w' ⟨rfl, hb⟩))
    go_wp2_with fail
    go_ret
    exact ⟨rfl, St.below (L := L2) (by assumption)⟩
end Go.Proofs.Ytiodcmgpajdmoaa
