/-
  The law WideRings: its walk. (Printed by gen_rings.py.)
-/
import Derived.Test.YtiodcmgpajdmoaaLa
import Derived.Test.YtiodcmgpajdmoaaRg
namespace Go.Proofs.Ytiodcmgpajdmoaa
open Go.RowKit

set_option maxRecDepth 100000 in
set_option maxHeartbeats 4000000 in
theorem rings_w (a b c : Nat) (ha : a < W256) (hb' : b < W256) (hc : c < W256) (w : World) :
    Calls Try.prog 7 #[wv a, wv b, wv c] w (RetB w true) := by
  have q1 := eql_wide0; have q2 := wide_guard; have q3 := eql_wide
  go_enter Try.func7, Try.ntmps7
  have S00 := (((St.nil w).alloc (wrow a) _ rfl).alloc (wrow b) (w.heap.size + 1) (by simp)).alloc (wrow c) (w.heap.size + 1 + 1) (by simp)
  go_wp2_with fail
  refine (alive_c _).mono ?_
  rintro e W1 ⟨rfl, hb⟩
  have S1 := S00.keep hb
  clear hb
  go_wp2_with (first | (refine wpList_wide rfl _ rfl _ rfl S1 _ (List.Mem.tail _ (List.Mem.tail _ (List.Mem.head _))) ?_) | (refine wpList_wide rfl _ rfl _ rfl S1 _ (List.Mem.tail _ (List.Mem.head _)) ?_))
  refine (add_c _ _ ha hb' _).mono ?_
  rintro e W2 ⟨ab, bab, hab, ⟨Jab, -⟩, rfl, hb⟩
  have Qab := Lib.hid Jab; clear Jab
  have S2 := (S1.keep hb).alloc (wrow ab) (W2.heap.size) rfl
  clear hb
  go_wp2_with (first | (refine wpList_wide rfl _ rfl _ rfl S2 _ (List.Mem.head _) ?_) | (refine wpList_wide rfl _ rfl _ rfl S2 _ (List.Mem.tail _ (List.Mem.head _)) ?_))
  refine (add_c _ _ hab hc _).mono ?_
  rintro e W3 ⟨abc, babc, habc, ⟨Jabc, -⟩, rfl, hb⟩
  have Qabc := Lib.hid Jabc; clear Jabc
  have S3 := (S2.keep hb).alloc (wrow abc) (W3.heap.size) rfl
  clear hb
  go_wp2_with (first | (refine wpList_wide rfl _ rfl _ rfl S3 _ (List.Mem.tail _ (List.Mem.tail _ (List.Mem.tail _ (List.Mem.head _)))) ?_) | (refine wpList_wide rfl _ rfl _ rfl S3 _ (List.Mem.tail _ (List.Mem.tail _ (List.Mem.head _))) ?_))
  refine (add_c _ _ hb' hc _).mono ?_
  rintro e W4 ⟨bc, bbc, hbc, ⟨Jbc, -⟩, rfl, hb⟩
  have Qbc := Lib.hid Jbc; clear Jbc
  have S4 := (S3.keep hb).alloc (wrow bc) (W4.heap.size) rfl
  clear hb
  go_wp2_with (first | (refine wpList_wide rfl _ rfl _ rfl S4 _ (List.Mem.tail _ (List.Mem.tail _ (List.Mem.tail _ (List.Mem.tail _ (List.Mem.tail _ (List.Mem.head _)))))) ?_) | (refine wpList_wide rfl _ rfl _ rfl S4 _ (List.Mem.head _) ?_))
  refine (add_c _ _ ha hbc _).mono ?_
  rintro e W5 ⟨cab, bcab, hcab, ⟨Jcab, -⟩, rfl, hb⟩
  have Qcab := Lib.hid Jcab; clear Jcab
  have S5 := (S4.keep hb).alloc (wrow cab) (W5.heap.size) rfl
  clear hb
  go_wp2_with (first | (refine wpList_wide rfl _ rfl _ rfl S5 _ (List.Mem.tail _ (List.Mem.tail _ (List.Mem.tail _ (List.Mem.head _)))) ?_) | (refine wpList_wide rfl _ rfl _ rfl S5 _ (List.Mem.tail _ (List.Mem.tail _ (List.Mem.tail _ (List.Mem.tail _ (List.Mem.head _))))) ?_))
  refine (mul_c _ _ hab hc _).mono ?_
  rintro e W6 ⟨p, up, hp, hup, ⟨Jp, Jup⟩, rfl, hb⟩
  have Qp := Lib.hid Jp; have Qup := Lib.hid Jup; clear Jp Jup
  have S6 := ((S5.keep hb).alloc (wrow p) (W6.heap.size) rfl).alloc (wrow up) (W6.heap.size + 1) (by simp)
  clear hb
  go_wp2_with (first | (refine wpList_wide rfl _ rfl _ rfl S6 _ (List.Mem.tail _ (List.Mem.tail _ (List.Mem.tail _ (List.Mem.tail _ (List.Mem.tail _ (List.Mem.tail _ (List.Mem.tail _ (List.Mem.tail _ (List.Mem.head _))))))))) ?_) | (refine wpList_wide rfl _ rfl _ rfl S6 _ (List.Mem.tail _ (List.Mem.tail _ (List.Mem.tail _ (List.Mem.tail _ (List.Mem.tail _ (List.Mem.tail _ (List.Mem.head _))))))) ?_))
  refine (mul_c _ _ ha hc _).mono ?_
  rintro e W7 ⟨q, uq, hq, huq, ⟨Jq, Juq⟩, rfl, hb⟩
  have Qq := Lib.hid Jq; have Quq := Lib.hid Juq; clear Jq Juq
  have S7 := ((S6.keep hb).alloc (wrow q) (W7.heap.size) rfl).alloc (wrow uq) (W7.heap.size + 1) (by simp)
  clear hb
  go_wp2_with (first | (refine wpList_wide rfl _ rfl _ rfl S7 _ (List.Mem.tail _ (List.Mem.tail _ (List.Mem.tail _ (List.Mem.tail _ (List.Mem.tail _ (List.Mem.tail _ (List.Mem.tail _ (List.Mem.tail _ (List.Mem.tail _ (List.Mem.head _)))))))))) ?_) | (refine wpList_wide rfl _ rfl _ rfl S7 _ (List.Mem.tail _ (List.Mem.tail _ (List.Mem.tail _ (List.Mem.tail _ (List.Mem.tail _ (List.Mem.tail _ (List.Mem.tail _ (List.Mem.tail _ (List.Mem.head _))))))))) ?_))
  refine (mul_c _ _ hb' hc _).mono ?_
  rintro e W8 ⟨r, ur, hr, hur, ⟨Jr, Jur⟩, rfl, hb⟩
  have Qr := Lib.hid Jr; have Qur := Lib.hid Jur; clear Jr Jur
  have S8 := ((S7.keep hb).alloc (wrow r) (W8.heap.size) rfl).alloc (wrow ur) (W8.heap.size + 1) (by simp)
  clear hb
  go_wp2_with (first | (refine wpList_wide rfl _ rfl _ rfl S8 _ (List.Mem.tail _ (List.Mem.tail _ (List.Mem.tail _ (List.Mem.head _)))) ?_) | (refine wpList_wide rfl _ rfl _ rfl S8 _ (List.Mem.tail _ (List.Mem.head _)) ?_))
  refine (add_c _ _ hq hr _).mono ?_
  rintro e W9 ⟨qr, bqr, hqr, ⟨Jqr, -⟩, rfl, hb⟩
  have Qqr := Lib.hid Jqr; clear Jqr
  have S9 := (S8.keep hb).alloc (wrow qr) (W9.heap.size) rfl
  clear hb
  go_wp2_with (first | (refine wpList_wide rfl _ rfl _ rfl S9 _ (List.Mem.tail _ (List.Mem.tail _ (List.Mem.tail _ (List.Mem.tail _ (List.Mem.tail _ (List.Mem.tail _ (List.Mem.tail _ (List.Mem.tail _ (List.Mem.tail _ (List.Mem.tail _ (List.Mem.head _))))))))))) ?_) | (refine wpList_wide rfl _ rfl _ rfl S9 _ (List.Mem.tail _ (List.Mem.tail _ (List.Mem.tail _ (List.Mem.tail _ (List.Mem.tail _ (List.Mem.tail _ (List.Mem.tail _ (List.Mem.tail _ (List.Mem.tail _ (List.Mem.tail _ (List.Mem.tail _ (List.Mem.tail _ (List.Mem.head _))))))))))))) ?_))
  refine (sub_c _ _ hab hb' _).mono ?_
  rintro e W10 ⟨back, bback, hback, ⟨Jback, -⟩, rfl, hb⟩
  have Qback := Lib.hid Jback; clear Jback
  have S10 := (S9.keep hb).alloc (wrow back) (W10.heap.size) rfl
  clear hb
  have e1 : weq abc cab = true := eql_wide_iff habc hcab (by rw [Qabc.out, Qcab.out, Qab.out, Qbc.out]; exact rings_add a b c)
  have e2 : weq p qr = true := eql_wide_iff hp hqr (by rw [Qp.out, Qqr.out, Qq.out, Qr.out, Qab.out]; exact rings_mul a b c)
  have e3 : weq back a = true := eql_wide_iff hback ha (by rw [Qback.out, Qab.out]; exact rings_back a b ha hb')
  by_cases h0 : b = 0
  · subst h0
    have e4 : weq 0 0 = true := by decide +kernel
    go_wp2_with (first | (refine wpList_wide rfl _ rfl _ rfl S10 _ (List.Mem.tail _ (List.Mem.tail _ (List.Mem.tail _ (List.Mem.tail _ (List.Mem.tail _ (List.Mem.tail _ (List.Mem.tail _ (List.Mem.tail _ (List.Mem.tail _ (List.Mem.tail _ (List.Mem.head _))))))))))) ?_) | (refine wpList_wide rfl _ rfl _ rfl S10 _ (List.Mem.tail _ (List.Mem.tail _ (List.Mem.tail _ (List.Mem.tail _ (List.Mem.tail _ (List.Mem.tail _ (List.Mem.tail _ (List.Mem.tail _ (List.Mem.head _))))))))) ?_) | (refine wpList_wide rfl _ rfl _ rfl S10 _ (List.Mem.tail _ (List.Mem.tail _ (List.Mem.tail _ (List.Mem.tail _ (List.Mem.tail _ (List.Mem.tail _ (List.Mem.tail _ (List.Mem.head _)))))))) ?_) | (refine wpList_wide rfl _ rfl _ rfl S10 _ (List.Mem.tail _ (List.Mem.head _)) ?_) | (refine wpList_wide rfl _ rfl _ rfl S10 _ (List.Mem.head _) ?_) | (refine wpList_wide rfl _ rfl _ rfl S10 _ (List.Mem.tail _ (List.Mem.tail _ (List.Mem.tail _ (List.Mem.tail _ (List.Mem.tail _ (List.Mem.tail _ (List.Mem.tail _ (List.Mem.tail _ (List.Mem.tail _ (List.Mem.tail _ (List.Mem.tail _ (List.Mem.tail _ (List.Mem.tail _ (List.Mem.tail _ (List.Mem.head _))))))))))))))) ?_) | (refine wpList_wide rfl _ rfl _ rfl S10 _ (List.Mem.tail _ (List.Mem.tail _ (List.Mem.tail _ (List.Mem.tail _ (List.Mem.tail _ (List.Mem.tail _ (List.Mem.tail _ (List.Mem.tail _ (List.Mem.tail _ (List.Mem.tail _ (List.Mem.tail _ (List.Mem.tail _ (List.Mem.tail _ (List.Mem.head _)))))))))))))) ?_))
    go_ret
    exact ⟨rfl, by have := S10.below; go_grown⟩
  have e4 : weq b 0 = false := weq_false hb' (by decide) h0
  go_wp2_with (first | (refine wpList_wide rfl _ rfl _ rfl S10 _ (List.Mem.tail _ (List.Mem.tail _ (List.Mem.tail _ (List.Mem.tail _ (List.Mem.tail _ (List.Mem.tail _ (List.Mem.tail _ (List.Mem.tail _ (List.Mem.tail _ (List.Mem.tail _ (List.Mem.head _))))))))))) ?_) | (refine wpList_wide rfl _ rfl _ rfl S10 _ (List.Mem.tail _ (List.Mem.tail _ (List.Mem.tail _ (List.Mem.tail _ (List.Mem.tail _ (List.Mem.tail _ (List.Mem.tail _ (List.Mem.tail _ (List.Mem.head _))))))))) ?_) | (refine wpList_wide rfl _ rfl _ rfl S10 _ (List.Mem.tail _ (List.Mem.tail _ (List.Mem.tail _ (List.Mem.tail _ (List.Mem.tail _ (List.Mem.tail _ (List.Mem.tail _ (List.Mem.head _)))))))) ?_) | (refine wpList_wide rfl _ rfl _ rfl S10 _ (List.Mem.tail _ (List.Mem.head _)) ?_) | (refine wpList_wide rfl _ rfl _ rfl S10 _ (List.Mem.head _) ?_) | (refine wpList_wide rfl _ rfl _ rfl S10 _ (List.Mem.tail _ (List.Mem.tail _ (List.Mem.tail _ (List.Mem.tail _ (List.Mem.tail _ (List.Mem.tail _ (List.Mem.tail _ (List.Mem.tail _ (List.Mem.tail _ (List.Mem.tail _ (List.Mem.tail _ (List.Mem.tail _ (List.Mem.tail _ (List.Mem.tail _ (List.Mem.head _))))))))))))))) ?_) | (refine wpList_wide rfl _ rfl _ rfl S10 _ (List.Mem.tail _ (List.Mem.tail _ (List.Mem.tail _ (List.Mem.tail _ (List.Mem.tail _ (List.Mem.tail _ (List.Mem.tail _ (List.Mem.tail _ (List.Mem.tail _ (List.Mem.tail _ (List.Mem.tail _ (List.Mem.tail _ (List.Mem.tail _ (List.Mem.head _)))))))))))))) ?_))
  refine (div_c _ _ ha hb' _).mono ?_
  rintro e W11 ⟨times, rest, htimes, hrest, ⟨-, Qd⟩, rfl, hb⟩
  obtain ⟨Jt, Jrest⟩ := Qd h0
  have Qt := Lib.hid Jt; have Qrest := Lib.hid Jrest; clear Jt Jrest Qd
  have S11 := ((S10.keep hb).alloc (wrow times) (W11.heap.size) rfl).alloc (wrow rest) (W11.heap.size + 1) (by simp)
  clear hb
  go_wp2_with (first | (refine wpList_wide rfl _ rfl _ rfl S11 _ (List.Mem.tail _ (List.Mem.head _)) ?_) | (refine wpList_wide rfl _ rfl _ rfl S11 _ (List.Mem.tail _ (List.Mem.tail _ (List.Mem.tail _ (List.Mem.tail _ (List.Mem.tail _ (List.Mem.tail _ (List.Mem.tail _ (List.Mem.tail _ (List.Mem.tail _ (List.Mem.tail _ (List.Mem.tail _ (List.Mem.tail _ (List.Mem.tail _ (List.Mem.tail _ (List.Mem.tail _ (List.Mem.head _)))))))))))))))) ?_))
  refine (mul_c _ _ htimes hb' _).mono ?_
  rintro e W12 ⟨low, high, hlow, hhigh, ⟨Jlow, Jhigh⟩, rfl, hb⟩
  have Qlow := Lib.hid Jlow; have Qhigh := Lib.hid Jhigh; clear Jlow Jhigh
  have S12 := ((S11.keep hb).alloc (wrow low) (W12.heap.size) rfl).alloc (wrow high) (W12.heap.size + 1) (by simp)
  clear hb
  go_wp2_with (first | (refine wpList_wide rfl _ rfl _ rfl S12 _ (List.Mem.tail _ (List.Mem.head _)) ?_) | (refine wpList_wide rfl _ rfl _ rfl S12 _ (List.Mem.tail _ (List.Mem.tail _ (List.Mem.head _))) ?_))
  refine (add_c _ _ hlow hrest _).mono ?_
  rintro e W13 ⟨whole, bwhole, hwhole, ⟨Jwhole, Jmore⟩, rfl, hb⟩
  have Qwhole := Lib.hid Jwhole; have Qmore := Lib.hid Jmore; clear Jwhole Jmore
  have S13 := (S12.keep hb).alloc (wrow whole) (W13.heap.size) rfl
  clear hb
  have hm : times * b ≤ a := by rw [Qt.out]; exact Nat.div_mul_le_self a b
  have hl : low = times * b := by rw [Qlow.out]; exact Nat.mod_eq_of_lt (by omega)
  have hs : low + rest = a := by rw [hl, Qt.out, Qrest.out, Nat.mul_comm]; exact Nat.div_add_mod a b
  have hh : high = 0 := by rw [Qhigh.out]; exact Nat.div_eq_of_lt (by omega)
  have hw : whole = a := by rw [Qwhole.out, hs]; exact Nat.mod_eq_of_lt ha
  have hmore : bwhole = false := by rw [Qmore.out, hs]; simpa using ha
  have hlt : decide (rest < b) = true := by rw [Qrest.out]; simpa using Nat.mod_lt a (by omega)
  have e5 : weq high 0 = true := eql_wide_iff hhigh (by decide) hh
  have e6 : weq whole a = true := eql_wide_iff hwhole ha hw
  subst hmore
  clear hm hl hs hh hw
  go_wp2_with (first | (refine wpList_wide rfl _ rfl _ rfl S13 _ (List.Mem.tail _ (List.Mem.head _)) ?_) | (refine wpList_wide rfl _ rfl _ rfl S13 _ (List.Mem.head _) ?_) | (refine wpList_wide rfl _ rfl _ rfl S13 _ (List.Mem.tail _ (List.Mem.tail _ (List.Mem.tail _ (List.Mem.tail _ (List.Mem.tail _ (List.Mem.tail _ (List.Mem.tail _ (List.Mem.tail _ (List.Mem.tail _ (List.Mem.tail _ (List.Mem.tail _ (List.Mem.tail _ (List.Mem.tail _ (List.Mem.tail _ (List.Mem.tail _ (List.Mem.tail _ (List.Mem.tail _ (List.Mem.tail _ (List.Mem.tail _ (List.Mem.head _)))))))))))))))))))) ?_) | (refine wpList_wide rfl _ rfl _ rfl S13 _ (List.Mem.tail _ (List.Mem.tail _ (List.Mem.tail _ (List.Mem.head _)))) ?_) | (refine wpList_wide rfl _ rfl _ rfl S13 _ (List.Mem.tail _ (List.Mem.tail _ (List.Mem.tail _ (List.Mem.tail _ (List.Mem.tail _ (List.Mem.tail _ (List.Mem.tail _ (List.Mem.tail _ (List.Mem.tail _ (List.Mem.tail _ (List.Mem.tail _ (List.Mem.tail _ (List.Mem.tail _ (List.Mem.tail _ (List.Mem.tail _ (List.Mem.tail _ (List.Mem.tail _ (List.Mem.tail _ (List.Mem.head _))))))))))))))))))) ?_))
  refine (less_c _ _ hrest hb' _).mono ?_
  rintro e W14 ⟨rfl, hb⟩
  have S14 := S13.keep hb
  clear hb
  go_wp2
  go_ret
  exact ⟨by simp, by have := S14.below; go_grown⟩
end Go.Proofs.Ytiodcmgpajdmoaa
