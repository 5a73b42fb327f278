/-
  The law DigestNames: its walk.
-/
import Derived.Test.YtpdccbcbjiombaaHt
import Derived.Test.YtpdccbcbjiombaaHu
import Derived.Lib.SlBytesConst
namespace Go.Proofs.Ytpdccbcbjiombaa
open Go.RowKit

/-- The digits of abc's digest. -/
theorem txt_abc : txt (sha [97, 98, 99]) 32 = [97, 100, 49, 53, 48, 48, 102, 50, 54, 49, 102, 102, 49, 48, 98, 52, 57, 99, 55, 97, 49, 55, 57, 54, 97, 51, 54, 49, 48, 51, 98, 48, 50, 51, 50, 50, 97, 101, 53, 100, 100, 101, 52, 48, 52, 49, 52, 49, 101, 97, 99, 102, 48, 49, 56, 102, 98, 102, 49, 54, 55, 56, 98, 97] := by
  rw [sha_abc]; decide +kernel

set_option maxRecDepth 100000 in
set_option maxHeartbeats 2000000 in
theorem dnames_w (w : World) : Calls Try.prog 7 #[] w (RetB w true) := by
  have S0 := ((St.nil w).alloc (.cells #[.int .u8 97, .int .u8 98, .int .u8 99] 5 (3, 4)) _ rfl).alloc (.cells #[.slice (some ⟨w.heap.size, 0, none⟩) 3 3] 26) (w.heap.size + 1) (by simp)
  have P1 : PieceV ((w.alloc (.cells #[.int .u8 97, .int .u8 98, .int .u8 99] 5 (3, 4))).alloc (.cells #[.slice (some ⟨w.heap.size, 0, none⟩) 3 3] 26)) (w.heap.size + 2) (.slice (some ⟨w.heap.size, 0, none⟩) 3 3) [97, 98, 99] :=
    Or.inr ⟨w.heap.size, 0, 3, by omega, rfl, fun i hi => by
      have hr := S0.get (List.Mem.tail _ (List.Mem.head _))
      have hi3 : i < 3 := hi
      match i, hi3 with
      | 0, _ => exact (cell_of_row _ _ _ _ _ _ hr).trans rfl
      | 1, _ => exact (cell_of_row _ _ _ _ _ _ hr).trans rfl
      | 2, _ => exact (cell_of_row _ _ _ _ _ _ hr).trans rfl⟩
  have CS := sum_c _ [[97, 98, 99]] _ ((pcs_one (B := w.heap.size + 2) (S0.get (List.Mem.head _)) (by omega) (by simp) P1).mono (by simp) (Nat.le_refl _)) (by decide) (by decide) (by decide)
  rw [show [[97, 98, 99]].flatten = [97, 98, 99] from rfl] at CS
  have ht := txt_abc
  have hl := sha_len [97, 98, 99]; have hb := sha_lt [97, 98, 99]
  obtain ⟨dg, hdg⟩ : ∃ dg, dg = sha [97, 98, 99] := ⟨_, rfl⟩
  rw [← hdg] at CS ht hl hb
  have CS := Lib.hid CS; have HT := Lib.hid ht; have HL := Lib.hid hl
  have CT := Lib.hid (fun W => text_c dg hl hb W)
  clear hdg P1 ht hl hb
  have kc := fun (w : World) (C : Array Value) (n c : Nat) => Lib.run_convert_bytes_const (P := Try.prog) w 26 5 C n c Try.underlying26 Try.underlying5
  go_enter Try.func7, Try.ntmps7
  go_wp2_with fail
  refine CS.out.mono ?_
  rintro e W1 ⟨rfl, hb⟩
  have S1 := (S0.keep hb).newh dg
  have Z1 : Hid ((W1.alloc zobj).heap[W1.heap.size]? = some zobj) := lastH W1 zobj _ rfl
  obtain ⟨V, hV⟩ : ∃ V, V = (W1.alloc zobj).setRow W1.heap.size (wcells .u8 dg) := ⟨_, rfl⟩
  rw [← hV] at S1
  have HV := Lib.hid hV
  clear hb hV CS S0
  go_wp2_with (refine wpList_puth rfl (.tmp 1) (.tmp 5) rfl W1.heap.size rfl dg (List.replicate 32 0) HL.out (by simp) rfl Z1.out ?_; refine Eq.mp (congrArg (fun v => wpList _ _ _ _ _ v) HV.out) ?_)
  refine (dalive_c _).mono ?_
  rintro e W2 ⟨rfl, hb⟩
  have S2 := S1.keep hb
  clear hb S1
  go_wp2_with (refine wpList_hash rfl (.tmp 1) rfl W1.heap.size rfl dg HL.out (S2.get (List.Mem.head _)) ?_)
  refine (CT.out _).mono ?_
  rintro e W3 ⟨rfl, hb⟩
  have S3 := S2.keep hb
  clear hb S2
  have HT2 := HT.out
  rw [HT2]
  go_wp2_with fail
  go_ret
  exact ⟨rfl, S3.below⟩
end Go.Proofs.Ytpdccbcbjiombaa
