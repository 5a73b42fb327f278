/-
  digest.Text: a hash in digits. (Printed by gen_htext.py.)
-/
import Derived.Test.YtpdccbcbjiombaaHk
import Derived.Test.YtpdccbcbjiombaaHs
namespace Go.Proofs.Ytpdccbcbjiombaa
open Go.RowKit

/-- A digit. -/
def hx (d : Nat) : Nat := nth [48, 49, 50, 51, 52, 53, 54, 55, 56, 57, 97, 98, 99, 100, 101, 102] d
/-- The digits of the last n bytes, the last one first. -/
def txt (l : List Nat) : Nat → List UInt8
  | 0 => []
  | n + 1 => txt l n ++ [UInt8.ofNat (hx (nth l (31 - n) / 16)), UInt8.ofNat (hx (nth l (31 - n) % 16))]
theorem txt_len (l : List Nat) : ∀ n, (txt l n).length = 2 * n
  | 0 => rfl
  | n + 1 => by rw [txt, List.length_append, txt_len l n]; simp; omega
theorem hx_lt (d : Nat) : hx d < 256 := by
  unfold hx
  by_cases h : d < 16
  · have : ∀ j : Fin 16, nth [48, 49, 50, 51, 52, 53, 54, 55, 56, 57, 97, 98, 99, 100, 101, 102] j.val < 256 := by decide
    exact this ⟨d, h⟩
  · rw [nth_end _ _ (by simp; omega)]; decide
theorem index_h0 (w : World) : (Instr.index 9 (.string ⟨#[48, 49, 50, 51, 52, 53, 54, 55, 56, 57, 97, 98, 99, 100, 101, 102]⟩) (.int .u8 ((0 : Nat) : Int))).run Try.prog w = .ok (.int .u8 ((48 : Nat) : Int)) w := by kernel_rfl
theorem index_h1 (w : World) : (Instr.index 9 (.string ⟨#[48, 49, 50, 51, 52, 53, 54, 55, 56, 57, 97, 98, 99, 100, 101, 102]⟩) (.int .u8 ((1 : Nat) : Int))).run Try.prog w = .ok (.int .u8 ((49 : Nat) : Int)) w := by kernel_rfl
theorem index_h2 (w : World) : (Instr.index 9 (.string ⟨#[48, 49, 50, 51, 52, 53, 54, 55, 56, 57, 97, 98, 99, 100, 101, 102]⟩) (.int .u8 ((2 : Nat) : Int))).run Try.prog w = .ok (.int .u8 ((50 : Nat) : Int)) w := by kernel_rfl
theorem index_h3 (w : World) : (Instr.index 9 (.string ⟨#[48, 49, 50, 51, 52, 53, 54, 55, 56, 57, 97, 98, 99, 100, 101, 102]⟩) (.int .u8 ((3 : Nat) : Int))).run Try.prog w = .ok (.int .u8 ((51 : Nat) : Int)) w := by kernel_rfl
theorem index_h4 (w : World) : (Instr.index 9 (.string ⟨#[48, 49, 50, 51, 52, 53, 54, 55, 56, 57, 97, 98, 99, 100, 101, 102]⟩) (.int .u8 ((4 : Nat) : Int))).run Try.prog w = .ok (.int .u8 ((52 : Nat) : Int)) w := by kernel_rfl
theorem index_h5 (w : World) : (Instr.index 9 (.string ⟨#[48, 49, 50, 51, 52, 53, 54, 55, 56, 57, 97, 98, 99, 100, 101, 102]⟩) (.int .u8 ((5 : Nat) : Int))).run Try.prog w = .ok (.int .u8 ((53 : Nat) : Int)) w := by kernel_rfl
theorem index_h6 (w : World) : (Instr.index 9 (.string ⟨#[48, 49, 50, 51, 52, 53, 54, 55, 56, 57, 97, 98, 99, 100, 101, 102]⟩) (.int .u8 ((6 : Nat) : Int))).run Try.prog w = .ok (.int .u8 ((54 : Nat) : Int)) w := by kernel_rfl
theorem index_h7 (w : World) : (Instr.index 9 (.string ⟨#[48, 49, 50, 51, 52, 53, 54, 55, 56, 57, 97, 98, 99, 100, 101, 102]⟩) (.int .u8 ((7 : Nat) : Int))).run Try.prog w = .ok (.int .u8 ((55 : Nat) : Int)) w := by kernel_rfl
theorem index_h8 (w : World) : (Instr.index 9 (.string ⟨#[48, 49, 50, 51, 52, 53, 54, 55, 56, 57, 97, 98, 99, 100, 101, 102]⟩) (.int .u8 ((8 : Nat) : Int))).run Try.prog w = .ok (.int .u8 ((56 : Nat) : Int)) w := by kernel_rfl
theorem index_h9 (w : World) : (Instr.index 9 (.string ⟨#[48, 49, 50, 51, 52, 53, 54, 55, 56, 57, 97, 98, 99, 100, 101, 102]⟩) (.int .u8 ((9 : Nat) : Int))).run Try.prog w = .ok (.int .u8 ((57 : Nat) : Int)) w := by kernel_rfl
theorem index_h10 (w : World) : (Instr.index 9 (.string ⟨#[48, 49, 50, 51, 52, 53, 54, 55, 56, 57, 97, 98, 99, 100, 101, 102]⟩) (.int .u8 ((10 : Nat) : Int))).run Try.prog w = .ok (.int .u8 ((97 : Nat) : Int)) w := by kernel_rfl
theorem index_h11 (w : World) : (Instr.index 9 (.string ⟨#[48, 49, 50, 51, 52, 53, 54, 55, 56, 57, 97, 98, 99, 100, 101, 102]⟩) (.int .u8 ((11 : Nat) : Int))).run Try.prog w = .ok (.int .u8 ((98 : Nat) : Int)) w := by kernel_rfl
theorem index_h12 (w : World) : (Instr.index 9 (.string ⟨#[48, 49, 50, 51, 52, 53, 54, 55, 56, 57, 97, 98, 99, 100, 101, 102]⟩) (.int .u8 ((12 : Nat) : Int))).run Try.prog w = .ok (.int .u8 ((99 : Nat) : Int)) w := by kernel_rfl
theorem index_h13 (w : World) : (Instr.index 9 (.string ⟨#[48, 49, 50, 51, 52, 53, 54, 55, 56, 57, 97, 98, 99, 100, 101, 102]⟩) (.int .u8 ((13 : Nat) : Int))).run Try.prog w = .ok (.int .u8 ((100 : Nat) : Int)) w := by kernel_rfl
theorem index_h14 (w : World) : (Instr.index 9 (.string ⟨#[48, 49, 50, 51, 52, 53, 54, 55, 56, 57, 97, 98, 99, 100, 101, 102]⟩) (.int .u8 ((14 : Nat) : Int))).run Try.prog w = .ok (.int .u8 ((101 : Nat) : Int)) w := by kernel_rfl
theorem index_h15 (w : World) : (Instr.index 9 (.string ⟨#[48, 49, 50, 51, 52, 53, 54, 55, 56, 57, 97, 98, 99, 100, 101, 102]⟩) (.int .u8 ((15 : Nat) : Int))).run Try.prog w = .ok (.int .u8 ((102 : Nat) : Int)) w := by kernel_rfl
theorem index_hx (d : Nat) (hd : d < 16) (w : World) : (Instr.index 9 (.string ⟨#[48, 49, 50, 51, 52, 53, 54, 55, 56, 57, 97, 98, 99, 100, 101, 102]⟩) (.int .u8 (d : Int))).run Try.prog w = .ok (.int .u8 ((hx d : Nat) : Int)) w := by
  match d, hd with
  | 0, _ => exact index_h0 w
  | 1, _ => exact index_h1 w
  | 2, _ => exact index_h2 w
  | 3, _ => exact index_h3 w
  | 4, _ => exact index_h4 w
  | 5, _ => exact index_h5 w
  | 6, _ => exact index_h6 w
  | 7, _ => exact index_h7 w
  | 8, _ => exact index_h8 w
  | 9, _ => exact index_h9 w
  | 10, _ => exact index_h10 w
  | 11, _ => exact index_h11 w
  | 12, _ => exact index_h12 w
  | 13, _ => exact index_h13 w
  | 14, _ => exact index_h14 w
  | 15, _ => exact index_h15 w
  | n + 16, h => exact absurd h (by omega)
theorem and15 : ∀ x : Fin 256, bits .and .u8 (x.val : Int) 15 = ((x.val % 16 : Nat) : Int) := by decide +kernel

structure TxInv (w : World) (l : List Nat) (k : Nat) (wr : World) : Prop where
  below : Below (w.heap.size + 1) (w.alloc (.cells (wcells .u8 l) 29)) wr
  bld : Lib.IsBuilder 61 5 (w.heap.size + 1) (w.heap.size + 1) (Lib.byteCells (txt l k)) wr

set_option maxRecDepth 100000 in
set_option maxHeartbeats 2000000 in
theorem text_c (l : List Nat) (hl : l.length = 32) (hb : ∀ y, y ∈ l → y < 256) (w : World) :
    Calls Try.prog 19 #[.agg (wcells .u8 l)] w fun e w' => e = .returned (.string ⟨(txt l 32).toArray⟩) ∧ Below w.heap.size w w' := by
  have HL := Lib.hid hl; have HB := Lib.hid hb
  have I0 : Hid (TxInv w l 0 ((w.alloc (.cells (wcells .u8 l) 29)).alloc (.cells #[.pointer none, .slice none 0 0] 61))) := by
    refine ⟨(Below.refl _ _).alloc (by simp) _, ?_⟩
    have := Lib.fresh_isBuilder 61 5 (w.alloc (.cells (wcells .u8 l) 29))
    simpa [txt, Lib.byteCells] using this
  clear hl hb
  go_enter Try.func19, Try.ntmps19
  go_wp2_with fail
  go_loopw [6] (fun s wr => ∃ k : Nat, s = .int .i64 (k : Int) ∧ k ≤ 32 ∧ Hid (TxInv w l k wr)) (fun s _ => (32 - intOf s).toNat)
  case atStart => exact ⟨0, rfl, by omega, I0⟩
  case round =>
    obtain ⟨k, rfl, hk, HI⟩ := hrel
    have hsz : w.heap.size + 1 ≤ wr.heap.size := by have := HI.out.below.size; simpa using this
    by_cases h32 : k = 32
    · have hge : ¬ (k : Int) < 32 := by omega
      have CS := Lib.hid (Try.builder_string (w.heap.size + 1) (w.heap.size + 1) (txt l k) wr HI.out.bld hsz)
      have HBL := Lib.hid HI.out.below
      go_wp2_with fail
      refine CS.out.mono ?_
      rintro e W1 ⟨rfl, hb⟩
      have HBB : Hid (Below w.heap.size w W1) := by
        have h1 : Below w.heap.size w (w.alloc (.cells (wcells .u8 l) 29)) := (Below.refl _ _).alloc (Nat.le_refl _) _
        have h2 := HBL.out.trans hb
        exact h1.trans ⟨h2.os, h2.tape, h2.output, h2.size, fun b hb => h2.block b (by omega)⟩
      clear hb
      go_wp2_with fail
      go_ret
      exact ⟨rfl, HBB.out⟩
    · have hlt : (k : Int) < 32 := by omega
      have hrow : wr.heap[w.heap.size]? = some (.cells (wcells .u8 l) 29 (0, 0)) := (HI.out.below.block _ (by omega)).trans (lastH _ _ _ rfl)
      obtain ⟨j, hj⟩ : ∃ j, 31 - k = j := ⟨_, rfl⟩
      have hjI : (31 - (k : Int)) = (j : Int) := by omega
      have hj31 : (j : Int) < 32 := by omega
      have c0 := cell_w hrow j (by rw [HL.out]; omega)
      have hx256 : nth l j < 256 := HB.out _ (nth_mem l j (by rw [HL.out]; omega))
      have htx : txt l (k + 1) = txt l k ++ [UInt8.ofNat (hx (nth l j / 16)), UInt8.ofNat (hx (nth l j % 16))] := by rw [txt, hj]
      obtain ⟨x, hxe⟩ : ∃ x, nth l j = x := ⟨_, rfl⟩
      rw [hxe] at c0 hx256 htx
      have i1 : ∀ W, (Instr.index 9 (.string ⟨#[48, 49, 50, 51, 52, 53, 54, 55, 56, 57, 97, 98, 99, 100, 101, 102]⟩) (.int .u8 ((x : Int) / 16))).run Try.prog W = .ok (.int .u8 ((hx (x / 16) : Nat) : Int)) W := fun W => by
        rw [show (x : Int) / 16 = ((x / 16 : Nat) : Int) by omega]; exact index_hx _ (by omega) W
      have i2 : ∀ W, (Instr.index 9 (.string ⟨#[48, 49, 50, 51, 52, 53, 54, 55, 56, 57, 97, 98, 99, 100, 101, 102]⟩) (.int .u8 ((x % 16 : Nat) : Int))).run Try.prog W = .ok (.int .u8 ((hx (x % 16) : Nat) : Int)) W := fun W => index_hx _ (by omega) W
      have a15 : bits .and .u8 (x : Int) 15 = ((x % 16 : Nat) : Int) := and15 ⟨x, hx256⟩
      obtain ⟨y, hy⟩ : ∃ y, x % 16 = y := ⟨_, rfl⟩
      have hys := hx_lt (x / 16); have hyt := hx_lt (x % 16)
      rw [hy] at i2 a15 htx hyt
      obtain ⟨u, hu⟩ : ∃ u, hx (x / 16) = u := ⟨_, rfl⟩
      obtain ⟨v, hv⟩ : ∃ v, hx y = v := ⟨_, rfl⟩
      rw [hu] at i1 htx hys; rw [hv] at i2 htx hyt
      have HTX := Lib.hid htx
      have hbb : w.heap.size < wr.heap.size := by omega
      have HSZ := Lib.hid hsz
      have C1 := Lib.hid (Try.builder_byte (w.heap.size + 1) (w.heap.size + 1) (Lib.byteCells (txt l k)) (u : Int) wr HI.out.bld (by rw [Lib.byteCells_length, txt_len]; omega) hsz)
      have HBL := Lib.hid HI.out.below
      have hu8 : Hid ((UInt8.ofNat u).toNat = u ∧ (UInt8.ofNat v).toNat = v) := ⟨by simp; omega, by simp; omega⟩
      clear htx hj hxe hx256 hrow hy hu hv hys hyt hsz HI
      go_wp2_with fail
      refine C1.out.mono ?_
      rintro e W1 ⟨rfl, hb1, hb2⟩
      have C2 := Lib.hid (Try.builder_byte (w.heap.size + 1) (w.heap.size + 1) _ (v : Int) W1 (Or.inr hb1) (by rw [List.length_append, Lib.byteCells_length, txt_len]; simp; omega) (Nat.le_trans HSZ.out hb2.size))
      have HB2 := Lib.hid (HBL.out.trans hb2)
      clear hb1 hb2
      go_wp2_with fail
      refine C2.out.mono ?_
      rintro e W2 ⟨rfl, hb1, hb2⟩
      have TI : Hid (TxInv w l (k + 1) W2) := by
        refine ⟨HB2.out.trans hb2, Or.inr ?_⟩
        rw [HTX.out]
        have e : Lib.byteCells (txt l k ++ [UInt8.ofNat u, UInt8.ofNat v]) = Lib.byteCells (txt l k) ++ [.int .u8 (u : Int)] ++ [.int .u8 (v : Int)] := by
          simp [Lib.byteCells, hu8.out.1, hu8.out.2]
        rw [e]; exact hb1
      clear hb1 hb2
      go_wp2_with fail
      go_roundw
      case rel => exact ⟨k + 1, by go_num, by omega, TI⟩
      case measure => simp [intOf]; omega
end Go.Proofs.Ytpdccbcbjiombaa
