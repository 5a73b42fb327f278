/-
  bynameref03.hex: the number of sixty-four digits.
-/
import Derived.Test.YtdobfmpngfgafaaDx
import Derived.Lib.ConvBytes
namespace Go.Proofs.Ytdobfmpngfgafaa
open Go.RowKit

/-- []byte(s): a new row. -/
theorem conv_c (w : World) (t : ByteArray) : ∃ C W2, (convert 9 71 (.string t)).run Try.prog w = .ok (.slice (some ⟨w.heap.size, 0, none⟩) t.size C) W2 ∧ Below w.heap.size w W2 ∧ ∀ j, j < t.size → W2.cell? ⟨w.heap.size, j, none⟩ = some (.int .u8 (t.data.toList.getD j 0).toNat) :=
  ⟨_, _, Lib.run_convert_string_bytes w 9 71 5 t Try.underlying9 Try.underlying71 Try.underlying5,
    ⟨rfl, rfl, rfl, by rw [Lib.bytesWorld_size]; omega, fun k hk => Lib.bytesWorld_at_old w _ t k hk⟩, fun j hj => Lib.bytesWorld_cell w _ t j hj⟩

/-- A digit to sixteen. -/
def hexv (x : Nat) : Nat := if 65 ≤ x then x - 55 else x - 48
def hexok (x : Nat) : Prop := (48 ≤ x ∧ x ≤ 57) ∨ (65 ≤ x ∧ x ≤ 70)
/-- The number of the first j of four digits. -/
def hx (X : Nat → Nat) : Nat → Nat
  | 0 => 0
  | j + 1 => 16 * hx X j + hexv (X j)
theorem hexv_lt (x : Nat) (h : hexok x) : hexv x < 16 := by unfold hexv; rcases h with h | h <;> split <;> omega
theorem hx_lt (X : Nat → Nat) (h : ∀ j, j < 4 → hexok (X j)) : ∀ j, j ≤ 4 → hx X j < 16 ^ j
  | 0, _ => by simp [hx]
  | j + 1, hj => by
    have h1 := hx_lt X h j (by omega); have h2 := hexv_lt _ (h j (by omega))
    rw [hx, Nat.pow_succ]; omega
/-- Byte i of a text. -/
def byt (s : ByteArray) (i : Nat) : Nat := (s.data.toList.getD i 0).toNat
/-- The k-th four digits from the end. -/
def hex4 (s : ByteArray) (k : Nat) : Nat := hx (fun j => byt s (60 - 4 * k + j)) 4
theorem byt_cut (s : ByteArray) (hs : s.size = 64) (k j : Nat) (hk : k < 16) (hj : j < 4) : ((s.extract (64 - 4 * k - 4) (64 - 4 * k)).data.toList.getD j 0).toNat = byt s (60 - 4 * k + j) := by
  have hl : s.data.toList.length = 64 := by simpa using hs
  unfold byt
  congr 1
  rw [ByteArray.data_extract, Array.toList_extract]
  simp only [List.getD_eq_getElem?_getD, List.extract_eq_take_drop]
  rw [List.getElem?_take, if_pos (by omega), List.getElem?_drop, show 64 - 4 * k - 4 + j = 60 - 4 * k + j by omega]

set_option maxRecDepth 100000 in
set_option maxHeartbeats 4000000 in
theorem hex_d (s : ByteArray) (hs : s.size = 64) (hok : ∀ i, i < 64 → hexok (byt s i)) (w : World) :
    Calls Try.prog 48 #[.string s] w (RetD w fun ds => ds = (List.range 16).map (hex4 s)) := by
  have HS := Lib.hid hs; have HK := Lib.hid hok
  have hs1 : (s.size : Int) = 64 := by omega
  have hs2 : (64 : Int) ≤ s.size := by omega
  clear hs hok
  go_enter Try.func48, Try.ntmps48
  go_wp2
  have O0 : Hid (OwnD (w.alloc (.cells #[] 22)) w.heap.size w.heap.size 0 0 []) := OwnD.start' w _ (Nat.le_refl _) _ rfl
  have B0 : Hid (Below w.heap.size w (w.alloc (.cells #[] 22))) := (Below.refl _ _).alloc (Nat.le_refl _) _
  go_loopw [3, 4] (fun v iv wr => ∃ k g c : Nat, v = sv g 0 k c ∧ iv = .int .i64 ((64 : Int) - 4 * k) ∧ k ≤ 16 ∧ Hid (OwnD wr w.heap.size g k c ((List.range k).map (hex4 s))) ∧ Hid (Below w.heap.size w wr)) (fun _ iv _ => (intOf iv).toNat)
  case atStart => exact ⟨0, w.heap.size, 0, rfl, rfl, by decide, O0, B0⟩
  case round =>
    obtain ⟨k, g, c, rfl, rfl, hk, O, B⟩ := hrel
    by_cases hk16 : k = 16
    · have HF : Hid (RetD w (fun ds => ds = (List.range 16).map (hex4 s)) (.returned (sv g 0 16 c)) wr) := by rw [hk16] at O; exact RetD.mk rfl O.out B.out
      subst hk16
      clear O B
      go_wp2
      go_ret
      exact HF.out
    · have hk15 : (k : Int) ≤ 15 := by omega
      have hk0 : (0 : Int) ≤ k := by omega
      have hkn : k < 16 := by omega
      obtain ⟨t, ht⟩ : ∃ t, s.extract (64 - 4 * k - 4) (64 - 4 * k) = t := ⟨_, rfl⟩
      obtain ⟨C, W2, hconv, hb2, hcell⟩ := conv_c wr t
      have htz : t.size = 4 := by rw [← ht, ByteArray.size_extract, HS.out]; omega
      rw [htz] at hconv hcell
      have HX : Hid (∀ j, j < 4 → (t.data.toList.getD j 0).toNat = byt s (60 - 4 * k + j)) := fun j hj => by rw [← ht]; exact byt_cut s HS.out k j hkn hj
      have HC : Hid (∀ j, j < 4 → W2.cell? ⟨wr.heap.size, j, none⟩ = some (.int .u8 ((byt s (60 - 4 * k + j) : Nat) : Int))) := fun j hj => by rw [hcell j hj, HX.out j hj]
      have HB := Lib.hid hb2
      have HO : Hid (OwnD W2 w.heap.size g k c ((List.range k).map (hex4 s))) := O.out.keep hb2
      have HBB : Hid (Below w.heap.size w W2) := below_step B.out hb2
      have HOK : Hid (∀ j, j < 4 → hexok (byt s (60 - 4 * k + j))) := fun j hj => HK.out _ (by omega)
      have HH : Hid (hex4 s k = hx (fun j => byt s (60 - 4 * k + j)) 4) := rfl
      obtain ⟨X, hX⟩ : ∃ X : Nat → Nat, X = fun j => byt s (60 - 4 * k + j) := ⟨_, rfl⟩
      have HC' : Hid (∀ j, j < 4 → W2.cell? ⟨wr.heap.size, j, none⟩ = some (.int .u8 ((X j : Nat) : Int))) := by rw [hX]; exact HC
      have HOK' : Hid (∀ j, j < 4 → hexok (X j)) := by rw [hX]; exact HOK
      rw [← hX] at HH
      clear hb2 hcell HX HC HOK hX hk16 htz O B hkn
      go_wp2
      go_loop [5, 23] (fun nv jv => ∃ j : Nat, jv = .int .i64 j ∧ nv = .int .u64 ((hx X j : Nat) : Int) ∧ j ≤ 4) (fun _ jv => 4 - (intOf jv).toNat)
      case atStart => exact ⟨0, rfl, rfl, by decide⟩
      case round =>
        obtain ⟨j, rfl, rfl, hj⟩ := hrel
        by_cases hj4 : j < 4
        · have rc := HC'.out j hj4
          have hjl : (j : Int) < 4 := by omega
          have hn : hx X j < 16 ^ 4 := Nat.lt_of_lt_of_le (hx_lt X HOK'.out j (by omega)) (Nat.pow_le_pow_right (by decide) (by omega))
          have hni : ((hx X j : Nat) : Int) ≤ 65536 := by have : (16 : Nat) ^ 4 = 65536 := rfl; omega
          have hxs : hx X (j + 1) = 16 * hx X j + hexv (X j) := rfl
          rcases HOK'.out j hj4 with h | h
          · have h1 : (48 : Int) ≤ X j := by omega
            have h2 : ((X j : Nat) : Int) ≤ 57 := by omega
            have HE : Hid ((16 : Int) * ((hx X j : Nat) : Int) + (((X j : Nat) : Int) - 48) = ((hx X (j + 1) : Nat) : Int)) := by
              rw [hxs]; unfold hexv Hid; rw [if_neg (by omega)]; omega
            clear hn hxs h
            go_wp2
            go_round
            case rel => exact ⟨j + 1, by go_num, by rw [← HE.out], by omega⟩
            case measure => simp [intOf]; omega
          · have h1 : (65 : Int) ≤ X j := by omega
            have h2 : ((X j : Nat) : Int) ≤ 70 := by omega
            have HE : Hid ((16 : Int) * ((hx X j : Nat) : Int) + (((X j : Nat) : Int) - 65 + 10) = ((hx X (j + 1) : Nat) : Int)) := by
              rw [hxs]; unfold hexv Hid; rw [if_pos (by omega)]; omega
            clear hn hxs h
            go_wp2
            go_round
            case rel => exact ⟨j + 1, by go_num, by rw [← HE.out], by omega⟩
            case measure => simp [intOf]; omega
        · obtain rfl : j = 4 := by omega
          have HR : Hid ((List.range (k + 1)).map (hex4 s) = (List.range k).map (hex4 s) ++ [hx X 4]) := by rw [List.range_succ, List.map_append, ← HH.out]; rfl
          go_wp2_with (at_builtin; go_loud (refine wpList_push (by rfl) (.tmp 41) (.tmp 43) (by rfl) w.heap.size g k c (hx X 4) W2.heap.size ((List.range k).map (hex4 s)) (by rfl) (by rfl) (HO.out.keep (Below.alloc (Below.refl _ _) (Nat.le_refl _) _)) (by omega) (by go_simp) ?_; intro g' c' w' ho hb; have HO2 := Lib.hid ho; have HB2 := Lib.hid ((HBB.out.alloc HBB.out.size _).trans hb); clear ho hb))
          go_roundw
          case rel => exact ⟨k + 1, g', c', rfl, by go_num, by omega, by rw [HR.out]; exact HO2, HB2⟩
          case measure => simp [intOf]; omega
end Go.Proofs.Ytdobfmpngfgafaa
