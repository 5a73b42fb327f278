/-
  What the digests are, in plain Lean: numbers below 2^32, pieces of 64 bytes. No program in sight. (Printed by gen_hspec.py.)
-/
import Derived.Test.YtbjcigokimieoaaSt
namespace Go.Proofs.Ytbjcigokimieoaa
open Go.RowKit

/-- Entry i of a list; 0 behind the last one. (Closed to simp.) -/
def nth (l : List Nat) (i : Nat) : Nat := l.getD i 0
theorem nth_end (l : List Nat) (i : Nat) (h : l.length ≤ i) : nth l i = 0 := by
  unfold nth; rw [List.getD_eq_getElem?_getD, List.getElem?_eq_none h]; rfl
theorem nth_get (l : List Nat) (i : Nat) (h : i < l.length) : l[i]? = some (nth l i) := by
  unfold nth; rw [List.getD_eq_getElem?_getD, List.getElem?_eq_getElem h]; rfl
theorem nth_set (l : List Nat) (i j x : Nat) (h : i < l.length) : nth (l.set i x) j = if i = j then x else nth l j := by
  unfold nth
  rw [List.getD_eq_getElem?_getD, List.getD_eq_getElem?_getD, List.getElem?_set]
  split
  · next e => subst e; first | rfl | (rw [if_pos h]; rfl)
  · rfl
theorem nth_append_left (a b : List Nat) (i : Nat) (h : i < a.length) : nth (a ++ b) i = nth a i := by
  unfold nth; rw [List.getD_eq_getElem?_getD, List.getD_eq_getElem?_getD, List.getElem?_append_left h]
theorem nth_append_right (a b : List Nat) (i : Nat) (h : a.length ≤ i) : nth (a ++ b) i = nth b (i - a.length) := by
  unfold nth; rw [List.getD_eq_getElem?_getD, List.getD_eq_getElem?_getD, List.getElem?_append_right h]
theorem nth_ext (a b : List Nat) (h : a.length = b.length) (he : ∀ i, i < a.length → nth a i = nth b i) : a = b := by
  apply List.ext_getElem? 
  intro i
  by_cases hi : i < a.length
  · rw [nth_get a i hi, nth_get b i (by omega), he i hi]
  · rw [List.getElem?_eq_none (by omega), List.getElem?_eq_none (by omega)]
theorem nth_range (f : Nat → Nat) (n i : Nat) (h : i < n) : nth ((List.range n).map f) i = f i := by
  unfold nth; rw [List.getD_eq_getElem?_getD, List.getElem?_map, List.getElem?_range h]; rfl
theorem nth_map (f : Nat → Nat) (l : List Nat) (i : Nat) (h : i < l.length) : nth (l.map f) i = f (nth l i) := by
  unfold nth; rw [List.getD_eq_getElem?_getD, List.getElem?_map, List.getD_eq_getElem?_getD, List.getElem?_eq_getElem h]; rfl
theorem nth_drop (l : List Nat) (k i : Nat) : nth (l.drop k) i = nth l (k + i) := by
  unfold nth; rw [List.getD_eq_getElem?_getD, List.getD_eq_getElem?_getD, List.getElem?_drop]
theorem nth_mem (l : List Nat) (i : Nat) (h : i < l.length) : nth l i ∈ l := List.mem_of_getElem? (nth_get l i h)

/-- A number of 32 bits turned right. -/
def rotr (x n : Nat) : Nat := (x / 2 ^ n ||| x * 2 ^ (32 - n)) % 4294967296
def sg0 (x : Nat) : Nat := (rotr x 7 ^^^ rotr x 18) ^^^ x / 8
def sg1 (x : Nat) : Nat := (rotr x 17 ^^^ rotr x 19) ^^^ x / 1024
def bg1 (x : Nat) : Nat := (rotr x 6 ^^^ rotr x 11) ^^^ rotr x 25
def bg0 (x : Nat) : Nat := (rotr x 2 ^^^ rotr x 13) ^^^ rotr x 22
def chs (e f g : Nat) : Nat := (e &&& f) ^^^ ((4294967295 - e) &&& g)
def maj (a b c : Nat) : Nat := ((a &&& b) ^^^ (a &&& c)) ^^^ (b &&& c)
/-- One of each round. -/
def KL : List Nat := [1116352408, 1899447441, 3049323471, 3921009573, 961987163, 1508970993, 2453635748, 2870763221, 3624381080, 310598401, 607225278, 1426881987, 1925078388, 2162078206, 2614888103, 3248222580, 3835390401, 4022224774, 264347078, 604807628, 770255983, 1249150122, 1555081692, 1996064986, 2554220882, 2821834349, 2952996808, 3210313671, 3336571891, 3584528711, 113926993, 338241895, 666307205, 773529912, 1294757372, 1396182291, 1695183700, 1986661051, 2177026350, 2456956037, 2730485921, 2820302411, 3259730800, 3345764771, 3516065817, 3600352804, 4094571909, 275423344, 430227734, 506948616, 659060556, 883997877, 958139571, 1322822218, 1537002063, 1747873779, 1955562222, 2024104815, 2227730452, 2361852424, 2428436474, 2756734187, 3204031479, 3329325298]
/-- The numbers as they begin. -/
def HL : List Nat := [1779033703, 3144134277, 1013904242, 2773480762, 1359893119, 2600822924, 528734635, 1541459225]
/-- The word of four bytes. -/
def word (f : Nat → Nat) (i : Nat) : Nat := ((f (4 * i) * 256 + f (4 * i + 1)) * 256 + f (4 * i + 2)) * 256 + f (4 * i + 3)
/-- The word that comes of those before it. -/
def nextw (l : List Nat) (n : Nat) : Nat := (((nth l n + nth l (n + 9)) % 4294967296 + sg0 (nth l (n + 1))) % 4294967296 + sg1 (nth l (n + 14))) % 4294967296
def sch (f : Nat → Nat) : Nat → List Nat
  | 0 => (List.range 16).map (word f)
  | n + 1 => sch f n ++ [nextw (sch f n) n]
/-- One round. -/
def tt1 (k w : Nat) (x : List Nat) : Nat := ((((nth x 7 + bg1 (nth x 4)) % 4294967296 + chs (nth x 4) (nth x 5) (nth x 6)) % 4294967296 + k) % 4294967296 + w) % 4294967296
def tt2 (x : List Nat) : Nat := (bg0 (nth x 0) + maj (nth x 0) (nth x 1) (nth x 2)) % 4294967296
def rnd (k w : Nat) (x : List Nat) : List Nat := [(tt1 k w x + tt2 x) % 4294967296, nth x 0, nth x 1, nth x 2, (nth x 3 + tt1 k w x) % 4294967296, nth x 4, nth x 5, nth x 6]
def rnds (ws x : List Nat) : Nat → List Nat
  | 0 => x
  | n + 1 => rnd (nth KL n) (nth ws n) (rnds ws x n)
def addL (x y : List Nat) : List Nat := (List.range 8).map fun i => (nth x i + nth y i) % 4294967296
/-- The eight numbers behind a piece. -/
def mixS (x : List Nat) (f : Nat → Nat) : List Nat := addL x (rnds (sch f 48) x 64)
/-- Behind n pieces. -/
def runB (x bs : List Nat) : Nat → List Nat
  | 0 => x
  | n + 1 => mixS (runB x bs n) fun i => nth bs (64 * n + i)
/-- The noughts that are wanted. -/
def pads (n : Nat) : Nat := (119 - n % 64) % 64
def be8 (n : Nat) : List Nat := (List.range 8).map fun i => n / 2 ^ (56 - 8 * i) % 256
def padded (bs : List Nat) : List Nat := bs ++ [128] ++ List.replicate (pads bs.length) 0 ++ be8 (8 * bs.length % 18446744073709551616)
def outB (x : List Nat) : List Nat := (List.range 32).map fun j => nth x (j / 4) / 2 ^ (24 - 8 * (j % 4)) % 256
/-- The digest of bytes. -/
def sha (bs : List Nat) : List Nat := outB (runB HL (padded bs) ((padded bs).length / 64))

theorem rotr_lt (x n : Nat) : rotr x n < 4294967296 := Nat.mod_lt _ (by decide)
theorem xor_lt {a b : Nat} (ha : a < 4294967296) (hb : b < 4294967296) : a ^^^ b < 4294967296 := Nat.xor_lt_two_pow (n := 32) ha hb
theorem and_lt {a : Nat} (b : Nat) (ha : a < 4294967296) : a &&& b < 4294967296 := Nat.lt_of_le_of_lt Nat.and_le_left ha
theorem KL_lt (i : Nat) : nth KL i < 4294967296 := by
  by_cases h : i < 64
  · have : ∀ j : Fin 64, nth KL j.val < 4294967296 := by decide +kernel
    exact this ⟨i, h⟩
  · rw [nth_end KL i (by simp only [KL, List.length_cons, List.length_nil]; omega)]; decide
theorem KL_len : KL.length = 64 := rfl

theorem sch_len (f : Nat → Nat) : ∀ n, (sch f n).length = 16 + n
  | 0 => by simp [sch]
  | n + 1 => by rw [sch, List.length_append, sch_len f n]; rfl
theorem rnds_len (ws x : List Nat) (h : x.length = 8) : ∀ n, (rnds ws x n).length = 8
  | 0 => h
  | _ + 1 => rfl
theorem addL_len (x y : List Nat) : (addL x y).length = 8 := by simp [addL]
theorem mixS_len (x : List Nat) (f : Nat → Nat) : (mixS x f).length = 8 := addL_len _ _
theorem runB_len (x bs : List Nat) (h : x.length = 8) : ∀ n, (runB x bs n).length = 8
  | 0 => h
  | _ + 1 => mixS_len _ _
/-- Each one below 2^32. -/
def W32 (l : List Nat) : Prop := ∀ i, nth l i < 4294967296
theorem W32.nil : W32 [] := fun i => by rw [nth_end [] i (by simp)]; decide
theorem w32_of (l : List Nat) (h : ∀ x, x ∈ l → x < 4294967296) : W32 l := fun i => by
  by_cases hi : i < l.length
  · exact h _ (nth_mem l i hi)
  · rw [nth_end l i (by omega)]; decide
theorem word_lt (f : Nat → Nat) (i : Nat) (h : ∀ j, f j < 256) : word f i < 4294967296 := by
  have h0 := h (4 * i); have h1 := h (4 * i + 1); have h2 := h (4 * i + 2); have h3 := h (4 * i + 3)
  unfold word; omega
theorem sch_w (f : Nat → Nat) (h : ∀ j, f j < 256) : ∀ n, W32 (sch f n)
  | 0 => w32_of _ (by intro x hx; simp only [sch, List.mem_map] at hx; obtain ⟨i, -, rfl⟩ := hx; exact word_lt f i h)
  | n + 1 => fun i => by
    rw [sch]
    by_cases hi : i < (sch f n).length
    · rw [nth_append_left _ _ _ hi]; exact sch_w f h n i
    · rw [nth_append_right _ _ _ (by omega)]
      by_cases h0 : i - (sch f n).length = 0
      · rw [h0]; exact Nat.mod_lt _ (by decide)
      · rw [nth_end _ _ (by simp; omega)]; decide
theorem addL_w (x y : List Nat) : W32 (addL x y) := w32_of _ (by intro a ha; simp only [addL, List.mem_map] at ha; obtain ⟨i, -, rfl⟩ := ha; exact Nat.mod_lt _ (by decide))
theorem rnd_w (k w : Nat) (x : List Nat) (h : W32 x) : W32 (rnd k w x) := w32_of _ (by
  intro a ha
  simp only [rnd, List.mem_cons, List.not_mem_nil, or_false] at ha
  rcases ha with rfl | rfl | rfl | rfl | rfl | rfl | rfl | rfl <;> first | exact h _ | exact Nat.mod_lt _ (by decide))
theorem rnds_w (ws x : List Nat) (h : W32 x) : ∀ n, W32 (rnds ws x n)
  | 0 => h
  | n + 1 => rnd_w _ _ _ (rnds_w ws x h n)
theorem runB_w (x bs : List Nat) (h : W32 x) : ∀ n, W32 (runB x bs n)
  | 0 => h
  | _ + 1 => addL_w _ _
theorem HL_w : W32 HL := w32_of _ (by decide +kernel)
theorem outB_len (x : List Nat) : (outB x).length = 32 := by simp [outB]
theorem outB_lt (x : List Nat) : ∀ y, y ∈ outB x → y < 256 := by
  intro y hy; simp only [outB, List.mem_map] at hy; obtain ⟨i, -, rfl⟩ := hy; exact Nat.mod_lt _ (by decide)
theorem sha_len (bs : List Nat) : (sha bs).length = 32 := outB_len _
theorem sha_lt (bs : List Nat) : ∀ y, y ∈ sha bs → y < 256 := outB_lt _

theorem pads_56 (n : Nat) : (n + 1 + pads n) % 64 = 56 := by unfold pads; omega
theorem padded_len (bs : List Nat) : (padded bs).length = bs.length + 1 + pads bs.length + 8 := by simp [padded, be8]; omega
theorem padded_64 (bs : List Nat) : (padded bs).length % 64 = 0 := by rw [padded_len]; have := pads_56 bs.length; omega
/-- The pieces alone count. -/
theorem runB_congr (x a b : List Nat) : ∀ n, (∀ i, i < 64 * n → nth a i = nth b i) → runB x a n = runB x b n
  | 0, _ => rfl
  | n + 1, h => by
    rw [runB, runB, runB_congr x a b n (fun i hi => h i (by omega))]
    have key : ∀ f g : Nat → Nat, (∀ i, i < 64 → f i = g i) → ∀ m, sch f m = sch g m := by
      intro f g hfg m
      induction m with
      | zero =>
        apply List.map_congr_left
        intro i hi
        have := List.mem_range.1 hi
        unfold word
        rw [hfg _ (by omega), hfg _ (by omega), hfg _ (by omega), hfg _ (by omega)]
      | succ m ih => rw [sch, sch, ih]
    unfold mixS
    rw [key _ _ (fun i hi => h (64 * n + i) (by omega)) 48]
theorem runB_add (x bs : List Nat) (m : Nat) : ∀ n, runB x bs (m + n) = runB (runB x bs m) (bs.drop (64 * m)) n
  | 0 => rfl
  | n + 1 => by
    rw [← Nat.add_assoc, runB, runB, runB_add x bs m n]
    congr 1
    funext i
    rw [nth_drop]; congr 1; omega

theorem sha_nil : (sha []).take 4 = [227, 176, 196, 66] := by decide +kernel
theorem sha_abc : sha [97, 98, 99] = [186, 120, 22, 191, 143, 1, 207, 234, 65, 65, 64, 222, 93, 174, 34, 35, 176, 3, 97, 163, 150, 23, 122, 156, 180, 16, 255, 97, 242, 0, 21, 173] := by decide +kernel
end Go.Proofs.Ytbjcigokimieoaa
