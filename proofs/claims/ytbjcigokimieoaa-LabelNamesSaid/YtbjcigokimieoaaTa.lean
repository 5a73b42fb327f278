/-
  Words that push, as lists of numbers: what the chapters on scripts and labels say of bytes. Plain.
-/
import Derived.Test.YtbjcigokimieoaaSp
namespace Go.Proofs.Ytbjcigokimieoaa
open Go.RowKit

/-- The bytes of a text. -/
def sb (s : ByteArray) : List Nat := s.data.toList.map UInt8.toNat
theorem sb_len (s : ByteArray) : (sb s).length = s.size := by simp [sb]
theorem sb_lt (s : ByteArray) : ∀ y, y ∈ sb s → y < 256 := by
  intro y hy; simp only [sb, List.mem_map] at hy; obtain ⟨c, -, rfl⟩ := hy; exact c.toNat_lt
theorem nst_sb (s : ByteArray) : nst (sb s) = s := by
  unfold nst sb
  simp only [List.map_map]
  rw [show (List.map (UInt8.ofNat ∘ UInt8.toNat) s.data.toList) = List.map id s.data.toList from List.map_congr_left (fun x _ => by simp), List.map_id]
theorem sb_inj {s t : ByteArray} (h : sb s = sb t) : s = t := by rw [← nst_sb s, ← nst_sb t, h]
theorem sb_nst (l : List Nat) (h : ∀ y, y ∈ l → y < 256) : sb (nst l) = l := bln_nst l h

/-- []byte(s), as a step. -/
theorem wp_bytes {o : Oper} {a : Act} {K : Act → World → Prop} {Q : Exit → Act → World → Prop} {w W : World} {L : List (Nat × Obj)} {X : List Xt} (S : Sx w L X W) {x : Operand} {s : ByteArray} (ho : o.op = .convert 9 22 x) (hx : a.eval x = .string s)
    (h : ∀ g c W', w.heap.size ≤ g → W.heap.size ≤ g → Sx w L (xps (fun b => b = g) (.slice (some ⟨g, 0, none⟩) (sb s).length c) (sb s) :: X) W' → K (a.put o.dst (.slice (some ⟨g, 0, none⟩) (sb s).length c)) W') : o.wp Try.prog a W K Q := by
  have hb : Below W.heap.size W (Lib.bytesWorld W 5 s) := ⟨rfl, rfl, rfl, by rw [Lib.bytesWorld_size]; omega, fun b hb => Lib.bytesWorld_at_old W _ s b hb⟩
  have hp : PieceS (Lib.bytesWorld W 5 s) (fun b => b = W.heap.size) (.slice (some ⟨W.heap.size, 0, none⟩) (sb s).length (grownCap W s.size 0 5)) (sb s) :=
    Or.inr ⟨W.heap.size, 0, _, rfl, rfl, fun i hi => by
      rw [sb_len] at hi
      rw [Nat.zero_add, Lib.bytesWorld_cell W _ s i hi]
      have e : nth (sb s) i = (s.data.toList.getD i 0).toNat := by
        have hi2 : i < s.data.toList.length := by simpa using hi
        unfold nth sb
        rw [List.getD_eq_getElem?_getD, List.getElem?_map, List.getD_eq_getElem?_getD, List.getElem?_eq_getElem hi2]; rfl
      rw [e]⟩
  have hr := Lib.run_convert_string_bytes (P := Try.prog) W 9 22 5 s Try.underlying9 Try.underlying22 Try.underlying5
  have hlt : W.heap.size < (Lib.bytesWorld W 5 s).heap.size := by rw [Lib.bytesWorld_size]; omega
  unfold Oper.wp execOp
  simp only [ho, hx, Sem.run_bind, hr, Result.andThen_ok, Sem.run_pure]
  rw [← sb_len]
  rw [← sb_len] at hp
  exact h _ _ _ S.below.size (Nat.le_refl _) (S.madeX hb _ ⟨fun b hb => hb ▸ hlt, hp⟩ (fun b hb => hb ▸ Nat.le_refl _) (fun b hb => hb ▸ hlt))
/-- string(b), as a step. -/
theorem wp_str {o : Oper} {a : Act} {K : Act → World → Prop} {Q : Exit → Act → World → Prop} {W : World} {S : Nat → Prop} {x : Operand} {v : Value} {bs : List Nat} (ho : o.op = .convert 22 9 x) (hx : a.eval x = v) (hp : PieceS W S v bs)
    (hk : Hid (K (a.put o.dst (.string (nst bs))) W)) : o.wp Try.prog a W K Q := by
  unfold Oper.wp execOp
  simp only [ho, hx, Sem.run_bind, run_str hp, Result.andThen_ok, Sem.run_pure]
  exact hk.out
/-- A row of bytes as a piece. -/
theorem row_piece {W : World} {g n c : Nat} {cs : Array Value} {l : List Nat} {t : TypeId} (h : W.heap[g]? = some (.cells cs t (0, 0))) (hl : cs.toList = bcells l) (hn : n = l.length) : PieceV W W.heap.size (.slice (some ⟨g, 0, none⟩) n c) l := by
  subst hn
  refine Or.inr ⟨g, 0, c, lt_of_block h, rfl, fun i hi => (cell_of_row _ _ _ _ _ _ h).trans ?_⟩
  have := bcells_get l i hi
  rw [← hl] at this
  rw [Nat.zero_add]; simpa using this

/-- A word that pushes. -/
def pw (x : List Nat) : List Nat := if x.length ≤ 75 then x.length :: x else if x.length < 256 then 76 :: x.length :: x else 77 :: x.length % 256 :: x.length / 256 % 256 :: x
def pws (l : List (List Nat)) : List Nat := (l.map pw).flatten
theorem pws_snoc (l : List (List Nat)) (k : Nat) (x : List Nat) (h : l[k]? = some x) : pws (l.take (k + 1)) = pws (l.take k) ++ pw x := by
  unfold pws
  rw [List.take_add_one, h]; simp
theorem pw1 (x : List Nat) (h : x.length ≤ 75) : pw x = [x.length] ++ x := by simp [pw, h]
theorem pw2 (x : List Nat) (h : ¬ x.length ≤ 75) (h2 : x.length < 256) : pw x = [76, x.length] ++ x := by simp [pw, h, h2]
theorem pw3 (x : List Nat) (h : ¬ x.length ≤ 75) (h2 : ¬ x.length < 256) : pw x = [77, x.length % 256, x.length / 256 % 256] ++ x := by simp [pw, h, h2]
theorem pws_take_le (l : List (List Nat)) (k : Nat) : (pws (l.take k)).length ≤ (pws l).length := by
  have e : pws l = pws (l.take k) ++ pws (l.drop k) := by
    unfold pws
    rw [← List.flatten_append, ← List.map_append, List.take_append_drop]
  rw [e, List.length_append]; omega
theorem pw_len (x : List Nat) : x.length < (pw x).length ∧ (pw x).length ≤ x.length + 3 := by
  unfold pw
  split
  · simp
  · split <;> simp <;> omega
theorem pw_lt (x : List Nat) (h : ∀ y, y ∈ x → y < 256) : ∀ y, y ∈ pw x → y < 256 := by
  intro y hy
  unfold pw at hy
  split at hy
  · rcases List.mem_cons.1 hy with rfl | hy
    · omega
    · exact h y hy
  · split at hy
    · rcases List.mem_cons.1 hy with rfl | hy
      · omega
      · rcases List.mem_cons.1 hy with rfl | hy
        · omega
        · exact h y hy
    · rcases List.mem_cons.1 hy with rfl | hy
      · omega
      · rcases List.mem_cons.1 hy with rfl | hy
        · omega
        · rcases List.mem_cons.1 hy with rfl | hy
          · omega
          · exact h y hy
theorem pws_lt (l : List (List Nat)) (h : ∀ x, x ∈ l → ∀ y, y ∈ x → y < 256) : ∀ y, y ∈ pws l → y < 256 := by
  intro y hy
  unfold pws at hy
  obtain ⟨z, hz, hyz⟩ := List.mem_flatten.1 hy
  obtain ⟨x, hx, rfl⟩ := List.mem_map.1 hz
  exact pw_lt x (h x hx) y hyz

theorem pws_le (l : List (List Nat)) : (pws l).length ≤ l.flatten.length + 3 * l.length := by
  induction l with
  | nil => simp [pws]
  | cons x l ih =>
    have h := pw_len x
    have e : pws (x :: l) = pw x ++ pws l := rfl
    rw [e, List.length_append, List.flatten_cons, List.length_append, List.length_cons]; omega
/-- How many bytes a word's head has, and how many it pushes. -/
def hd (b : List Nat) : Nat := if nth b 0 = 76 then 2 else if nth b 0 = 77 then 3 else 1
def sz (b : List Nat) : Nat := if nth b 0 ≤ 75 then nth b 0 else if nth b 0 = 76 then nth b 1 else if nth b 0 = 77 then nth b 1 + 256 * nth b 2 else 0
/-- The first word: its code, what it pushes, how many bytes it has. -/
def nxt (b : List Nat) : Option (Nat × List Nat × Nat) :=
  if b = [] then none
  else if 81 ≤ nth b 0 ∧ nth b 0 ≤ 96 then some (nth b 0, [nth b 0 - 80], 1)
  else if b.length < hd b + sz b then none
  else some (nth b 0, (b.drop (hd b)).take (sz b), hd b + sz b)
theorem nxt_nil (b : List Nat) (h : b.length = 0) : nxt b = none := by
  obtain rfl : b = [] := List.eq_nil_of_length_eq_zero h
  rfl
theorem nxt_one (b : List Nat) (h : ¬ b.length = 0) (c : Nat) (hc : nth b 0 = c) (h1 : 81 ≤ c) (h2 : c ≤ 96) : nxt b = some (c, [c - 80], 1) := by
  subst hc
  unfold nxt
  rw [if_neg (by rintro rfl; exact h rfl), if_pos ⟨h1, h2⟩]
theorem nxt_short (b : List Nat) (h : ¬ b.length = 0) (h1 : ¬ (81 ≤ nth b 0 ∧ nth b 0 ≤ 96)) (h2 : b.length < hd b + sz b) : nxt b = none := by
  unfold nxt
  rw [if_neg (by rintro rfl; exact h rfl), if_neg h1, if_pos h2]
theorem nxt_ok (b : List Nat) (h : ¬ b.length = 0) (h1 : ¬ (81 ≤ nth b 0 ∧ nth b 0 ≤ 96)) (h2 : ¬ b.length < hd b + sz b) : nxt b = some (nth b 0, (b.drop (hd b)).take (sz b), hd b + sz b) := by
  unfold nxt
  rw [if_neg (by rintro rfl; exact h rfl), if_neg h1, if_neg h2]
theorem nxt_le {b : List Nat} {c : Nat} {d : List Nat} {u : Nat} (h : nxt b = some (c, d, u)) : 0 < u ∧ u ≤ b.length ∧ d.length ≤ b.length := by
  unfold nxt at h
  split at h
  · cases h
  · rename_i hb
    have hpos : 0 < b.length := List.length_pos_iff.2 hb
    split at h
    · injection h with h; injection h with h1 h2; injection h2 with h2 h3
      subst h2 h3; simp; omega
    · split at h
      · cases h
      · injection h with h; injection h with h1 h2; injection h2 with h2 h3
        subst h2 h3
        have : 0 < hd b := by unfold hd; split <;> (try split) <;> omega
        rw [List.length_take, List.length_drop]; omega
theorem nxt_lt {b : List Nat} {c : Nat} {d : List Nat} {u : Nat} (h : nxt b = some (c, d, u)) (hb : ∀ y, y ∈ b → y < 256) : ∀ y, y ∈ d → y < 256 := by
  unfold nxt at h
  split at h
  · cases h
  · split at h
    · injection h with h; injection h with h1 h2; injection h2 with h2 h3
      subst h2
      intro y hy
      rw [List.mem_singleton] at hy; omega
    · split at h
      · cases h
      · injection h with h; injection h with h1 h2; injection h2 with h2 h3
        subst h2
        exact fun y hy => hb y (List.mem_of_mem_drop (List.mem_of_mem_take hy))
/-- The first pieces that are pushed, and what is behind them. -/
def parS (b : List Nat) : Nat → Option (List (List Nat) × List Nat)
  | 0 => some ([], b)
  | k + 1 => match parS b k with
    | none => none
    | some (l, r) => match nxt r with
      | none => none
      | some (_, d, u) => some (l ++ [d], r.drop u)
theorem parS_some {b : List Nat} {k : Nat} {l : List (List Nat)} {r : List Nat} (h : parS b k = some (l, r)) {c : Nat} {d : List Nat} {u : Nat} (hn : nxt r = some (c, d, u)) : parS b (k + 1) = some (l ++ [d], r.drop u) := by
  simp [parS, h, hn]
theorem parS_none {b : List Nat} {k : Nat} {l : List (List Nat)} {r : List Nat} (h : parS b k = some (l, r)) (hn : nxt r = none) : ∀ m, parS b (k + 1 + m) = none
  | 0 => by simp [parS, h, hn]
  | m + 1 => by
    show (match parS b (k + 1 + m) with | none => none | some (l, r) => match nxt r with | none => none | some (_, d, u) => some (l ++ [d], r.drop u)) = none
    rw [parS_none h hn m]
theorem parS_len {b : List Nat} : ∀ {k : Nat} {l : List (List Nat)} {r : List Nat}, parS b k = some (l, r) → l.length = k
  | 0, l, r, h => by
    simp only [parS, Option.some.injEq, Prod.mk.injEq] at h
    rw [← h.1]; rfl
  | k + 1, l, r, h => by
    cases h1 : parS b k with
    | none => simp [parS, h1] at h
    | some lr =>
      obtain ⟨l0, r0⟩ := lr
      have ih := parS_len h1
      cases h2 : nxt r0 with
      | none => simp [parS, h1, h2] at h
      | some cdu =>
        obtain ⟨c, d, u⟩ := cdu
        rw [parS_some h1 h2] at h
        injection h with h; injection h with h3 h4
        rw [← h3, List.length_append, ih]; rfl
theorem parS_le {b : List Nat} (hb : ∀ y, y ∈ b → y < 256) : ∀ {k : Nat} {l : List (List Nat)} {r : List Nat}, parS b k = some (l, r) → l.length = k ∧ (∀ x, x ∈ l → x.length ≤ b.length ∧ ∀ y, y ∈ x → y < 256) ∧ r.length ≤ b.length ∧ ∀ y, y ∈ r → y < 256
  | 0, l, r, h => by
    simp only [parS, Option.some.injEq, Prod.mk.injEq] at h
    obtain ⟨rfl, rfl⟩ := h
    exact ⟨rfl, fun x hx => (by cases hx), Nat.le_refl _, hb⟩
  | k + 1, l, r, h => by
    cases h1 : parS b k with
    | none => simp [parS, h1] at h
    | some lr =>
      obtain ⟨l0, r0⟩ := lr
      obtain ⟨e1, e2, e3, e4⟩ := parS_le hb h1
      cases h2 : nxt r0 with
      | none => simp [parS, h1, h2] at h
      | some cdu =>
        obtain ⟨c, d, u⟩ := cdu
        rw [parS_some h1 h2] at h
        simp only [Option.some.injEq, Prod.mk.injEq] at h
        obtain ⟨rfl, rfl⟩ := h
        have hle := nxt_le h2
        refine ⟨by rw [List.length_append, e1]; rfl, fun x hx => ?_, by rw [List.length_drop]; omega, fun y hy => e4 y (List.mem_of_mem_drop hy)⟩
        rcases List.mem_append.1 hx with hx | hx
        · exact e2 x hx
        · rw [List.mem_singleton] at hx; subst hx
          exact ⟨by omega, nxt_lt h2 e4⟩
/-- What is written reads back. -/
theorem nxt_pw (x r : List Nat) (hx : x.length < 65536) : ∃ c, nxt (pw x ++ r) = some (c, x, (pw x).length) := by
  unfold pw
  split
  · rename_i h
    refine ⟨x.length, ?_⟩
    have e0 : nth (x.length :: x ++ r) 0 = x.length := rfl
    have eh : hd (x.length :: x ++ r) = 1 := by unfold hd; rw [e0, if_neg (by omega), if_neg (by omega)]
    have es : sz (x.length :: x ++ r) = x.length := by unfold sz; rw [e0, if_pos h]
    rw [nxt_ok _ (by simp) (by rw [e0]; omega) (by rw [eh, es]; simp; omega), e0, eh, es]
    simp; omega
  · rename_i h
    split
    · rename_i h2
      refine ⟨76, ?_⟩
      have e0 : nth (76 :: x.length :: x ++ r) 0 = 76 := rfl
      have e1 : nth (76 :: x.length :: x ++ r) 1 = x.length := rfl
      have eh : hd (76 :: x.length :: x ++ r) = 2 := by unfold hd; rw [e0, if_pos rfl]
      have es : sz (76 :: x.length :: x ++ r) = x.length := by unfold sz; rw [e0, if_neg (by omega), if_pos rfl, e1]
      rw [nxt_ok _ (by simp) (by rw [e0]; omega) (by rw [eh, es]; simp; omega), e0, eh, es]
      simp; omega
    · rename_i h2
      refine ⟨77, ?_⟩
      have e0 : nth (77 :: x.length % 256 :: x.length / 256 % 256 :: x ++ r) 0 = 77 := rfl
      have e1 : nth (77 :: x.length % 256 :: x.length / 256 % 256 :: x ++ r) 1 = x.length % 256 := rfl
      have e2 : nth (77 :: x.length % 256 :: x.length / 256 % 256 :: x ++ r) 2 = x.length / 256 % 256 := rfl
      have eh : hd (77 :: x.length % 256 :: x.length / 256 % 256 :: x ++ r) = 3 := by unfold hd; rw [e0, if_neg (by omega), if_pos rfl]
      have es : sz (77 :: x.length % 256 :: x.length / 256 % 256 :: x ++ r) = x.length := by unfold sz; rw [e0, if_neg (by omega), if_neg (by omega), if_pos rfl, e1, e2]; omega
      rw [nxt_ok _ (by simp) (by rw [e0]; omega) (by rw [eh, es]; simp; omega), e0, eh, es]
      simp; omega
theorem parS_pws (xs : List (List Nat)) (r : List Nat) (hx : ∀ x, x ∈ xs → x.length < 65536) : ∀ k, k ≤ xs.length → parS (pws xs ++ r) k = some (xs.take k, pws (xs.drop k) ++ r)
  | 0, _ => by simp [parS]
  | k + 1, hk => by
    have ih := parS_pws xs r hx k (by omega)
    have hd0 : xs.drop k = xs[k] :: xs.drop (k + 1) := List.drop_eq_getElem_cons (by omega)
    have e : pws (xs.drop k) ++ r = pw xs[k] ++ (pws (xs.drop (k + 1)) ++ r) := by
      rw [hd0]
      show (List.map pw (xs[k] :: _)).flatten ++ r = _
      rw [List.map_cons, List.flatten_cons, List.append_assoc]; rfl
    obtain ⟨c, hc⟩ := nxt_pw xs[k] (pws (xs.drop (k + 1)) ++ r) (hx _ (List.getElem_mem (by omega)))
    rw [e] at ih
    rw [parS_some ih hc, List.drop_left, List.take_add_one, List.getElem?_eq_getElem (by omega)]
    rfl
theorem parS_all (xs : List (List Nat)) (r : List Nat) (hx : ∀ x, x ∈ xs → x.length < 65536) : parS (pws xs ++ r) xs.length = some (xs, r) := by
  rw [parS_pws xs r hx _ (Nat.le_refl _), List.take_length, List.drop_length]; rfl
/-- What Next gives back. -/
def RetN (w : World) (bs : List Nat) (e : Ending) (w' : World) : Prop :=
  (nxt bs = none ∧ e = .returned (.tuple #[.int .u8 0, .slice none 0 0, .int .i64 0, .int .i64 71]) ∧ Below w.heap.size w w') ∨
    ∃ c d u v, nxt bs = some (c, d, u) ∧ e = .returned (.tuple #[.int .u8 ((c : Nat) : Int), v, .int .i64 ((u : Nat) : Int), .int .i64 0]) ∧ PadR w v d w'
theorem RetN.no {w w' : World} {bs : List Nat} (h : nxt bs = none) (hb : Below w.heap.size w w') : RetN w bs (.returned (.tuple #[.int .u8 0, .slice none 0 0, .int .i64 0, .int .i64 71])) w' := Or.inl ⟨h, rfl, hb⟩
theorem RetN.yes {w w' : World} {bs : List Nat} (c : Nat) (d : List Nat) (u : Nat) {v : Value} (h : nxt bs = some (c, d, u)) (hp : PadR w v d w') : RetN w bs (.returned (.tuple #[.int .u8 ((c : Nat) : Int), v, .int .i64 ((u : Nat) : Int), .int .i64 0])) w' := Or.inr ⟨c, d, u, v, h, rfl, hp⟩
theorem RetN.ok {w w' : World} {bs : List Nat} (h0 : ¬ bs.length = 0) (h1 : ¬ (81 ≤ nth bs 0 ∧ nth bs 0 ≤ 96)) (H N : Nat) (hH : hd bs = H) (hN : sz bs = N) (h2 : ¬ bs.length < H + N) (c : Nat) (hc : nth bs 0 = c) {v : Value} (hp : PadR w v ((bs.drop H).take N) w') : RetN w bs (.returned (.tuple #[.int .u8 ((c : Nat) : Int), v, .int .i64 ((H + N : Nat) : Int), .int .i64 0])) w' := by
  subst hH hN hc
  exact RetN.yes _ _ _ (nxt_ok bs h0 h1 h2) hp
theorem RetN.short {w w' : World} {bs : List Nat} (h0 : ¬ bs.length = 0) (h1 : ¬ (81 ≤ nth bs 0 ∧ nth bs 0 ≤ 96)) (H N : Nat) (hH : hd bs = H) (hN : sz bs = N) (h2 : bs.length < H + N) (hb : Below w.heap.size w w') : RetN w bs (.returned (.tuple #[.int .u8 0, .slice none 0 0, .int .i64 0, .int .i64 71])) w' := by
  subst hH hN
  exact RetN.no (nxt_short bs h0 h1 h2) hb
theorem nth_lt (bs : List Nat) (h : ∀ y, y ∈ bs → y < 256) (i : Nat) : nth bs i < 256 := by
  by_cases hi : i < bs.length
  · exact h _ (nth_mem bs i hi)
  · unfold nth; rw [List.getD_eq_getElem?_getD, List.getElem?_eq_none (by omega)]; decide
end Go.Proofs.Ytbjcigokimieoaa
