/-
  Deeds: as values, when they are the same, when they can be; what a lock of one is. Plain but for the equality.
-/
import Derived.Test.YtbjcigokimieoaaTe
import Derived.DeepKeys
namespace Go.Proofs.Ytbjcigokimieoaa
open Go.RowKit

/-- A deed. -/
structure Dd where
  kd : Int
  nm : ByteArray
  vl : ByteArray
  rd : ByteArray
  cm : List Nat
@[reducible] def dcells (d : Dd) : Array Value := #[.int .i64 d.kd, .string d.nm, .string d.vl, .string d.rd, .int .u8 ((nth d.cm 0 : Nat) : Int), .int .u8 ((nth d.cm 1 : Nat) : Int), .int .u8 ((nth d.cm 2 : Nat) : Int), .int .u8 ((nth d.cm 3 : Nat) : Int), .int .u8 ((nth d.cm 4 : Nat) : Int), .int .u8 ((nth d.cm 5 : Nat) : Int), .int .u8 ((nth d.cm 6 : Nat) : Int), .int .u8 ((nth d.cm 7 : Nat) : Int), .int .u8 ((nth d.cm 8 : Nat) : Int), .int .u8 ((nth d.cm 9 : Nat) : Int), .int .u8 ((nth d.cm 10 : Nat) : Int), .int .u8 ((nth d.cm 11 : Nat) : Int), .int .u8 ((nth d.cm 12 : Nat) : Int), .int .u8 ((nth d.cm 13 : Nat) : Int), .int .u8 ((nth d.cm 14 : Nat) : Int), .int .u8 ((nth d.cm 15 : Nat) : Int), .int .u8 ((nth d.cm 16 : Nat) : Int), .int .u8 ((nth d.cm 17 : Nat) : Int), .int .u8 ((nth d.cm 18 : Nat) : Int), .int .u8 ((nth d.cm 19 : Nat) : Int)]
theorem cm_part (l : List Nat) (h : l.length = 20) : (wcells .u8 l).toList = ((dcells ⟨0, .empty, .empty, .empty, l⟩).toList.drop 4).take 20 := by
  match l, h with
  | [_, _, _, _, _, _, _, _, _, _, _, _, _, _, _, _, _, _, _, _], _ => rfl
theorem cm_part' (d : Dd) (h : d.cm.length = 20) : ((dcells d).toList.drop 4).take 20 = (wcells .u8 d.cm).toList := by rw [cm_part d.cm h]; rfl
theorem dcells_one (d : Dd) : (dcells d).all (·.oneCell') = true := by simp [Value.oneCell']
def noCm : List Nat := List.replicate 20 0
/-- The deed that tells nothing. -/
def noDd : Dd := ⟨0, .empty, .empty, .empty, noCm⟩

theorem run_eql_array_d {P : Program} (w : World) (d : Nat) {t e : TypeId} {n : Nat} {k : IntKind} {i : TypeInfo} (hu : P.underlying t = some (.array n e)) (he : P.underlying e = some (.int k)) (hi : P.info? e = some i) (hc : P.cellsOf e = 1)
    (f g : Nat → Int) (xs ys : Array Value) (hx : ∀ j, j < n → xs[j]? = some (.int k (f j))) (hy : ∀ j, j < n → ys[j]? = some (.int k (g j))) :
    (Op.equalIn (d + 2) t (.agg xs) (.agg ys)).run P w = .ok (alike n f g) w := by
  rw [run_equalIn_array w (d + 1) xs ys hu hi, hc]
  exact run_eqItems_ints w d he f g xs ys _ (fun j hj => hx j (by simpa using hj)) (fun j hj => hy j (by simpa using hj))
theorem eql_short_d (d : Nat) (a b : List Nat) (ha : a.length = 20) (hb : b.length = 20) (w : World) : (Op.equalIn (d + 2) 27 (.agg (wcells .u8 a)) (.agg (wcells .u8 b))).run Try.prog w = .ok (heq a b) w := by
  obtain ⟨i, hi⟩ := Option.isSome_iff_exists.1 u8_info
  have := run_eql_array_d w d Try.underlying27 Try.underlying5 hi u8_cells (fun i => ((nth a i : Nat) : Int)) (fun i => ((nth b i : Nat) : Int)) _ _ (fun j hj => wcells_get .u8 a j (by omega)) (fun j hj => wcells_get .u8 b j (by omega))
  rw [alike_lists 20 a b ha hb] at this
  exact this
theorem deed_guard : Try.prog.eqGuardType Try.prog.depth 29 = false := by kernel_rfl

theorem deed_stood : Try.prog.stoodInHeld 29 = false := by kernel_rfl
theorem part_cell (w : World) (t : TypeId) (xs : Array Value) (o : Nat) (v : Value) (ht : (isAgg t).run Try.prog w = .ok false w) (hv : xs[o]? = some v) : (part t xs o).run Try.prog w = .ok v w := by
  unfold part
  obtain ⟨h1, h2⟩ := Array.getElem?_eq_some_iff.1 hv
  simp [Sem.run_bind, ht, h1, h2]
theorem agg_no {t : TypeId} {d : TypeDesc} (h : Try.prog.underlying t = some d) (hd : (match d with | .struct _ | .array _ _ => false | _ => true) = true) (w : World) : (isAgg t).run Try.prog w = .ok false w := by
  unfold isAgg
  rw [Sem.run_bind, run_underlying h w]
  cases d <;> simp at hd ⊢
theorem part_short (w : World) (xs : Array Value) (o : Nat) (l : List Nat) (hl : l.length = 20) (hx : (xs.toList.drop o).take 20 = (wcells .u8 l).toList) : (part 27 xs o).run Try.prog w = .ok (.agg (wcells .u8 l)) w := by
  have ha : (isAgg 27).run Try.prog w = .ok true w := by
    unfold isAgg; rw [Sem.run_bind, run_underlying Try.underlying27 w]; rfl
  have hs : (Go.sizeOf 27).run Try.prog w = .ok 20 w := Try.sizeOf27 w
  have e : xs.extract o (o + 20) = wcells .u8 l := by
    apply Array.toList_inj.1
    rw [Array.toList_extract, ← hx]
    simp [List.extract]
  unfold part
  simp [ha, hs, e]
theorem deed_fields : ∃ f0 f1 f2 f3 f4 : Field, (Try.prog.fieldsOf 29).toList = [f0, f1, f2, f3, f4] ∧ (f0.name ≠ "_" ∧ f0.type = 3 ∧ f0.offset = 0) ∧ (f1.name ≠ "_" ∧ f1.type = 9 ∧ f1.offset = 1) ∧ (f2.name ≠ "_" ∧ f2.type = 9 ∧ f2.offset = 2) ∧ (f3.name ≠ "_" ∧ f3.type = 9 ∧ f3.offset = 3) ∧ (f4.name ≠ "_" ∧ f4.type = 27 ∧ f4.offset = 4) :=
  ⟨_, _, _, _, _, rfl, ⟨by decide, rfl, rfl⟩, ⟨by decide, rfl, rfl⟩, ⟨by decide, rfl, rfl⟩, ⟨by decide, rfl, rfl⟩, ⟨by decide, rfl, rfl⟩⟩
theorem eqFields_cons {P : Program} (d : Nat) (xs ys : Array Value) (f : Field) (fs : List Field) (w : World) (hn : f.name ≠ "_") {a b : Value} {r q : Bool} (ha : (part f.type xs f.offset).run P w = .ok a w) (hb : (part f.type ys f.offset).run P w = .ok b w) (hr : (Op.equalIn d f.type a b).run P w = .ok r w) (hq : (Op.eqFields d xs ys fs).run P w = .ok q w) :
    (Op.eqFields d xs ys (f :: fs)).run P w = .ok (r && q) w := by
  simp only [Op.eqFields, hn, ne_eq, not_false_eq_true, if_true, Sem.run_bind, ha, hb, hr, Result.andThen_ok]
  cases r <;> simp [hq]
theorem eql_deed_raw (a b : Dd) (ha : a.cm.length = 20) (hb : b.cm.length = 20) (w : World) : (Op.equalIn 10000 29 (.agg (dcells a)) (.agg (dcells b))).run Try.prog w = .ok ((a.kd == b.kd) && ((a.nm.toList == b.nm.toList) && ((a.vl.toList == b.vl.toList) && ((a.rd.toList == b.rd.toList) && (heq a.cm b.cm && true))))) w := by
  rw [run_equalIn_struct w 9999 29 (dcells a) (dcells b) Try.underlying29 deed_stood]
  obtain ⟨f0, f1, f2, f3, f4, hfs, ⟨n0, t0, o0⟩, ⟨n1, t1, o1⟩, ⟨n2, t2, o2⟩, ⟨n3, t3, o3⟩, ⟨n4, t4, o4⟩⟩ := deed_fields
  rw [hfs]
  have i := agg_no Try.underlying3 rfl
  have s := agg_no Try.underlying9 rfl
  refine eqFields_cons _ _ _ _ _ w n0 (a := .int .i64 a.kd) (b := .int .i64 b.kd) (by rw [t0, o0]; exact part_cell w _ _ _ _ (i w) rfl) (by rw [t0, o0]; exact part_cell w _ _ _ _ (i w) rfl) (by rw [t0]; exact run_equalIn_int w 9998 _ _ _ _ _ Try.underlying3) ?_
  refine eqFields_cons _ _ _ _ _ w n1 (a := .string a.nm) (b := .string b.nm) (by rw [t1, o1]; exact part_cell w _ _ _ _ (s w) rfl) (by rw [t1, o1]; exact part_cell w _ _ _ _ (s w) rfl) (by rw [t1]; exact run_equalIn_string w 9998 _ _ _ Try.underlying9) ?_
  refine eqFields_cons _ _ _ _ _ w n2 (a := .string a.vl) (b := .string b.vl) (by rw [t2, o2]; exact part_cell w _ _ _ _ (s w) rfl) (by rw [t2, o2]; exact part_cell w _ _ _ _ (s w) rfl) (by rw [t2]; exact run_equalIn_string w 9998 _ _ _ Try.underlying9) ?_
  refine eqFields_cons _ _ _ _ _ w n3 (a := .string a.rd) (b := .string b.rd) (by rw [t3, o3]; exact part_cell w _ _ _ _ (s w) rfl) (by rw [t3, o3]; exact part_cell w _ _ _ _ (s w) rfl) (by rw [t3]; exact run_equalIn_string w 9998 _ _ _ Try.underlying9) ?_
  refine eqFields_cons _ _ _ _ _ w n4 (by rw [t4, o4]; exact part_short w _ _ a.cm ha (cm_part' a ha)) (by rw [t4, o4]; exact part_short w _ _ b.cm hb (cm_part' b hb)) (by rw [t4]; exact eql_short_d 9997 a.cm b.cm ha hb w) ?_
  rfl
theorem toList_inj' {s u : ByteArray} : (s.toList == u.toList) = true ↔ s = u := by
  simp [ByteArray.toList_eq]
  exact ⟨fun h => ByteArray.ext h, fun h => by rw [h]⟩
theorem eql_deed_t (a b : Dd) (ha : a.cm.length = 20) (hb : b.cm.length = 20) (h : a = b) (w : World) : (Op.equalIn 10000 29 (.agg (dcells a)) (.agg (dcells b))).run Try.prog w = .ok true w := by
  subst h
  rw [eql_deed_raw a a ha hb w]
  simp [heq]
theorem eql_deed_f (a b : Dd) (ha : a.cm.length = 20) (hb : b.cm.length = 20) (h : a ≠ b) (w : World) : (Op.equalIn 10000 29 (.agg (dcells a)) (.agg (dcells b))).run Try.prog w = .ok false w := by
  rw [eql_deed_raw a b ha hb w]
  congr 1
  refine Bool.eq_false_iff.2 (fun e => h ?_)
  simp only [Bool.and_eq_true, beq_iff_eq, heq, decide_eq_true_eq] at e
  obtain ⟨e1, e2, e3, e4, e5, -⟩ := e
  obtain ⟨k, n, v, r, c⟩ := a
  obtain ⟨k', n', v', r', c'⟩ := b
  simp only at e1 e2 e3 e4 e5
  obtain rfl := e1
  obtain rfl := toList_inj'.1 (by simpa using e2)
  obtain rfl := toList_inj'.1 (by simpa using e3)
  obtain rfl := toList_inj'.1 (by simpa using e4)
  obtain rfl := e5
  rfl

/-- Does a deed tell a name? -/
def Dd.named (d : Dd) : Prop := d.kd = 2 ∨ d.kd = 3
/-- Can a deed be? -/
def Dd.right (d : Dd) : Prop :=
  (d.kd = 0 ∧ d.nm.size = 0 ∧ d.vl.size = 0 ∧ d.rd.size = 0 ∧ d.cm = noCm) ∨ (d.kd = 1 ∧ d.nm.size = 0 ∧ d.vl.size = 0 ∧ d.rd.size = 0) ∨
    (d.kd = 2 ∧ 1 ≤ d.nm.size ∧ d.nm.size ≤ 64 ∧ 1 ≤ d.rd.size ∧ d.rd.size ≤ 32 ∧ d.vl.size ≤ 200 ∧ d.cm = noCm) ∨ (d.kd = 3 ∧ 1 ≤ d.nm.size ∧ d.nm.size ≤ 64 ∧ d.rd.size = 0 ∧ d.vl.size ≤ 200 ∧ d.cm = noCm)
/-- A deed's words. -/
def Dd.words (d : Dd) : List Nat :=
  if d.kd = 1 then [81] ++ pws [d.cm] ++ [109] else if d.kd = 2 then [82] ++ pws [sb d.nm, sb d.rd, sb d.vl] ++ [109, 109] else if d.kd = 3 then [83] ++ pws [sb d.nm, sb d.vl] ++ [109, 117] else []
/-- Do bytes seem to say something of a name? -/
def Says (b : List Nat) : Prop := b.length ≠ 0 ∧ 81 ≤ nth b 0 ∧ nth b 0 ≤ 83
theorem size0 {s : ByteArray} (h : s.size = 0) : s = .empty := by
  apply ByteArray.ext
  exact Array.eq_empty_of_size_eq_zero h
end Go.Proofs.Ytbjcigokimieoaa
