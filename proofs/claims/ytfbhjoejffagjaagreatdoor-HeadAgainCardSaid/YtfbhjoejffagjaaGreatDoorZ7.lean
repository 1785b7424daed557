/-
  Texts of the claim, put into one file: DigEq, SignEqB.
-/
import Derived.Test.YtfbhjoejffagjaaGreatDoorZ4
import Derived.ChangeKeysEq
import Derived.Laws.StructEq

namespace Go.Proofs.YtfbhjoejffagjaaGreatDoor.DigEq
open Go Go.RowKit Go.Proofs.YtfbhjoejffagjaaGreatDoor Mem Sha Bytes

theorem info8' : (Tryz.prog.info? 5).map (fun i => (i.zero, i.size, i.bytes)) = some (some (.int .u8 0), 1, 1) := by kernel_rfl
theorem info_parts' {P : Program} {e : TypeId} {z : Value} {s b : Nat} (h : (P.info? e).map (fun i => (i.zero, i.size, i.bytes)) = some (some z, s, b)) : ∃ i : TypeInfo, P.info? e = some i ∧ i.zero = some z ∧ i.size = s ∧ i.bytes = b := by
 cases hq : P.info? e with
 | none => simp [hq] at h
 | some i =>
  simp [hq] at h
  exact ⟨i, rfl, h.1, h.2.1, h.2.2⟩
theorem part8 (cs : Array Value) (i : Nat) (v : Value) (hv : cs[i]? = some v) (w : World) : (part 5 cs i).run Tryz.prog w = .ok v w := by
 have hg := run_isAgg_int (P := Tryz.prog) Tryz.underlying5 w
 simp [part, hg, hv, Result.andThen]
theorem items8 (x y : Text) (w : World) : ∀ is : List Nat, (∀ i ∈ is, i < x.length ∧ i < y.length) →
  (Op.eqItems 9999 5 1 (cells8 x).toArray (cells8 y).toArray is).run Tryz.prog w = .ok (is.all fun i => x.getD i 0 == y.getD i 0) w
 | [], _ => rfl
 | i :: is, h => by
  have hi := h i (by simp)
  have e1 : (cells8 x).toArray[i * 1]? = some (cell8 (x.getD i 0)) := by rw [Nat.mul_one, List.getElem?_toArray]; exact cells8_at x i hi.1
  have e2 : (cells8 y).toArray[i * 1]? = some (cell8 (y.getD i 0)) := by rw [Nat.mul_one, List.getElem?_toArray]; exact cells8_at y i hi.2
  have ih := items8 x y w is (fun j hj => h j (by simp [hj]))
  have e3 : (Op.equalIn 9999 5 (cell8 (x.getD i 0)) (cell8 (y.getD i 0))).run Tryz.prog w = .ok (b8 (x.getD i 0) == b8 (y.getD i 0)) w := run_equalIn_int w 9998 _ .u8 .u8 _ _ Tryz.underlying5
  have e4 : (b8 (x.getD i 0) == b8 (y.getD i 0)) = (x.getD i 0 == y.getD i 0) := by
   by_cases hxy : x.getD i 0 = y.getD i 0
   ·rw [hxy]; simp
   ·have : b8 (x.getD i 0) ≠ b8 (y.getD i 0) := fun e => hxy (b8_inj e)
    rw [beq_eq_false_iff_ne.2 hxy, beq_eq_false_iff_ne.2 this]
  rw [e4] at e3
  simp only [Op.eqItems, Sem.run_bind, part8 _ _ _ e1, part8 _ _ _ e2, e3, Result.andThen_ok, List.all_cons]
  cases hb : (x.getD i 0 == y.getD i 0)
  ·simp
  ·simpa using ih
theorem all_eq (x y : Text) (hx : x.length = 32) (hy : y.length = 32) : ((List.range 32).all fun i => x.getD i 0 == y.getD i 0) = decide (x = y) := by
 by_cases h : x = y
 ·subst h
  simp
 ·rw [decide_eq_false h]
  refine Bool.eq_false_iff.2 fun ha => h ?_
  apply List.ext_getElem (by omega)
  intro i h1 h2
  have := List.all_eq_true.1 ha i (List.mem_range.2 (by omega))
  simpa [List.getD, h1, h2] using this
theorem equal_dig (x y : Text) (hx : x.length = 32) (hy : y.length = 32) (w : World) : (Op.equalIn 10000 34 (.agg (cells8 x).toArray) (.agg (cells8 y).toArray)).run Tryz.prog w = .ok (decide (x = y)) w := by
 obtain ⟨i0, hi, _, hs, _⟩ := info_parts' info8'
 have hc : Tryz.prog.cellsOf 5 = 1 := by kernel_rfl
 rw [run_equalIn_array w 9999 _ _ Tryz.underlying34 hi, hc, items8 x y w _ (fun i hi => by have := List.mem_range.1 hi; omega), all_eq x y hx hy]
theorem eql_dig (x y : Text) (hx : x.length = 32) (hy : y.length = 32) (w : World) : (binOp .eql 34 (.agg (cells8 x).toArray) (.agg (cells8 y).toArray)).run Tryz.prog w = .ok (.bool (decide (x = y))) w := by
 rw [run_eql_struct w, equal_dig x y hx hy]
 rfl
theorem neq_dig (x y : Text) (hx : x.length = 32) (hy : y.length = 32) (w : World) : (binOp .neq 34 (.agg (cells8 x).toArray) (.agg (cells8 y).toArray)).run Tryz.prog w = .ok (.bool (!decide (x = y))) w := by
 rw [run_neq_struct w, equal_dig x y hx hy]
 rfl
end Go.Proofs.YtfbhjoejffagjaaGreatDoor.DigEq

namespace Go.Proofs.YtfbhjoejffagjaaGreatDoor.SignEq
open Go Go.RowKit Go.Proofs.YtfbhjoejffagjaaGreatDoor Mem Sha Bytes DigEq

theorem items_d (d : Nat) (x y : Text) (w : World) : ∀ is : List Nat, (∀ i ∈ is, i < x.length ∧ i < y.length) →
  (Op.eqItems (d + 1) 5 1 (cells8 x).toArray (cells8 y).toArray is).run Tryz.prog w = .ok (is.all fun i => x.getD i 0 == y.getD i 0) w
 | [], _ => rfl
 | i :: is, h => by
  have hi := h i (by simp)
  have e1 : (cells8 x).toArray[i * 1]? = some (cell8 (x.getD i 0)) := by rw [Nat.mul_one, List.getElem?_toArray]; exact cells8_at x i hi.1
  have e2 : (cells8 y).toArray[i * 1]? = some (cell8 (y.getD i 0)) := by rw [Nat.mul_one, List.getElem?_toArray]; exact cells8_at y i hi.2
  have ih := items_d d x y w is (fun j hj => h j (by simp [hj]))
  have e3 : (Op.equalIn (d + 1) 5 (cell8 (x.getD i 0)) (cell8 (y.getD i 0))).run Tryz.prog w = .ok (b8 (x.getD i 0) == b8 (y.getD i 0)) w := run_equalIn_int w d _ .u8 .u8 _ _ Tryz.underlying5
  have e4 : (b8 (x.getD i 0) == b8 (y.getD i 0)) = (x.getD i 0 == y.getD i 0) := by
   by_cases hxy : x.getD i 0 = y.getD i 0
   ·rw [hxy]; simp
   ·have : b8 (x.getD i 0) ≠ b8 (y.getD i 0) := fun e => hxy (b8_inj e)
    rw [beq_eq_false_iff_ne.2 hxy, beq_eq_false_iff_ne.2 this]
  rw [e4] at e3
  simp only [Op.eqItems, Sem.run_bind, part8 _ _ _ e1, part8 _ _ _ e2, e3, Result.andThen_ok, List.all_cons]
  cases hb : (x.getD i 0 == y.getD i 0)
  ·simp
  ·simpa using ih
theorem equal_d (d : Nat) (x y : Text) (hx : x.length = 32) (hy : y.length = 32) (w : World) : (Op.equalIn (d + 2) 34 (.agg (cells8 x).toArray) (.agg (cells8 y).toArray)).run Tryz.prog w = .ok (decide (x = y)) w := by
 obtain ⟨i0, hi, _, hs, _⟩ := info_parts' info8'
 have hc : Tryz.prog.cellsOf 5 = 1 := by kernel_rfl
 rw [run_equalIn_array w (d + 1) _ _ Tryz.underlying34 hi, hc, items_d d x y w _ (fun i hi => by have := List.mem_range.1 hi; omega), all_eq x y hx hy]
theorem part_dig (cs : List Value) (off : Nat) (x : Text) (hx : x.length = 32) (hc : ∀ j v, (cells8 x)[j]? = some v → cs[off + j]? = some v) (w : World) : (part 34 cs.toArray off).run Tryz.prog w = .ok (.agg (cells8 x).toArray) w := by
 have hagg : (isAgg 34).run Tryz.prog w = .ok true w := by
  unfold isAgg
  rw [Sem.run_bind, run_underlying Tryz.underlying34 w]
  rfl
 have hs : (sizeOf 34).run Tryz.prog w = .ok 32 w := by
  have h31 := size31
  cases hq : Tryz.prog.info? 34 with
  | none => simp [hq] at h31
  | some i =>
   have hi : i.size = 32 := by simpa [hq] using h31
   simp [sizeOf, typeInfo, hq, hi]
 have he : cs.toArray.extract off (off + 32) = (cells8 x).toArray := by
  apply Array.ext_getElem?
  intro j
  rw [Array.getElem?_extract, List.getElem?_toArray]
  by_cases hj : j < 32
  ·have h1 : (cells8 x)[j]? = some _ := List.getElem?_eq_getElem (by rw [cells8_len]; omega)
   have h2 := hc j _ h1
   have h3 := (List.getElem?_eq_some_iff.1 h2).1
   rw [List.getElem?_toArray, h1, h2, if_pos (by simp; omega)]
  ·rw [if_neg (by simp; omega), List.getElem?_toArray, List.getElem?_eq_none (by rw [cells8_len]; omega)]
 simp only [part, Sem.run_bind, hagg, Result.andThen_ok, if_true, hs, Sem.run_pure, he]
theorem half_a (x : Text) (j : Nat) (v : Value) (hv : (cells8 (x.take 32))[j]? = some v) : (cells8 x)[0 + j]? = some v := by
 rw [Nat.zero_add]
 simp only [cells8, List.getElem?_map, List.getElem?_take] at hv ⊢
 by_cases hj : j < 32
 ·rwa [if_pos hj] at hv
 ·rw [if_neg hj] at hv
  cases hv
theorem half_b (x : Text) (j : Nat) (v : Value) (hv : (cells8 (x.drop 32))[j]? = some v) : (cells8 x)[32 + j]? = some v := by
 simpa [cells8, List.getElem?_map, List.getElem?_drop] using hv
theorem half_eq (x y : Text) : (x = y) ↔ (x.take 32 = y.take 32 ∧ x.drop 32 = y.drop 32) := by
 constructor
 ·rintro rfl
  exact ⟨rfl, rfl⟩
 ·rintro ⟨h1, h2⟩
  rw [← List.take_append_drop 32 x, ← List.take_append_drop 32 y, h1, h2]
theorem step_two {P : Program} {w : World} (dd : Nat) (cs ds : Array Value) (f : Field) (rest : List Field) (a b : Value) (r s : Bool) (hn : f.name ≠ "_") (hp : (part f.type cs f.offset).run P w = .ok a w) (hq : (part f.type ds f.offset).run P w = .ok b w) (he : (Op.equalIn dd f.type a b).run P w = .ok r w)
  (hr : (Op.eqFields dd cs ds rest).run P w = .ok s w) : (Op.eqFields dd cs ds (f :: rest)).run P w = .ok (r && s) w := by
 simp only [Op.eqFields, hn, ne_eq, not_false_eq_true, if_true, Sem.run_bind, hp, hq, he, Result.andThen_ok]
 cases r
 ·simp
 ·simpa using hr
theorem equal_sign (d : Nat) (x y : Text) (hx : x.length = 64) (hy : y.length = 64) (w : World) : (Op.equalIn (d + 2 + 1) 56 (.agg (cells8 x).toArray) (.agg (cells8 y).toArray)).run Tryz.prog w = .ok (decide (x = y)) w := by
 have hu : Tryz.prog.underlying 56 = some (.struct (Tryz.prog.fieldsOf 56)) := by unfold Program.fieldsOf; rw [Tryz.underlying56]
 have hp : Tryz.prog.stoodInHeld 56 = false := by kernel_rfl
 rw [run_equalIn_agg w (d + 2) _ _ _ hu hp]
 have p1 := part_dig (cells8 x) 0 (x.take 32) (by simp [hx]) (half_a x) w
 have p2 := part_dig (cells8 y) 0 (y.take 32) (by simp [hy]) (half_a y) w
 have p3 := part_dig (cells8 x) 32 (x.drop 32) (by simp [hx]) (half_b x) w
 have p4 := part_dig (cells8 y) 32 (y.drop 32) (by simp [hy]) (half_b y) w
 have e1 := equal_d d (x.take 32) (y.take 32) (by simp [hx]) (by simp [hy]) w
 have e2 := equal_d d (x.drop 32) (y.drop 32) (by simp [hx]) (by simp [hy]) w
 have hh := half_eq x y
 generalize cells8 x = cs at *
 generalize cells8 y = ds at *
 generalize x.take 32 = xa at *
 generalize x.drop 32 = xb at *
 generalize y.take 32 = ya at *
 generalize y.drop 32 = yb at *
 unfold Program.fieldsOf
 rw [Tryz.underlying56]
 change (Op.eqFields (d + 2) cs.toArray ds.toArray (_ :: _ :: [])).run Tryz.prog w = _
 have hd : decide (x = y) = (decide (xa = ya) && (decide (xb = yb) && true)) := by rw [Bool.and_true, ← Bool.decide_and]; exact decide_eq_decide.2 hh
 rw [hd]
 refine step_two _ _ _ _ _ _ _ _ _ (by decide) p1 p2 e1 ?_
 exact step_two _ _ _ _ _ _ _ _ _ (by decide) p3 p4 e2 rfl
theorem sign_fa (x y : Text) (hx : x.length = 64) (hy : y.length = 64) (w : World) : (Op.equalIn 9999 34 (.agg (List.take 32 (cells8 x)).toArray) (.agg (List.take 32 (cells8 y)).toArray)).run Tryz.prog w = .ok (decide (x.take 32 = y.take 32)) w := by
 have e : ∀ z : Text, List.take 32 (cells8 z) = cells8 (z.take 32) := fun z => by simp [cells8, List.map_take]
 rw [e, e]
 exact equal_d 9997 _ _ (by simp [hx]) (by simp [hy]) w
theorem sign_fb (x y : Text) (hx : x.length = 64) (hy : y.length = 64) (w : World) : (Op.equalIn 9999 34 (.agg (List.take 32 (List.drop 32 (cells8 x))).toArray) (.agg (List.take 32 (List.drop 32 (cells8 y))).toArray)).run Tryz.prog w = .ok (decide (x.drop 32 = y.drop 32)) w := by
 have e : ∀ z : Text, z.length = 64 → List.take 32 (List.drop 32 (cells8 z)) = cells8 (z.drop 32) := fun z hz => by
  rw [List.take_of_length_le (by rw [List.length_drop, cells8_len, hz]; omega)]
  simp [cells8, List.map_drop]
 rw [e x hx, e y hy]
 exact equal_d 9997 _ _ (by simp [hx]) (by simp [hy]) w
theorem neq_sign (x y : Text) (hx : x.length = 64) (hy : y.length = 64) (w : World) : (binOp .neq 56 (.agg (cells8 x).toArray) (.agg (cells8 y).toArray)).run Tryz.prog w = .ok (.bool (!decide (x = y))) w := by
 have e := equal_sign 9997 x y hx hy w
 rw [run_neq_struct w, e]
 rfl
end Go.Proofs.YtfbhjoejffagjaaGreatDoor.SignEq
