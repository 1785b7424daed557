/-
  Texts of the claim, put into one file: HeadEq.
-/
import Derived.Test.YtfbhjoejffagjaaGreatDoorZ16
import Derived.Laws.StructEq
import Derived.ChangeKeysEq

namespace Go.Proofs.YtfbhjoejffagjaaGreatDoor.HeadEq
open Go Go.RowKit Go.Proofs.YtfbhjoejffagjaaGreatDoor Mem Sha Bytes HeadMem HeadTake

theorem part8 (cs : Array Value) (i : Nat) (v : Value) (hv : cs[i]? = some v) (w : World) : (part 5 cs i).run Tryz.prog w = .ok v w := by
 have hg := run_isAgg_int (P := Tryz.prog) Tryz.underlying5 w
 simp [part, hg, hv, Result.andThen]
theorem part64 (cs : Array Value) (i : Nat) (v : Value) (hv : cs[i]? = some v) (w : World) : (part 3 cs i).run Tryz.prog w = .ok v w := by
 have hg := run_isAgg_int (P := Tryz.prog) Tryz.underlying3 w
 simp [part, hg, hv, Result.andThen]
theorem items_refl (d : Nat) (x : Text) (w : World) : ∀ is : List Nat, (∀ i ∈ is, i < x.length) →
  (Op.eqItems (d + 1) 5 1 (cells8 x).toArray (cells8 x).toArray is).run Tryz.prog w = .ok true w
 | [], _ => rfl
 | i :: is, h => by
  have hi := h i (by simp)
  have e1 : (cells8 x).toArray[i * 1]? = some (cell8 (x.getD i 0)) := by rw [Nat.mul_one, List.getElem?_toArray]; exact cells8_at x i hi
  have ih := items_refl d x w is (fun j hj => h j (by simp [hj]))
  have e3 : (Op.equalIn (d + 1) 5 (cell8 (x.getD i 0)) (cell8 (x.getD i 0))).run Tryz.prog w = .ok (b8 (x.getD i 0) == b8 (x.getD i 0)) w := run_equalIn_int w d _ .u8 .u8 _ _ Tryz.underlying5
  rw [beq_self_eq_true] at e3
  simp only [Op.eqItems, Sem.run_bind, part8 _ _ _ e1, e3, Result.andThen_ok]
  simpa using ih
theorem refl_dig (d : Nat) (x : Text) (hx : x.length = 32) (w : World) : (Op.equalIn (d + 2) 34 (.agg (cells8 x).toArray) (.agg (cells8 x).toArray)).run Tryz.prog w = .ok true w := by
 obtain ⟨i0, hi, _, hs, _⟩ := info_parts8 info8
 have hc : Tryz.prog.cellsOf 5 = 1 := by kernel_rfl
 rw [run_equalIn_array w (d + 1) _ _ Tryz.underlying34 hi, hc, items_refl d x w _ (fun i hi => by have := List.mem_range.1 hi; omega)]
theorem part_dig (cs : List Value) (off : Nat) (x : Text) (hx : x.length = 32) (hc : ∀ j v, (cells8 x)[j]? = some v → cs[off + j]? = some v) (w : World) : (part 34 cs.toArray off).run Tryz.prog w = .ok (.agg (cells8 x).toArray) w := by
 have hagg : (isAgg 34).run Tryz.prog w = .ok true w := by
  unfold isAgg
  rw [Sem.run_bind, run_underlying Tryz.underlying34 w]
  rfl
 have hs : (sizeOf 34).run Tryz.prog w = .ok 32 w := by
  have h31 := size31
  cases hq : Tryz.prog.info? 34 with
  | none => simp [hq] at h31
  | some i =>
   have hi : i.size = 32 := by simpa [hq] using h31
   simp [sizeOf, typeInfo, hq, hi]
 have he : cs.toArray.extract off (off + 32) = (cells8 x).toArray := by
  apply Array.ext_getElem?
  intro j
  rw [Array.getElem?_extract, List.getElem?_toArray]
  by_cases hj : j < 32
  ·have h1 : (cells8 x)[j]? = some _ := List.getElem?_eq_getElem (by rw [cells8_len]; omega)
   have h2 := hc j _ h1
   have h3 := (List.getElem?_eq_some_iff.1 h2).1
   rw [List.getElem?_toArray, h1, h2, if_pos (by simp; omega)]
  ·rw [if_neg (by simp; omega), List.getElem?_toArray, List.getElem?_eq_none (by rw [cells8_len]; omega)]
 simp only [part, Sem.run_bind, hagg, Result.andThen_ok, if_true, hs, Sem.run_pure, he]
theorem step_field {P : Program} {w : World} (dd : Nat) (cs : Array Value) (f : Field) (rest : List Field) (a : Value) (hn : f.name ≠ "_") (hp : (part f.type cs f.offset).run P w = .ok a w) (he : (Op.equalIn dd f.type a a).run P w = .ok true w)
  (hr : (Op.eqFields dd cs cs rest).run P w = .ok true w) : (Op.eqFields dd cs cs (f :: rest)).run P w = .ok true w := by
 simp only [Op.eqFields, hn, ne_eq, not_false_eq_true, if_true, Sem.run_bind, hp, he, Result.andThen_ok]
 simpa using hr
theorem fields_refl (d : Nat) (h : HeadD) (ok : h.Ok) (w : World) : (Op.eqFields (d + 2) (headCells h).toArray (headCells h).toArray (Tryz.prog.fieldsOf 36).toList).run Tryz.prog w = .ok true w := by
 have e2 := part64 (headCells h).toArray 32 _ (by rw [List.getElem?_toArray]; exact headCells_size ok) w
 have e5 := part64 (headCells h).toArray 97 _ (by rw [List.getElem?_toArray]; exact headCells_clock ok) w
 have e1 := part_dig (headCells h) 0 h.log ok.log (fun j v hv => headCells_log j v hv) w
 have e3 := part_dig (headCells h) 33 h.root ok.root (fun j v hv => headCells_root ok j v hv) w
 have e4 := part_dig (headCells h) 65 h.index ok.index (fun j v hv => headCells_index ok j v hv) w
 have d1 := refl_dig d h.log ok.log w
 have d3 := refl_dig d h.root ok.root w
 have d4 := refl_dig d h.index ok.index w
 have i2 : (Op.equalIn (d + 2) 3 (.int .i64 h.size) (.int .i64 h.size)).run Tryz.prog w = .ok (h.size == h.size) w := run_equalIn_int w (d + 1) _ .i64 .i64 _ _ Tryz.underlying3
 have i5 : (Op.equalIn (d + 2) 3 (.int .i64 h.clock) (.int .i64 h.clock)).run Tryz.prog w = .ok (h.clock == h.clock) w := run_equalIn_int w (d + 1) _ .i64 .i64 _ _ Tryz.underlying3
 rw [beq_self_eq_true] at i2 i5
 generalize headCells h = cs at *
 unfold Program.fieldsOf
 rw [Tryz.underlying36]
 change (Op.eqFields (d + 2) cs.toArray cs.toArray (_ :: _ :: _ :: _ :: _ :: [])).run Tryz.prog w = _
 refine step_field _ _ _ _ _ (by decide) e1 d1 ?_
 refine step_field _ _ _ _ _ (by decide) e2 i2 ?_
 refine step_field _ _ _ _ _ (by decide) e3 d3 ?_
 refine step_field _ _ _ _ _ (by decide) e4 d4 ?_
 exact step_field _ _ _ _ _ (by decide) e5 i5 rfl
theorem equal_head (d : Nat) (h : HeadD) (ok : h.Ok) (w : World) : (Op.equalIn (d + 2 + 1) 36 (.agg (headCells h).toArray) (.agg (headCells h).toArray)).run Tryz.prog w = .ok true w := by
 have hu : Tryz.prog.underlying 36 = some (.struct (Tryz.prog.fieldsOf 36)) := by unfold Program.fieldsOf; rw [Tryz.underlying36]
 have hp : Tryz.prog.stoodInHeld 36 = false := by kernel_rfl
 rw [run_equalIn_agg w (d + 2) _ _ _ hu hp]
 exact fields_refl d h ok w
theorem eql_head (h : HeadD) (ok : h.Ok) (w : World) : (binOp .eql 36 (.agg (headCells h).toArray) (.agg (headCells h).toArray)).run Tryz.prog w = .ok (.bool true) w := by
 have e := equal_head 9997 h ok w
 rw [run_eql_struct w, e]
 rfl
end Go.Proofs.YtfbhjoejffagjaaGreatDoor.HeadEq
