/-
  Texts of the claim, put into one file: DigEq, StructEq.
-/
import Derived.Test.YthkdlaohaekilaaDoorZ3
import Derived.ChangeKeysEq
import Derived.Laws.StructEq

namespace Go.Proofs.YthkdlaohaekilaaDoor.DigEq
open Go Go.RowKit Go.Proofs.YthkdlaohaekilaaDoor Go.Proofs.YthkdlaohaekilaaDoor.Mem Go.Proofs.YthkdlaohaekilaaDoor.Sha Go.Proofs.YthkdlaohaekilaaDoor.Bytes

theorem info8' : (Tryd.prog.info? 5).map (fun i => (i.zero, i.size, i.bytes)) = some (some (.int .u8 0), 1, 1) := by kernel_rfl
theorem info_parts' {P : Program} {e : TypeId} {z : Value} {s b : Nat} (h : (P.info? e).map (fun i => (i.zero, i.size, i.bytes)) = some (some z, s, b)) : ∃ i : TypeInfo, P.info? e = some i ∧ i.zero = some z ∧ i.size = s ∧ i.bytes = b := by
  cases hq : P.info? e with
  | none => simp [hq] at h
  | some i =>
    simp [hq] at h
    exact ⟨i, rfl, h.1, h.2.1, h.2.2⟩
theorem part8 (cs : Array Value) (i : Nat) (v : Value) (hv : cs[i]? = some v) (w : World) : (part 5 cs i).run Tryd.prog w = .ok v w := by
  have hg := run_isAgg_int (P := Tryd.prog) Tryd.underlying5 w
  simp [part, hg, hv, Result.andThen]
theorem items8 (x y : Text) (w : World) : ∀ is : List Nat, (∀ i ∈ is, i < x.length ∧ i < y.length) →
    (Op.eqItems 9999 5 1 (cells8 x).toArray (cells8 y).toArray is).run Tryd.prog w = .ok (is.all fun i => x.getD i 0 == y.getD i 0) w
  | [], _ => rfl
  | i :: is, h => by
    have hi := h i (by simp)
    have e1 : (cells8 x).toArray[i * 1]? = some (cell8 (x.getD i 0)) := by rw [Nat.mul_one, List.getElem?_toArray]; exact cells8_at x i hi.1
    have e2 : (cells8 y).toArray[i * 1]? = some (cell8 (y.getD i 0)) := by rw [Nat.mul_one, List.getElem?_toArray]; exact cells8_at y i hi.2
    have ih := items8 x y w is (fun j hj => h j (by simp [hj]))
    have e3 : (Op.equalIn 9999 5 (cell8 (x.getD i 0)) (cell8 (y.getD i 0))).run Tryd.prog w = .ok (b8 (x.getD i 0) == b8 (y.getD i 0)) w := run_equalIn_int w 9998 _ .u8 .u8 _ _ Tryd.underlying5
    have e4 : (b8 (x.getD i 0) == b8 (y.getD i 0)) = (x.getD i 0 == y.getD i 0) := by
      by_cases hxy : x.getD i 0 = y.getD i 0
      · rw [hxy]; simp
      · have : b8 (x.getD i 0) ≠ b8 (y.getD i 0) := fun e => hxy (b8_inj e)
        rw [beq_eq_false_iff_ne.2 hxy, beq_eq_false_iff_ne.2 this]
    rw [e4] at e3
    simp only [Op.eqItems, Sem.run_bind, part8 _ _ _ e1, part8 _ _ _ e2, e3, Result.andThen_ok, List.all_cons]
    cases hb : (x.getD i 0 == y.getD i 0)
    · simp
    · simpa using ih
theorem all_eq (x y : Text) (hx : x.length = 32) (hy : y.length = 32) : ((List.range 32).all fun i => x.getD i 0 == y.getD i 0) = decide (x = y) := by
  by_cases h : x = y
  · subst h
    simp
  · rw [decide_eq_false h]
    refine Bool.eq_false_iff.2 fun ha => h ?_
    apply List.ext_getElem (by omega)
    intro i h1 h2
    have := List.all_eq_true.1 ha i (List.mem_range.2 (by omega))
    simpa [List.getD, h1, h2] using this
theorem equal_dig (x y : Text) (hx : x.length = 32) (hy : y.length = 32) (w : World) : (Op.equalIn 10000 23 (.agg (cells8 x).toArray) (.agg (cells8 y).toArray)).run Tryd.prog w = .ok (decide (x = y)) w := by
  obtain ⟨i0, hi, _, hs, _⟩ := info_parts' info8'
  have hc : Tryd.prog.cellsOf 5 = 1 := by kernel_rfl
  rw [run_equalIn_array w 9999 _ _ Tryd.underlying23 hi, hc, items8 x y w _ (fun i hi => by have := List.mem_range.1 hi; omega), all_eq x y hx hy]
theorem eql_dig (x y : Text) (hx : x.length = 32) (hy : y.length = 32) (w : World) : (binOp .eql 23 (.agg (cells8 x).toArray) (.agg (cells8 y).toArray)).run Tryd.prog w = .ok (.bool (decide (x = y))) w := by
  rw [run_eql_struct w, equal_dig x y hx hy]
  rfl
theorem neq_dig (x y : Text) (hx : x.length = 32) (hy : y.length = 32) (w : World) : (binOp .neq 23 (.agg (cells8 x).toArray) (.agg (cells8 y).toArray)).run Tryd.prog w = .ok (.bool (!decide (x = y))) w := by
  rw [run_neq_struct w, equal_dig x y hx hy]
  rfl
end Go.Proofs.YthkdlaohaekilaaDoor.DigEq

namespace Go.Proofs.YthkdlaohaekilaaDoor.StructEq
open Go Go.RowKit Go.Proofs.YthkdlaohaekilaaDoor Go.Proofs.YthkdlaohaekilaaDoor.Mem Go.Proofs.YthkdlaohaekilaaDoor.Sha Go.Proofs.YthkdlaohaekilaaDoor.Bytes Go.Proofs.YthkdlaohaekilaaDoor.DigEq

end Go.Proofs.YthkdlaohaekilaaDoor.StructEq
