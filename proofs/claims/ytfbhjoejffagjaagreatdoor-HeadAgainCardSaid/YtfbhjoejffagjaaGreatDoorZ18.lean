/-
  Texts of the claim, put into one file: Fill.
-/
import Derived.Test.YtfbhjoejffagjaaGreatDoorZ4
import Derived.Great.FillDense

namespace Go.Proofs.YtfbhjoejffagjaaGreatDoor.Fill
open Go Go.RowKit Go.Proofs.YtfbhjoejffagjaaGreatDoor Mem Sha Bytes

theorem fold_at : ∀ (xs old pre post : List Value) (k : Nat) (o : Nat), pre.length = o + k → old.length = xs.length → (xs.zipIdx k).foldl (fun (cs : Array Value) (x : Value × Nat) => cs.setIfInBounds (o + x.2) x.1) (pre ++ old ++ post).toArray = (pre ++ xs ++ post).toArray
 | [], old, pre, post, k, o, hp, ho => by
  have : old = [] := List.eq_nil_of_length_eq_zero ho
  subst this
  rfl
 | x :: xs, y :: old, pre, post, k, o, hp, ho => by
  rw [List.zipIdx_cons, List.foldl_cons]
  have e : ((pre ++ (y :: old) ++ post).toArray).setIfInBounds (o + k) x = ((pre ++ [x]) ++ old ++ post).toArray := by
   rw [List.setIfInBounds_toArray, List.append_assoc, List.set_append_right _ _ (by omega), hp, Nat.sub_self]
   simp
  show List.foldl _ (Array.setIfInBounds _ (o + k) x) _ = _
  rw [e, fold_at xs old (pre ++ [x]) post (k + 1) o (by rw [List.length_append, List.length_singleton]; omega) (by simpa using ho)]
  simp
 | x :: xs, [], _, _, _, _, _, ho => by simp at ho
theorem fill_one {place : Nat → Option (Nat × Nat)} {i off size : Nat} {v : Value} {xs old pre post : List Value} {rest : List (Nat × Value)} (hp : place i = some (off, size)) (hv : v.cells = xs.toArray) (hx : xs.length = size) (hpre : pre.length = off) (hold : old.length = size) :
  Instr.fill place (pre ++ old ++ post).toArray ((i, v) :: rest) = Instr.fill place (pre ++ xs ++ post).toArray rest := by
 rw [Instr.fill]
 simp only [hp, hv]
 rw [if_neg (by simp; omega)]
 congr 1
 rw [← Array.foldl_toList, Array.toList_zipIdx]
 exact fold_at xs old pre post 0 off (by omega) (by omega)
theorem fill_nil {place : Nat → Option (Nat × Nat)} {cells : Array Value} : Instr.fill place cells [] = some cells := by rw [Instr.fill]
theorem exec_build {P : Program} {w : World} {o : Oper} {ρ : Operand → Value} (ty : TypeId) (parts : Array (Nat × Operand)) (ho : o.op = .build ty parts) (vals : Array (Nat × Value)) (hp : (parts.map fun (i, x) => (i, ρ x)) = vals) (v : Value) (h : (Instr.build ty vals).run P w = .ok v w) : (execOp ρ o).run P w = .ok (.value v) w := by
 unfold execOp
 simp only [ho, hp, Sem.run_bind, Sem.run_pure, Result.andThen_ok, h]
theorem wpList_buildF {P : Program} {ops : Array Oper} {rest : List Oper} {o : Oper} {a : Act} {w : World} {Q : Exit → Act → World → Prop} (hgd : o.guard = none) (ty : TypeId) (parts : Array (Nat × Operand)) (ho : o.op = .build ty parts)
  (vals : Array (Nat × Value)) (hp : (parts.map fun (i, x) => (i, a.eval x)) = vals) (v : Value) (h : (Instr.build ty vals).run P w = .ok v w)
  (hk : wpList P ops Q rest (a.put o.dst v) w) : wpList P ops Q (o :: rest) a w := by
 refine wpList_plain hgd fun K hK => ?_
 unfold Oper.wp
 rw [exec_build ty parts ho vals hp v h]
 exact hK _ _ hk
end Go.Proofs.YtfbhjoejffagjaaGreatDoor.Fill
