/-
  Texts of the claim, put into one file: Held, Guard.
-/
import Derived.Test.YteelanamlhfmgaaZ7
import Derived.OrdersHeld
import Derived.Great.BuildSlice

namespace Go.Proofs.Yteelanamlhfmgaa.Held
open Go Go.RowKit Go.Proofs.Yteelanamlhfmgaa Go.Proofs.Yteelanamlhfmgaa.Mem Go.Proofs.Yteelanamlhfmgaa.Sha Go.Proofs.Yteelanamlhfmgaa.Bytes Go.Proofs.Yteelanamlhfmgaa.QuietTail Go.Proofs.Yteelanamlhfmgaa.Grown
section
variable {P : Program} {ops : Array Oper} {md : Region.Mode} {Q : Exit → Act → World → Prop} {S : World → Prop} {a : Act} {w : World} {listed : Array Bool} {fuel : Nat}

theorem exec_part {o : Oper} {ρ : Operand → Value} (ty : TypeId) (x : Operand) (ho : o.op = .load ty x) (g i : Nat) (hx : ρ x = .pointer (some ⟨g, i, none⟩)) (xs : List Value) (d : TypeDesc)
    (hb : ∀ j v, xs[j]? = some v → w.cell? ⟨g, i + j, none⟩ = some v) (hu : P.underlying ty = some d) (hd : (match d with | .struct _ | .array _ _ => true | _ => false) = true) (hi : (P.info? ty).map (·.size) = some xs.length) :
    (execOp ρ o).run P w = .ok (.value (.agg xs.toArray)) w := by
  unfold execOp
  simp only [ho, hx, Instr.loadAt, Instr.sureAddr, Sem.run_bind, Sem.run_pure, Result.andThen_ok, run_loadVar_part w g i ty xs d hb hu hd hi]
end
theorem wp_load_partH {P : Program} {o : Oper} {a : Act} {w : World} {K : Act → World → Prop} {Q : Exit → Act → World → Prop} (ty : TypeId) (x : Operand) (ho : o.op = .load ty x)
    (g i : Nat) (hx : a.eval x = .pointer (some ⟨g, i, none⟩)) (xs : List Value) (d : TypeDesc) (hc : ∀ j v, xs[j]? = some v → w.cell? ⟨g, i + j, none⟩ = some v)
    (hu : P.underlying ty = some d) (hd : (match d with | .struct _ | .array _ _ => true | _ => false) = true) (hi : (P.info? ty).map (·.size) = some xs.length)
    (h : K (a.put o.dst (.agg xs.toArray)) w) : o.wp P a w K Q := by
  unfold Oper.wp
  rw [exec_part ty x ho g i hx xs d hc hu hd hi]
  exact h
end Go.Proofs.Yteelanamlhfmgaa.Held

namespace Go.Proofs.Yteelanamlhfmgaa.Guard
open Go Go.RowKit Go.Proofs.Yteelanamlhfmgaa Go.Proofs.Yteelanamlhfmgaa.Mem Go.Proofs.Yteelanamlhfmgaa.Bytes Go.Proofs.Yteelanamlhfmgaa.Held

theorem wpList_load_rowG {P : Program} {w : World} {ops : Array Oper} {rest : List Oper} {o : Oper} {a : Act} {Q : Exit → Act → World → Prop} (hgd : Region.wanted o (yielded ops a.tmps) = true) (ty : TypeId) (x : Operand) (ho : o.op = .load ty x)
    (g : Nat) (hx : a.eval x = .pointer (some ⟨g, 0, none⟩)) (t : TypeId) (cs : Array Value) (fr : Nat × Nat) (d : TypeDesc) (hg : w.heap[g]? = some (.cells cs t fr))
    (hu : P.underlying ty = some d) (hd : (match d with | .struct _ | .array _ _ => true | _ => false) = true) (hi : (P.info? ty).map (·.size) = some cs.size)
    (h : wpList P ops Q rest (a.put o.dst (.agg cs)) w) : wpList P ops Q (o :: rest) a w :=
  BigFrame.wpList_want hgd fun _ hK => wp_load_row ty x ho g hx t cs fr d hg hu hd hi (hK _ _ h)
theorem wpList_load_partG {P : Program} {w : World} {ops : Array Oper} {rest : List Oper} {o : Oper} {a : Act} {Q : Exit → Act → World → Prop} (hgd : Region.wanted o (yielded ops a.tmps) = true) (ty : TypeId) (x : Operand) (ho : o.op = .load ty x)
    (g i : Nat) (hx : a.eval x = .pointer (some ⟨g, i, none⟩)) (xs : List Value) (d : TypeDesc) (hc : ∀ j v, xs[j]? = some v → w.cell? ⟨g, i + j, none⟩ = some v)
    (hu : P.underlying ty = some d) (hd : (match d with | .struct _ | .array _ _ => true | _ => false) = true) (hi : (P.info? ty).map (·.size) = some xs.length)
    (h : wpList P ops Q rest (a.put o.dst (.agg xs.toArray)) w) : wpList P ops Q (o :: rest) a w :=
  BigFrame.wpList_want hgd fun _ hK => wp_load_partH ty x ho g i hx xs d hc hu hd hi (hK _ _ h)
end Go.Proofs.Yteelanamlhfmgaa.Guard
