/-
  Texts of the claim, put into one file: Held, Guard.
-/
import Derived.Test.YteelanamlhfmgaaZ7
import Derived.OrdersHeld
import Derived.Great.BuildSlice

namespace Go.Proofs.Yteelanamlhfmgaa.Held
open Go Go.RowKit Go.Proofs.Yteelanamlhfmgaa Go.Proofs.Yteelanamlhfmgaa.Mem Go.Proofs.Yteelanamlhfmgaa.Sha Go.Proofs.Yteelanamlhfmgaa.Bytes Go.Proofs.Yteelanamlhfmgaa.QuietTail Go.Proofs.Yteelanamlhfmgaa.Grown
section
variable {P : Program} {ops : Array Oper} {md : Region.Mode} {Q : Exit → Act → World → Prop} {S : World → Prop} {a : Act} {w : World} {listed : Array Bool} {fuel : Nat}

end
/-- What a new block and a store into it leave. -/
theorem below_fresh {w0 w w' : World} {o : Obj} (h : Below w0.heap.size w0 w) (hk : Kept (· = w.heap.size) (w.alloc o) w') : Below w0.heap.size w0 w' :=
  h.trans ⟨hk.os, hk.tape, hk.output, by have := hk.size; simp at this; omega, fun k hlt => by
    have hs := h.size
    exact (hk.block k (by simp; omega) (by omega)).trans (Below.heap_alloc w o k (by omega))⟩
theorem kept_fresh {w w' : World} {o : Obj} (hk : Kept (· = w.heap.size) (w.alloc o) w') : Below w.heap.size w w' := below_fresh (Below.refl _ w) hk
end Go.Proofs.Yteelanamlhfmgaa.Held

namespace Go.Proofs.Yteelanamlhfmgaa.Guard
open Go Go.RowKit Go.Proofs.Yteelanamlhfmgaa Go.Proofs.Yteelanamlhfmgaa.Mem Go.Proofs.Yteelanamlhfmgaa.Bytes Go.Proofs.Yteelanamlhfmgaa.Held

theorem wpList_load_rowG {P : Program} {w : World} {ops : Array Oper} {rest : List Oper} {o : Oper} {a : Act} {Q : Exit → Act → World → Prop} (hgd : Region.wanted o (yielded ops a.tmps) = true) (ty : TypeId) (x : Operand) (ho : o.op = .load ty x)
    (g : Nat) (hx : a.eval x = .pointer (some ⟨g, 0, none⟩)) (t : TypeId) (cs : Array Value) (fr : Nat × Nat) (d : TypeDesc) (hg : w.heap[g]? = some (.cells cs t fr))
    (hu : P.underlying ty = some d) (hd : (match d with | .struct _ | .array _ _ => true | _ => false) = true) (hi : (P.info? ty).map (·.size) = some cs.size)
    (h : wpList P ops Q rest (a.put o.dst (.agg cs)) w) : wpList P ops Q (o :: rest) a w :=
  BigFrame.wpList_want hgd fun _ hK => wp_load_row ty x ho g hx t cs fr d hg hu hd hi (hK _ _ h)
end Go.Proofs.Yteelanamlhfmgaa.Guard
