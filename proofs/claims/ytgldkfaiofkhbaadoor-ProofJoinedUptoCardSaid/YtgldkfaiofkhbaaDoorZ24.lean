/-
  Texts of the claim, put into one file: Guard2, CmpW.
-/
import Derived.Test.YtgldkfaiofkhbaaDoorZ17
import Derived.Test.YtgldkfaiofkhbaaDoorZ15
import Derived.Test.YtgldkfaiofkhbaaDoorZ5

namespace Go.Proofs.YtgldkfaiofkhbaaDoor.Guard2
open Go Go.RowKit Go.Proofs.YtgldkfaiofkhbaaDoor Go.Proofs.YtgldkfaiofkhbaaDoor.Mem Go.Proofs.YtgldkfaiofkhbaaDoor.Bytes Go.Proofs.YtgldkfaiofkhbaaDoor.Held Go.Proofs.YtgldkfaiofkhbaaDoor.Guard Go.Proofs.YtgldkfaiofkhbaaDoor.Want

theorem wpList_rowW {P : Program} {w : World} {l : List Oper} {ts : List Value} {df : List Deferred} {rest : List Oper} {o : Oper} {Q : Exit → Act → World → Prop} (hgd : wantB o.guard l ts = true) (ty : TypeId) (x : Operand) (ho : o.op = .load ty x)
    (g : Nat) (hx : (Act.mk ts.toArray df).eval x = .pointer (some ⟨g, 0, none⟩)) (t : TypeId) (cs : Array Value) (fr : Nat × Nat) (d : TypeDesc) (hg : w.heap[g]? = some (.cells cs t fr))
    (hu : P.underlying ty = some d) (hd : (match d with | .struct _ | .array _ _ => true | _ => false) = true) (hi : (P.info? ty).map (·.size) = some cs.size)
    (h : wpList P l.toArray Q rest ((Act.mk ts.toArray df).put o.dst (.agg cs)) w) : Veil (wpList P l.toArray Q (o :: rest) ⟨ts.toArray, df⟩ w) :=
  ⟨wpList_load_rowG (want hgd) ty x ho g hx t cs fr d hg hu hd hi h⟩
theorem wpList_partW {P : Program} {w : World} {l : List Oper} {ts : List Value} {df : List Deferred} {rest : List Oper} {o : Oper} {Q : Exit → Act → World → Prop} (hgd : wantB o.guard l ts = true) (ty : TypeId) (x : Operand) (ho : o.op = .load ty x)
    (g i : Nat) (hx : (Act.mk ts.toArray df).eval x = .pointer (some ⟨g, i, none⟩)) (xs : List Value) (d : TypeDesc) (hc : ∀ j v, xs[j]? = some v → w.cell? ⟨g, i + j, none⟩ = some v)
    (hu : P.underlying ty = some d) (hd : (match d with | .struct _ | .array _ _ => true | _ => false) = true) (hi : (P.info? ty).map (·.size) = some xs.length)
    (h : wpList P l.toArray Q rest ((Act.mk ts.toArray df).put o.dst (.agg xs.toArray)) w) : Veil (wpList P l.toArray Q (o :: rest) ⟨ts.toArray, df⟩ w) :=
  ⟨wpList_load_partG (want hgd) ty x ho g i hx xs d hc hu hd hi h⟩
end Go.Proofs.YtgldkfaiofkhbaaDoor.Guard2

namespace Go.Proofs.YtgldkfaiofkhbaaDoor.CmpW
open Go Go.RowKit Go.Proofs.YtgldkfaiofkhbaaDoor Go.Proofs.YtgldkfaiofkhbaaDoor.Grown Go.Proofs.YtgldkfaiofkhbaaDoor.Want

theorem wpList_cmpW {P : Program} {w : World} {l : List Oper} {ts : List Value} {df : List Deferred} {rest : List Oper} {o : Oper} {Q : Exit → Act → World → Prop} (hgd : wantB o.guard l ts = true) (op : BinOp) (T u : TypeId) (x y : Operand) (ho : o.op = .binOp op T x y u) (xs ys : Array Value)
    (hx : (Act.mk ts.toArray df).eval x = .agg xs) (hy : (Act.mk ts.toArray df).eval y = .agg ys) (hg : P.eqGuardType P.depth T = false) (r : Value) (hr : (binOp op T (.agg xs) (.agg ys)).run P w = .ok r w)
    (h : wpList P l.toArray Q rest ((Act.mk ts.toArray df).put o.dst r) w) : Veil (wpList P l.toArray Q (o :: rest) ⟨ts.toArray, df⟩ w) :=
  ⟨BigFrame.wpList_want (want hgd) fun _ hK => by
    unfold Oper.wp
    rw [run_cmp ho hx hy hg hr]
    exact hK _ _ h⟩
end Go.Proofs.YtgldkfaiofkhbaaDoor.CmpW
