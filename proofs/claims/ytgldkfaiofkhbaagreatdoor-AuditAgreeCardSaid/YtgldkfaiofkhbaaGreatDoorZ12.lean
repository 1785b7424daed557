/-
  Texts of the claim, put into one file: Guard2, CmpW.
-/
import Derived.Test.YtgldkfaiofkhbaaGreatDoorZ11
import Derived.Test.YtgldkfaiofkhbaaGreatDoorZ10
import Derived.Test.YtgldkfaiofkhbaaGreatDoorZ6

namespace Go.Proofs.YtgldkfaiofkhbaaGreatDoor.Guard2
open Go Go.RowKit Go.Proofs.YtgldkfaiofkhbaaGreatDoor Mem Bytes Held Guard Want

theorem wpList_rowW {P : Program} {w : World} {l : List Oper} {ts : List Value} {df : List Deferred} {rest : List Oper} {o : Oper} {Q : Exit → Act → World → Prop} (hgd : wantB o.guard l ts = true) (ty : TypeId) (x : Operand) (ho : o.op = .load ty x)
  (g : Nat) (hx : (Act.mk ts.toArray df).eval x = .pointer (some ⟨g, 0, none⟩)) (t : TypeId) (cs : Array Value) (fr : Nat × Nat) (d : TypeDesc) (hg : w.heap[g]? = some (.cells cs t fr))
  (hu : P.underlying ty = some d) (hd : (match d with | .struct _ | .array _ _ => true | _ => false) = true) (hi : (P.info? ty).map (·.size) = some cs.size)
  (h : wpList P l.toArray Q rest ((Act.mk ts.toArray df).put o.dst (.agg cs)) w) : Veil (wpList P l.toArray Q (o :: rest) ⟨ts.toArray, df⟩ w) :=
 ⟨wpList_load_rowG (want hgd) ty x ho g hx t cs fr d hg hu hd hi h⟩
end Go.Proofs.YtgldkfaiofkhbaaGreatDoor.Guard2

namespace Go.Proofs.YtgldkfaiofkhbaaGreatDoor.CmpW
open Go Go.RowKit Go.Proofs.YtgldkfaiofkhbaaGreatDoor Grown Want

theorem wpList_cmpW {P : Program} {w : World} {l : List Oper} {ts : List Value} {df : List Deferred} {rest : List Oper} {o : Oper} {Q : Exit → Act → World → Prop} (hgd : wantB o.guard l ts = true) (op : BinOp) (T u : TypeId) (x y : Operand) (ho : o.op = .binOp op T x y u) (xs ys : Array Value)
  (hx : (Act.mk ts.toArray df).eval x = .agg xs) (hy : (Act.mk ts.toArray df).eval y = .agg ys) (hg : P.eqGuardType P.depth T = false) (r : Value) (hr : (binOp op T (.agg xs) (.agg ys)).run P w = .ok r w)
  (h : wpList P l.toArray Q rest ((Act.mk ts.toArray df).put o.dst r) w) : Veil (wpList P l.toArray Q (o :: rest) ⟨ts.toArray, df⟩ w) :=
 ⟨BigFrame.wpList_want (want hgd) fun _ hK => by
  unfold Oper.wp
  rw [run_cmp ho hx hy hg hr]
  exact hK _ _ h⟩
end Go.Proofs.YtgldkfaiofkhbaaGreatDoor.CmpW
