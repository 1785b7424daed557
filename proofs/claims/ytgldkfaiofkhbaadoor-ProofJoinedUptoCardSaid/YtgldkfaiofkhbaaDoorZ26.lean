/-
  Texts of the claim, put into one file: SameIdx.
-/
import Derived.Test.YtgldkfaiofkhbaaDoorZ16
import Derived.Test.YtgldkfaiofkhbaaDoorZ19
import Derived.Test.YtgldkfaiofkhbaaDoorZ3
import Derived.Test.YtgldkfaiofkhbaaDoorZ24

namespace Go.Proofs.YtgldkfaiofkhbaaDoor.SameIdx
open Go Go.RowKit Go.Proofs.YtgldkfaiofkhbaaDoor Go.Proofs.YtgldkfaiofkhbaaDoor.Mem Go.Proofs.YtgldkfaiofkhbaaDoor.Sha Go.Proofs.YtgldkfaiofkhbaaDoor.Bytes Go.Proofs.YtgldkfaiofkhbaaDoor.HeadMem Go.Proofs.YtgldkfaiofkhbaaDoor.ProofIdx3 Go.Proofs.YtgldkfaiofkhbaaDoor.StructEq Go.Proofs.YtgldkfaiofkhbaaDoor.DigEq Go.Proofs.YtgldkfaiofkhbaaDoor.Book2 Go.Proofs.YtgldkfaiofkhbaaDoor.TreeMem Go.Proofs.YtgldkfaiofkhbaaDoor.Held Go.Proofs.YtgldkfaiofkhbaaDoor.Guard Go.Proofs.YtgldkfaiofkhbaaDoor.Guard2 Go.Proofs.YtgldkfaiofkhbaaDoor.Want

theorem wpList_cmpW {P : Program} {w : World} {l : List Oper} {ts : List Value} {df : List Deferred} {rest : List Oper} {o : Oper} {Q : Exit → Act → World → Prop} (hgd : wantB o.guard l ts = true) (op : BinOp) (T u : TypeId) (x y : Operand) (ho : o.op = .binOp op T x y u) (xs ys : Array Value)
    (hx : (Act.mk ts.toArray df).eval x = .agg xs) (hy : (Act.mk ts.toArray df).eval y = .agg ys) (hg : P.eqGuardType P.depth T = false) (r : Value) (hr : (binOp op T (.agg xs) (.agg ys)).run P w = .ok r w)
    (h : wpList P l.toArray Q rest ((Act.mk ts.toArray df).put o.dst r) w) : Veil (wpList P l.toArray Q (o :: rest) ⟨ts.toArray, df⟩ w) :=
  ⟨BigFrame.wpList_want (want hgd) fun _ hK => by
    unfold Oper.wp
    rw [run_cmp ho hx hy hg hr]
    exact hK _ _ h⟩
end Go.Proofs.YtgldkfaiofkhbaaDoor.SameIdx
