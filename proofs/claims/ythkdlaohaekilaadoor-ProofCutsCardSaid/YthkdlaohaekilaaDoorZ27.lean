/-
  Texts of the claim, put into one file: SameIdx.
-/
import Derived.Test.YthkdlaohaekilaaDoorZ22
import Derived.Test.YthkdlaohaekilaaDoorZ14
import Derived.Test.YthkdlaohaekilaaDoorZ7
import Derived.Test.YthkdlaohaekilaaDoorZ26

namespace Go.Proofs.YthkdlaohaekilaaDoor.SameIdx
open Go Go.RowKit Go.Proofs.YthkdlaohaekilaaDoor Go.Proofs.YthkdlaohaekilaaDoor.Mem Go.Proofs.YthkdlaohaekilaaDoor.Sha Go.Proofs.YthkdlaohaekilaaDoor.Bytes Go.Proofs.YthkdlaohaekilaaDoor.HeadMem Go.Proofs.YthkdlaohaekilaaDoor.ProofIdx3 Go.Proofs.YthkdlaohaekilaaDoor.StructEq Go.Proofs.YthkdlaohaekilaaDoor.DigEq Go.Proofs.YthkdlaohaekilaaDoor.Book2 Go.Proofs.YthkdlaohaekilaaDoor.TreeMem Go.Proofs.YthkdlaohaekilaaDoor.Held Go.Proofs.YthkdlaohaekilaaDoor.Guard Go.Proofs.YthkdlaohaekilaaDoor.Guard2 Go.Proofs.YthkdlaohaekilaaDoor.Want

theorem wpList_cmpW {P : Program} {w : World} {l : List Oper} {ts : List Value} {df : List Deferred} {rest : List Oper} {o : Oper} {Q : Exit → Act → World → Prop} (hgd : wantB o.guard l ts = true) (op : BinOp) (T u : TypeId) (x y : Operand) (ho : o.op = .binOp op T x y u) (xs ys : Array Value)
    (hx : (Act.mk ts.toArray df).eval x = .agg xs) (hy : (Act.mk ts.toArray df).eval y = .agg ys) (hg : P.eqGuardType P.depth T = false) (r : Value) (hr : (binOp op T (.agg xs) (.agg ys)).run P w = .ok r w)
    (h : wpList P l.toArray Q rest ((Act.mk ts.toArray df).put o.dst r) w) : Veil (wpList P l.toArray Q (o :: rest) ⟨ts.toArray, df⟩ w) :=
  ⟨BigFrame.wpList_want (want hgd) fun _ hK => by
    unfold Oper.wp
    rw [run_cmp ho hx hy hg hr]
    exact hK _ _ h⟩
theorem qD2 : Tryd.prog.eqGuardType Tryd.prog.depth 23 = false := by kernel_rfl
end Go.Proofs.YthkdlaohaekilaaDoor.SameIdx
