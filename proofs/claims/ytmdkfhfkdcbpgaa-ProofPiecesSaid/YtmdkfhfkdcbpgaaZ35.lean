/-
  Texts of the claim, put into one file: SameIdx.
-/
import Derived.Test.YtmdkfhfkdcbpgaaZ21
import Derived.Test.YtmdkfhfkdcbpgaaZ9
import Derived.Test.YtmdkfhfkdcbpgaaZ8
import Derived.Test.YtmdkfhfkdcbpgaaZ12

namespace Go.Proofs.Ytmdkfhfkdcbpgaa.SameIdx
open Go Go.RowKit Go.Proofs.Ytmdkfhfkdcbpgaa Go.Proofs.Ytmdkfhfkdcbpgaa.Mem Go.Proofs.Ytmdkfhfkdcbpgaa.Sha Go.Proofs.Ytmdkfhfkdcbpgaa.Bytes Go.Proofs.Ytmdkfhfkdcbpgaa.HeadMem Go.Proofs.Ytmdkfhfkdcbpgaa.ProofIdx3 Go.Proofs.Ytmdkfhfkdcbpgaa.StructEq Go.Proofs.Ytmdkfhfkdcbpgaa.DigEq Go.Proofs.Ytmdkfhfkdcbpgaa.Book2 Go.Proofs.Ytmdkfhfkdcbpgaa.TreeMem Go.Proofs.Ytmdkfhfkdcbpgaa.Held Go.Proofs.Ytmdkfhfkdcbpgaa.Guard Go.Proofs.Ytmdkfhfkdcbpgaa.Guard2 Go.Proofs.Ytmdkfhfkdcbpgaa.Want

theorem wpList_cmpW {P : Program} {w : World} {l : List Oper} {ts : List Value} {df : List Deferred} {rest : List Oper} {o : Oper} {Q : Exit → Act → World → Prop} (hgd : wantB o.guard l ts = true) (op : BinOp) (T u : TypeId) (x y : Operand) (ho : o.op = .binOp op T x y u) (xs ys : Array Value)
    (hx : (Act.mk ts.toArray df).eval x = .agg xs) (hy : (Act.mk ts.toArray df).eval y = .agg ys) (hg : P.eqGuardType P.depth T = false) (r : Value) (hr : (binOp op T (.agg xs) (.agg ys)).run P w = .ok r w)
    (h : wpList P l.toArray Q rest ((Act.mk ts.toArray df).put o.dst r) w) : Veil (wpList P l.toArray Q (o :: rest) ⟨ts.toArray, df⟩ w) :=
  ⟨BigFrame.wpList_want (want hgd) fun _ hK => by
    unfold Oper.wp
    rw [run_cmp ho hx hy hg hr]
    exact hK _ _ h⟩
theorem qE : Try.prog.eqGuardType Try.prog.depth 25 = false := by kernel_rfl
theorem qD2 : Try.prog.eqGuardType Try.prog.depth 23 = false := by kernel_rfl
theorem sizeE : (Try.prog.info? 25).map (·.size) = some 33 := by kernel_rfl
end Go.Proofs.Ytmdkfhfkdcbpgaa.SameIdx
