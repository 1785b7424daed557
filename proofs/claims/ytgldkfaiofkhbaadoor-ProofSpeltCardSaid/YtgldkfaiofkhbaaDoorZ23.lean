/-
  Texts of the claim, put into one file: SameIdx.
-/
import Derived.Test.YtgldkfaiofkhbaaDoorZ14
import Derived.Test.YtgldkfaiofkhbaaDoorZ8
import Derived.Test.YtgldkfaiofkhbaaDoorZ5
import Derived.Test.YtgldkfaiofkhbaaDoorZ20

namespace Go.Proofs.YtgldkfaiofkhbaaDoor.SameIdx
open Go Go.RowKit Go.Proofs.YtgldkfaiofkhbaaDoor Go.Proofs.YtgldkfaiofkhbaaDoor.Mem Go.Proofs.YtgldkfaiofkhbaaDoor.Sha Go.Proofs.YtgldkfaiofkhbaaDoor.Bytes Go.Proofs.YtgldkfaiofkhbaaDoor.HeadMem Go.Proofs.YtgldkfaiofkhbaaDoor.ProofIdx3 Go.Proofs.YtgldkfaiofkhbaaDoor.StructEq Go.Proofs.YtgldkfaiofkhbaaDoor.DigEq Go.Proofs.YtgldkfaiofkhbaaDoor.Book2 Go.Proofs.YtgldkfaiofkhbaaDoor.TreeMem Go.Proofs.YtgldkfaiofkhbaaDoor.Held Go.Proofs.YtgldkfaiofkhbaaDoor.Guard Go.Proofs.YtgldkfaiofkhbaaDoor.Guard2 Go.Proofs.YtgldkfaiofkhbaaDoor.Want

theorem wpList_cmpW {P : Program} {w : World} {l : List Oper} {ts : List Value} {df : List Deferred} {rest : List Oper} {o : Oper} {Q : Exit → Act → World → Prop} (hgd : wantB o.guard l ts = true) (op : BinOp) (T u : TypeId) (x y : Operand) (ho : o.op = .binOp op T x y u) (xs ys : Array Value)
    (hx : (Act.mk ts.toArray df).eval x = .agg xs) (hy : (Act.mk ts.toArray df).eval y = .agg ys) (hg : P.eqGuardType P.depth T = false) (r : Value) (hr : (binOp op T (.agg xs) (.agg ys)).run P w = .ok r w)
    (h : wpList P l.toArray Q rest ((Act.mk ts.toArray df).put o.dst r) w) : Veil (wpList P l.toArray Q (o :: rest) ⟨ts.toArray, df⟩ w) :=
  ⟨BigFrame.wpList_want (want hgd) fun _ hK => by
    unfold Oper.wp
    rw [run_cmp ho hx hy hg hr]
    exact hK _ _ h⟩
theorem qE : Tryd.prog.eqGuardType Tryd.prog.depth 53 = false := by kernel_rfl
theorem qD2 : Tryd.prog.eqGuardType Tryd.prog.depth 23 = false := by kernel_rfl
theorem sizeE : (Tryd.prog.info? 53).map (·.size) = some 33 := by kernel_rfl
theorem idx_facts (s : ByteArray) (f : Bool) (cnt : Int) (ch : Text) (hch : ch.length = 32) (d : Text) (hd : d.length = 32) (A : Option Addr) (n c : Nat) : ∃ cs : Array Value, (idxCells s f (entC cnt ch) d A n c).toArray = cs ∧ cs[0]? = some (.string s) ∧ cs[1]? = some (.bool f) ∧ (∀ j v, (entC cnt ch)[j]? = some v → cs[2 + j]? = some v) ∧
    (∀ j v, (cells8 d)[j]? = some v → cs[35 + j]? = some v) ∧ cs[67]? = some (.slice A n c) :=
  ⟨_, rfl, by rw [List.getElem?_toArray]; exact idx_name, by rw [List.getElem?_toArray]; exact idx_found, fun j v hv => by rw [List.getElem?_toArray]; exact idx_ent j v hv, fun j v hv => by rw [List.getElem?_toArray]; exact idx_bitmap (entC_len hch) j v hv, by rw [List.getElem?_toArray]; exact idx_way (entC_len hch) hd⟩
end Go.Proofs.YtgldkfaiofkhbaaDoor.SameIdx
