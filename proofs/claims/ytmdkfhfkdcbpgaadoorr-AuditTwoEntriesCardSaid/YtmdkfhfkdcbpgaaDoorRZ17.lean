/-
  Texts of the claim, put into one file: Guard2.
-/
import Derived.Test.YtmdkfhfkdcbpgaaDoorRZ7
import Derived.Test.YtmdkfhfkdcbpgaaDoorRZ5
import Derived.Test.YtmdkfhfkdcbpgaaDoorRZ6

namespace Go.Proofs.YtmdkfhfkdcbpgaaDoorR.Guard2
open Go Go.RowKit Go.Proofs.YtmdkfhfkdcbpgaaDoorR Mem Bytes Held Guard Want

theorem wpList_rowW {P : Program} {w : World} {l : List Oper} {ts : List Value} {df : List Deferred} {rest : List Oper} {o : Oper} {Q : Exit → Act → World → Prop} (hgd : wantB o.guard l ts = true) (ty : TypeId) (x : Operand) (ho : o.op = .load ty x)
  (g : Nat) (hx : (Act.mk ts.toArray df).eval x = .pointer (some ⟨g, 0, none⟩)) (t : TypeId) (cs : Array Value) (fr : Nat × Nat) (d : TypeDesc) (hg : w.heap[g]? = some (.cells cs t fr))
  (hu : P.underlying ty = some d) (hd : (match d with | .struct _ | .array _ _ => true | _ => false) = true) (hi : (P.info? ty).map (·.size) = some cs.size)
  (h : wpList P l.toArray Q rest ((Act.mk ts.toArray df).put o.dst (.agg cs)) w) : Veil (wpList P l.toArray Q (o :: rest) ⟨ts.toArray, df⟩ w) :=
 ⟨wpList_load_rowG (want hgd) ty x ho g hx t cs fr d hg hu hd hi h⟩
end Go.Proofs.YtmdkfhfkdcbpgaaDoorR.Guard2
