/-
  The zero head compared with itself.
-/
import Derived.Test.YtngieimjlkpkaaaHeadEq
import Derived.Test.YtngieimjlkpkaaaHeadEnc
import Derived.Test.YtngieimjlkpkaaaRefHead
import Derived.Test.YtngieimjlkpkaaaLaw16
namespace Go.Proofs.Ytngieimjlkpkaaa.Heads
open Go Go.RowKit Go.Proofs.Ytngieimjlkpkaaa Go.Proofs.Ytngieimjlkpkaaa.Mem Go.Proofs.Ytngieimjlkpkaaa.Sha Go.Proofs.Ytngieimjlkpkaaa.Bytes Go.Proofs.Ytngieimjlkpkaaa.Append Go.Proofs.Ytngieimjlkpkaaa.Octet Go.Proofs.Ytngieimjlkpkaaa.HeadMem Go.Proofs.Ytngieimjlkpkaaa.HeadTake Go.Proofs.Ytngieimjlkpkaaa.HeadTake2 Go.Proofs.Ytngieimjlkpkaaa.Decode Go.Proofs.Ytngieimjlkpkaaa.High Go.Proofs.Ytngieimjlkpkaaa.ReadHead Go.Proofs.Ytngieimjlkpkaaa.HeadEq Go.Proofs.Ytngieimjlkpkaaa.HeadEnc Go.Proofs.Ytngieimjlkpkaaa.RefHead Go.Proofs.Ytngieimjlkpkaaa.Law16

def zeroH : HeadD := ⟨List.replicate 32 0, 0, List.replicate 32 0, List.replicate 32 0, 0⟩
theorem zeroH_ok : zeroH.Ok := ⟨rfl, rfl, rfl, by decide, by decide⟩
theorem z98_cells : Z98 = (headCells zeroH).toArray := by kernel_rfl
theorem eql_z98 (w : World) : (binOp .eql 30 (.agg Z98) (.agg Z98)).run Try.prog w = .ok (.bool true) w := by
  rw [z98_cells]
  exact eql_head zeroH zeroH_ok w

end Go.Proofs.Ytngieimjlkpkaaa.Heads
