/-
  Texts of the claim, put into one file: IdxAny, IdxEnc.
-/
import Derived.Test.YthkdlaohaekilaaDoorZ20
import Derived.Test.YthkdlaohaekilaaDoorZ7
import Derived.Test.YthkdlaohaekilaaDoorZ3
import Derived.Test.YthkdlaohaekilaaDoorZ10

namespace Go.Proofs.YthkdlaohaekilaaDoor.IdxAny
open Go Go.RowKit Go.Proofs.YthkdlaohaekilaaDoor Go.Proofs.YthkdlaohaekilaaDoor.Mem Go.Proofs.YthkdlaohaekilaaDoor.Sha Go.Proofs.YthkdlaohaekilaaDoor.Bytes Go.Proofs.YthkdlaohaekilaaDoor.Append Go.Proofs.YthkdlaohaekilaaDoor.Octet Go.Proofs.YthkdlaohaekilaaDoor.Octet2 Go.Proofs.YthkdlaohaekilaaDoor.HeadMem Go.Proofs.YthkdlaohaekilaaDoor.ProofBeside Go.Proofs.YthkdlaohaekilaaDoor.ProofEnc Go.Proofs.YthkdlaohaekilaaDoor.ProofIdx Go.Proofs.YthkdlaohaekilaaDoor.ProofIdx2 Go.Proofs.YthkdlaohaekilaaDoor.ProofIdx3 Go.Proofs.YthkdlaohaekilaaDoor.StructEq Go.Proofs.YthkdlaohaekilaaDoor.QuietTail Go.Proofs.YthkdlaohaekilaaDoor.Grown

def z32 : Text := List.replicate 32 0
/-- May it be, by its entry? -/
def okEnt (f : Bool) (cnt : Int) (ch : Text) : Bool := if f then decide (1 ≤ cnt ∧ cnt ≤ 1099511627776) else decide (cnt = 0 ∧ ch = z32)
/-- May it be, by its form? -/
def okIx (s : ByteArray) (f : Bool) (cnt : Int) (ch d : Text) (n : Nat) : Bool := okEnt f cnt ch && (namedB s.data.toList && ((onesOf d : Int) == (n : Int)))
end Go.Proofs.YthkdlaohaekilaaDoor.IdxAny

namespace Go.Proofs.YthkdlaohaekilaaDoor.IdxEnc
open Go Go.RowKit Go.Proofs.YthkdlaohaekilaaDoor Go.Proofs.YthkdlaohaekilaaDoor.Mem Go.Proofs.YthkdlaohaekilaaDoor.Sha Go.Proofs.YthkdlaohaekilaaDoor.Bytes Go.Proofs.YthkdlaohaekilaaDoor.Append Go.Proofs.YthkdlaohaekilaaDoor.Octet Go.Proofs.YthkdlaohaekilaaDoor.Octet2 Go.Proofs.YthkdlaohaekilaaDoor.HeadMem Go.Proofs.YthkdlaohaekilaaDoor.ProofBeside Go.Proofs.YthkdlaohaekilaaDoor.ProofEnc Go.Proofs.YthkdlaohaekilaaDoor.ProofIdx Go.Proofs.YthkdlaohaekilaaDoor.ProofIdx2 Go.Proofs.YthkdlaohaekilaaDoor.ProofIdx3 Go.Proofs.YthkdlaohaekilaaDoor.ProofIdx4 Go.Proofs.YthkdlaohaekilaaDoor.StructEq Go.Proofs.YthkdlaohaekilaaDoor.IdxAny Go.Proofs.YthkdlaohaekilaaDoor.TreeMem Go.Proofs.YthkdlaohaekilaaDoor.NumberNew

end Go.Proofs.YthkdlaohaekilaaDoor.IdxEnc
