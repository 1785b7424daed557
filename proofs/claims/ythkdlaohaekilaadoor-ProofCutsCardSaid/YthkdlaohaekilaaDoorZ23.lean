/-
  Texts of the claim, put into one file: IdxMem, IdxBuild.
-/
import Derived.Test.YthkdlaohaekilaaDoorZ22
import Derived.Test.YthkdlaohaekilaaDoorZ13
import Derived.Laws.BytesArg

namespace Go.Proofs.YthkdlaohaekilaaDoor.IdxMem
open Go Go.RowKit Go.Proofs.YthkdlaohaekilaaDoor Go.Proofs.YthkdlaohaekilaaDoor.Mem Go.Proofs.YthkdlaohaekilaaDoor.Sha Go.Proofs.YthkdlaohaekilaaDoor.Bytes Go.Proofs.YthkdlaohaekilaaDoor.HeadMem Go.Proofs.YthkdlaohaekilaaDoor.ProofIdx2 Go.Proofs.YthkdlaohaekilaaDoor.ProofIdx3 Go.Proofs.YthkdlaohaekilaaDoor.StructEq

/-- A text as a string. -/
def strT (p : Text) : ByteArray := strOfNums (p.map b8)
section
variable {s s' : ByteArray} {f f' : Bool} {ent ent' : List Value} {d d' : Text} {A A' : Option Addr} {n n' c c' : Nat}
end
end Go.Proofs.YthkdlaohaekilaaDoor.IdxMem

namespace Go.Proofs.YthkdlaohaekilaaDoor.IdxBuild
open Go Go.RowKit Go.Proofs.YthkdlaohaekilaaDoor Go.Proofs.YthkdlaohaekilaaDoor.Mem Go.Proofs.YthkdlaohaekilaaDoor.Sha Go.Proofs.YthkdlaohaekilaaDoor.Bytes Go.Proofs.YthkdlaohaekilaaDoor.StructEq

end Go.Proofs.YthkdlaohaekilaaDoor.IdxBuild
