/-
  Texts of the claim, put into one file: RowIdx.
-/
import Derived.Test.YthkdlaohaekilaaDoorZ5
import Derived.Test.YthkdlaohaekilaaDoorZ3
import Derived.Test.YthkdlaohaekilaaDoorZ7
import Derived.Test.YthkdlaohaekilaaDoorZ20
import Derived.Deep.Strs

namespace Go.Proofs.YthkdlaohaekilaaDoor.RowIdx
open Go Go.RowKit Go.ChangeShapes Go.WideShapes Go.Proofs.YthkdlaohaekilaaDoor Go.Proofs.YthkdlaohaekilaaDoor.Mem Go.Proofs.YthkdlaohaekilaaDoor.Sha Go.Proofs.YthkdlaohaekilaaDoor.Bytes Go.Proofs.YthkdlaohaekilaaDoor.TreeMem Go.Proofs.YthkdlaohaekilaaDoor.Row Go.Proofs.YthkdlaohaekilaaDoor.StructEq Go.Proofs.YthkdlaohaekilaaDoor.ProofIdx3

section
variable {H : Type} {enc : TypeId × Value → H} {w : World} {base : Nat} {held : Bool}
end
end Go.Proofs.YthkdlaohaekilaaDoor.RowIdx
