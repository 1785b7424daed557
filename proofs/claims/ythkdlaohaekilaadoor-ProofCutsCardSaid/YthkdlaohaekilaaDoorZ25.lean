/-
  Texts of the claim, put into one file: StrAppend.
-/
import Derived.Test.YthkdlaohaekilaaDoorZ20
import Derived.Test.YthkdlaohaekilaaDoorZ6
import Derived.Lib.AppendStr

namespace Go.Proofs.YthkdlaohaekilaaDoor.IdxRef2
open Go Go.RowKit Go.Proofs.YthkdlaohaekilaaDoor Go.Proofs.YthkdlaohaekilaaDoor.Mem Go.Proofs.YthkdlaohaekilaaDoor.Sha Go.Proofs.YthkdlaohaekilaaDoor.Bytes Go.Proofs.YthkdlaohaekilaaDoor.Append Go.Proofs.YthkdlaohaekilaaDoor.Octet Go.Proofs.YthkdlaohaekilaaDoor.Own Go.Proofs.YthkdlaohaekilaaDoor.ProofIdx2

end Go.Proofs.YthkdlaohaekilaaDoor.IdxRef2
