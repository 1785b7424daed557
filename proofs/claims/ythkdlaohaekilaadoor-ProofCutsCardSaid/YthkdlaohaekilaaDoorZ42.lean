/-
  Texts of the claim, put into one file: IdxRef.
-/
import Derived.Test.YthkdlaohaekilaaDoorZ19
import Derived.Test.YthkdlaohaekilaaDoorZ22
import Derived.Test.YthkdlaohaekilaaDoorZ16
import Derived.Test.YthkdlaohaekilaaDoorZ12

namespace Go.Proofs.YthkdlaohaekilaaDoor.IdxRef
open Go Go.RowKit Go.Proofs.YthkdlaohaekilaaDoor Go.Proofs.YthkdlaohaekilaaDoor.Mem Go.Proofs.YthkdlaohaekilaaDoor.Sha Go.Proofs.YthkdlaohaekilaaDoor.Bytes Go.Proofs.YthkdlaohaekilaaDoor.Append Go.Proofs.YthkdlaohaekilaaDoor.Octet Go.Proofs.YthkdlaohaekilaaDoor.Octet2 Go.Proofs.YthkdlaohaekilaaDoor.HeadMem Go.Proofs.YthkdlaohaekilaaDoor.ProofBeside Go.Proofs.YthkdlaohaekilaaDoor.ProofEnc Go.Proofs.YthkdlaohaekilaaDoor.ProofIdx Go.Proofs.YthkdlaohaekilaaDoor.ProofIdx2 Go.Proofs.YthkdlaohaekilaaDoor.ProofIdx3 Go.Proofs.YthkdlaohaekilaaDoor.StructEq Go.Proofs.YthkdlaohaekilaaDoor.IdxAny Go.Proofs.YthkdlaohaekilaaDoor.IdxEnc Go.Proofs.YthkdlaohaekilaaDoor.IdxRef0 Go.Proofs.YthkdlaohaekilaaDoor.QuietTail Go.Proofs.YthkdlaohaekilaaDoor.Grown Go.Proofs.YthkdlaohaekilaaDoor.Held Go.Proofs.YthkdlaohaekilaaDoor.Want

end Go.Proofs.YthkdlaohaekilaaDoor.IdxRef
