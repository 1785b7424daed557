/-
  Texts of the claim, put into one file: ReadIdx.
-/
import Derived.Test.YthkdlaohaekilaaDoorZ24
import Derived.Test.YthkdlaohaekilaaDoorZ43
import Derived.Test.YthkdlaohaekilaaDoorZ42
import Derived.Test.YthkdlaohaekilaaDoorZ4

namespace Go.Proofs.YthkdlaohaekilaaDoor.ReadIdx
open Go Go.RowKit Go.Proofs.YthkdlaohaekilaaDoor Go.Proofs.YthkdlaohaekilaaDoor.Mem Go.Proofs.YthkdlaohaekilaaDoor.Sha Go.Proofs.YthkdlaohaekilaaDoor.Bytes Go.Proofs.YthkdlaohaekilaaDoor.Append Go.Proofs.YthkdlaohaekilaaDoor.Octet Go.Proofs.YthkdlaohaekilaaDoor.TreeMath Go.Proofs.YthkdlaohaekilaaDoor.TreeMem Go.Proofs.YthkdlaohaekilaaDoor.TreeRoot Go.Proofs.YthkdlaohaekilaaDoor.Held Go.Proofs.YthkdlaohaekilaaDoor.Own Go.Proofs.YthkdlaohaekilaaDoor.Reader Go.Proofs.YthkdlaohaekilaaDoor.Reader4 Go.Proofs.YthkdlaohaekilaaDoor.ProofBeside Go.Proofs.YthkdlaohaekilaaDoor.ProofEnc Go.Proofs.YthkdlaohaekilaaDoor.ProofIdx Go.Proofs.YthkdlaohaekilaaDoor.ProofIdx2 Go.Proofs.YthkdlaohaekilaaDoor.ProofIdx3 Go.Proofs.YthkdlaohaekilaaDoor.StructEq Go.Proofs.YthkdlaohaekilaaDoor.IdxAny Go.Proofs.YthkdlaohaekilaaDoor.IdxEnc Go.Proofs.YthkdlaohaekilaaDoor.IdxRef0 Go.Proofs.YthkdlaohaekilaaDoor.IdxRef Go.Proofs.YthkdlaohaekilaaDoor.IdxRef2 Go.Proofs.YthkdlaohaekilaaDoor.IdxMem Go.Proofs.YthkdlaohaekilaaDoor.IdxDec Go.Proofs.YthkdlaohaekilaaDoor.Flag Go.Proofs.YthkdlaohaekilaaDoor.DecIncl Go.Proofs.YthkdlaohaekilaaDoor.Bytes17 Go.Proofs.YthkdlaohaekilaaDoor.Way17 Go.Proofs.YthkdlaohaekilaaDoor.Same17 Go.Proofs.YthkdlaohaekilaaDoor.Book Go.Proofs.YthkdlaohaekilaaDoor.Guard Go.Proofs.YthkdlaohaekilaaDoor.ReadIncl Go.Proofs.YthkdlaohaekilaaDoor.ReadIdx0 Go.Proofs.YthkdlaohaekilaaDoor.DecIdx Go.Proofs.YthkdlaohaekilaaDoor.DecIdx2

end Go.Proofs.YthkdlaohaekilaaDoor.ReadIdx
