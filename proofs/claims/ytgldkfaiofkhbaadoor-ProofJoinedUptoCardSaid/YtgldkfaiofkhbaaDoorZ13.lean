/-
  Texts of the claim, put into one file: EncCons.
-/
import Derived.Test.YtgldkfaiofkhbaaDoorZ9
import Derived.Test.YtgldkfaiofkhbaaDoorZ12

namespace Go.Proofs.YtgldkfaiofkhbaaDoor.EncCons
open Go Go.RowKit Go.Proofs.YtgldkfaiofkhbaaDoor Go.Proofs.YtgldkfaiofkhbaaDoor.Mem Go.Proofs.YtgldkfaiofkhbaaDoor.Sha Go.Proofs.YtgldkfaiofkhbaaDoor.Bytes Go.Proofs.YtgldkfaiofkhbaaDoor.Append Go.Proofs.YtgldkfaiofkhbaaDoor.Octet Go.Proofs.YtgldkfaiofkhbaaDoor.Octet2 Go.Proofs.YtgldkfaiofkhbaaDoor.HeadMem Go.Proofs.YtgldkfaiofkhbaaDoor.ProofEnc Go.Proofs.YtgldkfaiofkhbaaDoor.Subs Go.Proofs.YtgldkfaiofkhbaaDoor.Betw

end Go.Proofs.YtgldkfaiofkhbaaDoor.EncCons
