/-
  Texts of the claim, put into one file: Law20.
-/
import Derived.Test.YtgldkfaiofkhbaaDoorZ16
import Derived.Test.YtgldkfaiofkhbaaDoorZ13

namespace Go.Proofs.YtgldkfaiofkhbaaDoor.Law20
open Go Go.RowKit Go.Proofs.YtgldkfaiofkhbaaDoor Go.Proofs.YtgldkfaiofkhbaaDoor.Mem Go.Proofs.YtgldkfaiofkhbaaDoor.Sha Go.Proofs.YtgldkfaiofkhbaaDoor.Bytes Go.Proofs.YtgldkfaiofkhbaaDoor.QuietTail Go.Proofs.YtgldkfaiofkhbaaDoor.Grown Go.Proofs.YtgldkfaiofkhbaaDoor.TreeMem Go.Proofs.YtgldkfaiofkhbaaDoor.TreeRoot Go.Proofs.YtgldkfaiofkhbaaDoor.Held Go.Proofs.YtgldkfaiofkhbaaDoor.Book Go.Proofs.YtgldkfaiofkhbaaDoor.Book2

end Go.Proofs.YtgldkfaiofkhbaaDoor.Law20
