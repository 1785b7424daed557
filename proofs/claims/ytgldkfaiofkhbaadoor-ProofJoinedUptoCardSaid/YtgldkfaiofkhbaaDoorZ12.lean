/-
  Texts of the claim, put into one file: Betw.
-/
import Derived.Test.YtgldkfaiofkhbaaDoorZ0
import Derived.Test.YtgldkfaiofkhbaaDoorZ11
import Derived.Test.YtgldkfaiofkhbaaDoorZ3
import Derived.Outline

namespace Go.Proofs.YtgldkfaiofkhbaaDoor.Betw
open Go Go.RowKit Go.Proofs.YtgldkfaiofkhbaaDoor Go.Proofs.YtgldkfaiofkhbaaDoor.Mem Go.Proofs.YtgldkfaiofkhbaaDoor.Bytes Go.Proofs.YtgldkfaiofkhbaaDoor.TreeMath Go.Proofs.YtgldkfaiofkhbaaDoor.Subs Go.Proofs.YtgldkfaiofkhbaaDoor.Len

end Go.Proofs.YtgldkfaiofkhbaaDoor.Betw
