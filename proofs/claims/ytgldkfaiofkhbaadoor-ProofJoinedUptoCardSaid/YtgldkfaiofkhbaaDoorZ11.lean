/-
  Texts of the claim, put into one file: Len.
-/
import Derived.Test.YtgldkfaiofkhbaaDoorZ0
import Derived.Test.YtgldkfaiofkhbaaDoorZ1
import Derived.Test.YtgldkfaiofkhbaaDoorShelf
import Derived.Lib.Hide
import Derived.Outline
import Derived.IntWalk

namespace Go.Proofs.YtgldkfaiofkhbaaDoor.Len
open Go Go.RowKit Go.Proofs.YtgldkfaiofkhbaaDoor Go.Proofs.YtgldkfaiofkhbaaDoor.TreeMath Go.Proofs.YtgldkfaiofkhbaaDoor.SpotsMath

end Go.Proofs.YtgldkfaiofkhbaaDoor.Len
