/-
  Texts of the claim, put into one file: RowIncl.
-/
import Derived.Test.YtgldkfaiofkhbaaDoorZ6
import Derived.Test.YtgldkfaiofkhbaaDoorZ3
import Derived.Test.YtgldkfaiofkhbaaDoorZ14
import Derived.Deep.Strs

namespace Go.Proofs.YtgldkfaiofkhbaaDoor.RowIncl
open Go Go.RowKit Go.ChangeShapes Go.WideShapes Go.Proofs.YtgldkfaiofkhbaaDoor Go.Proofs.YtgldkfaiofkhbaaDoor.Mem Go.Proofs.YtgldkfaiofkhbaaDoor.Sha Go.Proofs.YtgldkfaiofkhbaaDoor.Bytes Go.Proofs.YtgldkfaiofkhbaaDoor.TreeMem Go.Proofs.YtgldkfaiofkhbaaDoor.Row Go.Proofs.YtgldkfaiofkhbaaDoor.Ref17

section
variable {H : Type} {enc : TypeId × Value → H} {w : World} {base : Nat} {held : Bool}

end
end Go.Proofs.YtgldkfaiofkhbaaDoor.RowIncl
