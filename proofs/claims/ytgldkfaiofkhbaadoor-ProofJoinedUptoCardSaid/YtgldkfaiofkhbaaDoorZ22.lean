/-
  Texts of the claim, put into one file: IdxMem, IdxBuild.
-/
import Derived.Test.YtgldkfaiofkhbaaDoorZ16
import Derived.Laws.BytesArg

namespace Go.Proofs.YtgldkfaiofkhbaaDoor.IdxMem
open Go Go.RowKit Go.Proofs.YtgldkfaiofkhbaaDoor Go.Proofs.YtgldkfaiofkhbaaDoor.Mem Go.Proofs.YtgldkfaiofkhbaaDoor.Sha Go.Proofs.YtgldkfaiofkhbaaDoor.Bytes Go.Proofs.YtgldkfaiofkhbaaDoor.HeadMem Go.Proofs.YtgldkfaiofkhbaaDoor.ProofIdx2 Go.Proofs.YtgldkfaiofkhbaaDoor.ProofIdx3 Go.Proofs.YtgldkfaiofkhbaaDoor.StructEq

/-- A text as a string. -/
def strT (p : Text) : ByteArray := strOfNums (p.map b8)
section
variable {s s' : ByteArray} {f f' : Bool} {ent ent' : List Value} {d d' : Text} {A A' : Option Addr} {n n' c c' : Nat}
end
end Go.Proofs.YtgldkfaiofkhbaaDoor.IdxMem

namespace Go.Proofs.YtgldkfaiofkhbaaDoor.IdxBuild
open Go Go.RowKit Go.Proofs.YtgldkfaiofkhbaaDoor Go.Proofs.YtgldkfaiofkhbaaDoor.Mem Go.Proofs.YtgldkfaiofkhbaaDoor.Sha Go.Proofs.YtgldkfaiofkhbaaDoor.Bytes Go.Proofs.YtgldkfaiofkhbaaDoor.StructEq

end Go.Proofs.YtgldkfaiofkhbaaDoor.IdxBuild
