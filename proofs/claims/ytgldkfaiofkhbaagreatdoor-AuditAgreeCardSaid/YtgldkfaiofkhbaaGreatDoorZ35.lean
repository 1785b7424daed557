/-
  Texts of the claim, put into one file: IdxRef, IdxRef2.
-/
import Derived.Test.YtgldkfaiofkhbaaGreatDoorZ26
import Derived.Test.YtgldkfaiofkhbaaGreatDoorZ11
import Derived.Test.YtgldkfaiofkhbaaGreatDoorZ10
import Derived.Test.YtgldkfaiofkhbaaGreatDoorZ30

namespace Go.Proofs.YtgldkfaiofkhbaaGreatDoor.IdxRef
open Go Go.RowKit Go.Proofs.YtgldkfaiofkhbaaGreatDoor Mem Sha Bytes Go.Proofs.YtgldkfaiofkhbaaGreatDoor.Append Octet Octet2 HeadMem ProofBeside ProofEnc ProofIdx ProofIdx2 ProofIdx3 StructEq IdxAny IdxEnc IdxRef0 QuietTail Grown Held Want

end Go.Proofs.YtgldkfaiofkhbaaGreatDoor.IdxRef

namespace Go.Proofs.YtgldkfaiofkhbaaGreatDoor.IdxRef2
open Go Go.RowKit Go.Proofs.YtgldkfaiofkhbaaGreatDoor Mem Sha Bytes Go.Proofs.YtgldkfaiofkhbaaGreatDoor.Append Octet Octet2 Own HeadMem ProofBeside ProofEnc ProofIdx ProofIdx2 ProofIdx3 StructEq IdxAny IdxEnc IdxRef0 IdxRef QuietTail Grown Held Want TreeMem Ref17

end Go.Proofs.YtgldkfaiofkhbaaGreatDoor.IdxRef2
