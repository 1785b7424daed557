/-
  Texts of the claim, put into one file: ProofIdx, IdxRef0, ProofIdx2, ProofFlag, ProofIdx3, ProofIdx4, IdxAny, IdxEnc, StrAppend.
-/
import Derived.Test.YtgldkfaiofkhbaaGreatDoorZ24
import Derived.Test.YtgldkfaiofkhbaaGreatDoorShelf
import Derived.Test.YtgldkfaiofkhbaaGreatDoorZ10
import Derived.Laws.IdiomStrings
import Derived.Test.YtgldkfaiofkhbaaGreatDoorZ3
import Derived.Test.YtgldkfaiofkhbaaGreatDoorZ6
import Derived.Lib.AppendStr

namespace Go.Proofs.YtgldkfaiofkhbaaGreatDoor.ProofIdx
open Go Go.RowKit Go.Proofs.YtgldkfaiofkhbaaGreatDoor Mem Sha Bytes Go.Proofs.YtgldkfaiofkhbaaGreatDoor.Append Octet Octet2 HeadMem ProofBeside ProofEnc QuietTail Grown

end Go.Proofs.YtgldkfaiofkhbaaGreatDoor.ProofIdx

namespace Go.Proofs.YtgldkfaiofkhbaaGreatDoor.IdxRef0
open Go Go.RowKit Go.Proofs.YtgldkfaiofkhbaaGreatDoor Mem Sha Bytes Go.Proofs.YtgldkfaiofkhbaaGreatDoor.Append Octet Octet2 HeadMem ProofIdx

end Go.Proofs.YtgldkfaiofkhbaaGreatDoor.IdxRef0

namespace Go.Proofs.YtgldkfaiofkhbaaGreatDoor.ProofIdx2
open Go Go.RowKit Go.Proofs.YtgldkfaiofkhbaaGreatDoor Mem Sha Bytes Go.Proofs.YtgldkfaiofkhbaaGreatDoor.Append Octet Octet2 HeadMem ProofBeside ProofEnc ProofIdx

section
variable {w0 w : World} {g : Nat} {r : Option Nat} {l : Text}
end
end Go.Proofs.YtgldkfaiofkhbaaGreatDoor.ProofIdx2

namespace Go.Proofs.YtgldkfaiofkhbaaGreatDoor.ProofIdx2
open Go Go.RowKit Go.Proofs.YtgldkfaiofkhbaaGreatDoor Mem Sha Bytes Go.Proofs.YtgldkfaiofkhbaaGreatDoor.Append Octet Octet2 HeadMem ProofBeside ProofEnc ProofIdx
section
variable {w0 w : World} {g : Nat} {r : Option Nat} {l : Text}
end
end Go.Proofs.YtgldkfaiofkhbaaGreatDoor.ProofIdx2

namespace Go.Proofs.YtgldkfaiofkhbaaGreatDoor.ProofIdx3
open Go Go.RowKit Go.Proofs.YtgldkfaiofkhbaaGreatDoor Mem Sha Bytes Go.Proofs.YtgldkfaiofkhbaaGreatDoor.Append Octet Octet2 HeadMem ProofBeside ProofEnc ProofIdx ProofIdx2 QuietTail Grown

section
variable {s : ByteArray} {f : Bool} {ent : List Value} {d : Text} {A : Option Addr} {n c : Nat}
end

end Go.Proofs.YtgldkfaiofkhbaaGreatDoor.ProofIdx3

namespace Go.Proofs.YtgldkfaiofkhbaaGreatDoor.ProofIdx4
open Go Go.RowKit Go.Proofs.YtgldkfaiofkhbaaGreatDoor Mem Sha Bytes Go.Proofs.YtgldkfaiofkhbaaGreatDoor.Append Octet Octet2 HeadMem ProofBeside ProofEnc ProofIdx ProofIdx2 ProofIdx3

end Go.Proofs.YtgldkfaiofkhbaaGreatDoor.ProofIdx4

namespace Go.Proofs.YtgldkfaiofkhbaaGreatDoor.IdxAny
open Go Go.RowKit Go.Proofs.YtgldkfaiofkhbaaGreatDoor Mem Sha Bytes Go.Proofs.YtgldkfaiofkhbaaGreatDoor.Append Octet Octet2 HeadMem ProofBeside ProofEnc ProofIdx ProofIdx2 ProofIdx3 StructEq QuietTail Grown

def z32 : Text := List.replicate 32 0
end Go.Proofs.YtgldkfaiofkhbaaGreatDoor.IdxAny

namespace Go.Proofs.YtgldkfaiofkhbaaGreatDoor.IdxEnc
open Go Go.RowKit Go.Proofs.YtgldkfaiofkhbaaGreatDoor Mem Sha Bytes Go.Proofs.YtgldkfaiofkhbaaGreatDoor.Append Octet Octet2 HeadMem ProofBeside ProofEnc ProofIdx ProofIdx2 ProofIdx3 ProofIdx4 StructEq IdxAny TreeMem NumberNew

end Go.Proofs.YtgldkfaiofkhbaaGreatDoor.IdxEnc

namespace Go.Proofs.YtgldkfaiofkhbaaGreatDoor.IdxRef2
open Go Go.RowKit Go.Proofs.YtgldkfaiofkhbaaGreatDoor Mem Sha Bytes Go.Proofs.YtgldkfaiofkhbaaGreatDoor.Append Octet Own ProofIdx2

end Go.Proofs.YtgldkfaiofkhbaaGreatDoor.IdxRef2
