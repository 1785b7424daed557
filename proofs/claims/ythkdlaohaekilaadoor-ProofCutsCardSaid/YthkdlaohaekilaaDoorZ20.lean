/-
  Texts of the claim, put into one file: ProofIdx2, ProofFlag, ProofIdx3, ProofIdx4.
-/
import Derived.Test.YthkdlaohaekilaaDoorZ19
import Derived.Laws.IdiomStrings

namespace Go.Proofs.YthkdlaohaekilaaDoor.ProofIdx2
open Go Go.RowKit Go.Proofs.YthkdlaohaekilaaDoor Go.Proofs.YthkdlaohaekilaaDoor.Mem Go.Proofs.YthkdlaohaekilaaDoor.Sha Go.Proofs.YthkdlaohaekilaaDoor.Bytes Go.Proofs.YthkdlaohaekilaaDoor.Append Go.Proofs.YthkdlaohaekilaaDoor.Octet Go.Proofs.YthkdlaohaekilaaDoor.Octet2 Go.Proofs.YthkdlaohaekilaaDoor.HeadMem Go.Proofs.YthkdlaohaekilaaDoor.ProofBeside Go.Proofs.YthkdlaohaekilaaDoor.ProofEnc Go.Proofs.YthkdlaohaekilaaDoor.ProofIdx

section
variable {w0 w : World} {g : Nat} {r : Option Nat} {l : Text}
end
end Go.Proofs.YthkdlaohaekilaaDoor.ProofIdx2

namespace Go.Proofs.YthkdlaohaekilaaDoor.ProofIdx2
open Go Go.RowKit Go.Proofs.YthkdlaohaekilaaDoor Go.Proofs.YthkdlaohaekilaaDoor.Mem Go.Proofs.YthkdlaohaekilaaDoor.Sha Go.Proofs.YthkdlaohaekilaaDoor.Bytes Go.Proofs.YthkdlaohaekilaaDoor.Append Go.Proofs.YthkdlaohaekilaaDoor.Octet Go.Proofs.YthkdlaohaekilaaDoor.Octet2 Go.Proofs.YthkdlaohaekilaaDoor.HeadMem Go.Proofs.YthkdlaohaekilaaDoor.ProofBeside Go.Proofs.YthkdlaohaekilaaDoor.ProofEnc Go.Proofs.YthkdlaohaekilaaDoor.ProofIdx
section
variable {w0 w : World} {g : Nat} {r : Option Nat} {l : Text}
end
end Go.Proofs.YthkdlaohaekilaaDoor.ProofIdx2

namespace Go.Proofs.YthkdlaohaekilaaDoor.ProofIdx3
open Go Go.RowKit Go.Proofs.YthkdlaohaekilaaDoor Go.Proofs.YthkdlaohaekilaaDoor.Mem Go.Proofs.YthkdlaohaekilaaDoor.Sha Go.Proofs.YthkdlaohaekilaaDoor.Bytes Go.Proofs.YthkdlaohaekilaaDoor.Append Go.Proofs.YthkdlaohaekilaaDoor.Octet Go.Proofs.YthkdlaohaekilaaDoor.Octet2 Go.Proofs.YthkdlaohaekilaaDoor.HeadMem Go.Proofs.YthkdlaohaekilaaDoor.ProofBeside Go.Proofs.YthkdlaohaekilaaDoor.ProofEnc Go.Proofs.YthkdlaohaekilaaDoor.ProofIdx Go.Proofs.YthkdlaohaekilaaDoor.ProofIdx2 Go.Proofs.YthkdlaohaekilaaDoor.QuietTail Go.Proofs.YthkdlaohaekilaaDoor.Grown

section
variable {s : ByteArray} {f : Bool} {ent : List Value} {d : Text} {A : Option Addr} {n c : Nat}
end

end Go.Proofs.YthkdlaohaekilaaDoor.ProofIdx3

namespace Go.Proofs.YthkdlaohaekilaaDoor.ProofIdx4
open Go Go.RowKit Go.Proofs.YthkdlaohaekilaaDoor Go.Proofs.YthkdlaohaekilaaDoor.Mem Go.Proofs.YthkdlaohaekilaaDoor.Sha Go.Proofs.YthkdlaohaekilaaDoor.Bytes Go.Proofs.YthkdlaohaekilaaDoor.Append Go.Proofs.YthkdlaohaekilaaDoor.Octet Go.Proofs.YthkdlaohaekilaaDoor.Octet2 Go.Proofs.YthkdlaohaekilaaDoor.HeadMem Go.Proofs.YthkdlaohaekilaaDoor.ProofBeside Go.Proofs.YthkdlaohaekilaaDoor.ProofEnc Go.Proofs.YthkdlaohaekilaaDoor.ProofIdx Go.Proofs.YthkdlaohaekilaaDoor.ProofIdx2 Go.Proofs.YthkdlaohaekilaaDoor.ProofIdx3

end Go.Proofs.YthkdlaohaekilaaDoor.ProofIdx4
