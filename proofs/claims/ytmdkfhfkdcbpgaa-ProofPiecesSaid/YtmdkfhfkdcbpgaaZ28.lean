/-
  Texts of the claim, put into one file: HashMem, DigestMem.
-/
import Derived.Test.YtmdkfhfkdcbpgaaZ3
import Derived.Test.YtmdkfhfkdcbpgaaZ0
import Derived.Test.YtmdkfhfkdcbpgaaZ27
import Derived.Test.YtmdkfhfkdcbpgaaZ4

namespace Go.Proofs.Ytmdkfhfkdcbpgaa.HashMem
open Go Go.RowKit Go.Proofs.Ytmdkfhfkdcbpgaa Go.Proofs.Ytmdkfhfkdcbpgaa.Mem Go.Proofs.Ytmdkfhfkdcbpgaa.Sha Go.Proofs.Ytmdkfhfkdcbpgaa.ShaWalk Go.Proofs.Ytmdkfhfkdcbpgaa.Bytes

section
variable {w w' : World} {g k n : Nat} {s : St} {f : Nat → BitVec 8} {cs cs' : Array Value}
end

end Go.Proofs.Ytmdkfhfkdcbpgaa.HashMem

namespace Go.Proofs.Ytmdkfhfkdcbpgaa.DigestMem
open Go Go.RowKit Go.Proofs.Ytmdkfhfkdcbpgaa Go.Proofs.Ytmdkfhfkdcbpgaa.Mem Go.Proofs.Ytmdkfhfkdcbpgaa.Sha Go.Proofs.Ytmdkfhfkdcbpgaa.ShaWalk Go.Proofs.Ytmdkfhfkdcbpgaa.Bytes Go.Proofs.Ytmdkfhfkdcbpgaa.HashMem

end Go.Proofs.Ytmdkfhfkdcbpgaa.DigestMem
