/-
  Texts of the claim, put into one file: Reader4, Reader5, Reader6.
-/
import Derived.Test.YthkdlaohaekilaaDoorZ13
import Derived.Test.YthkdlaohaekilaaDoorZ14

namespace Go.Proofs.YthkdlaohaekilaaDoor.Reader4
open Go Go.RowKit Go.Proofs.YthkdlaohaekilaaDoor Go.Proofs.YthkdlaohaekilaaDoor.Mem Go.Proofs.YthkdlaohaekilaaDoor.Sha Go.Proofs.YthkdlaohaekilaaDoor.Bytes Go.Proofs.YthkdlaohaekilaaDoor.QuietTail Go.Proofs.YthkdlaohaekilaaDoor.TreeMem Go.Proofs.YthkdlaohaekilaaDoor.TreeRoot Go.Proofs.YthkdlaohaekilaaDoor.Book Go.Proofs.YthkdlaohaekilaaDoor.Reader Go.Proofs.YthkdlaohaekilaaDoor.Reader2 Go.Proofs.YthkdlaohaekilaaDoor.Reader3

/-- The i-th piece of 32 bytes. -/
def chunk (q : Text) (i : Nat) : Text := (q.drop (32 * i)).take 32
def chunks (q : Text) (n : Nat) : List Text := (List.range n).map (chunk q)
end Go.Proofs.YthkdlaohaekilaaDoor.Reader4

namespace Go.Proofs.YthkdlaohaekilaaDoor.Reader5
open Go Go.RowKit Go.Proofs.YthkdlaohaekilaaDoor Go.Proofs.YthkdlaohaekilaaDoor.Mem Go.Proofs.YthkdlaohaekilaaDoor.Sha Go.Proofs.YthkdlaohaekilaaDoor.Bytes Go.Proofs.YthkdlaohaekilaaDoor.QuietTail Go.Proofs.YthkdlaohaekilaaDoor.TreeMem Go.Proofs.YthkdlaohaekilaaDoor.TreeRoot Go.Proofs.YthkdlaohaekilaaDoor.Book Go.Proofs.YthkdlaohaekilaaDoor.Reader Go.Proofs.YthkdlaohaekilaaDoor.Reader2 Go.Proofs.YthkdlaohaekilaaDoor.Reader3 Go.Proofs.YthkdlaohaekilaaDoor.Reader4

end Go.Proofs.YthkdlaohaekilaaDoor.Reader5

namespace Go.Proofs.YthkdlaohaekilaaDoor.Reader6
open Go Go.RowKit Go.Proofs.YthkdlaohaekilaaDoor Go.Proofs.YthkdlaohaekilaaDoor.Mem Go.Proofs.YthkdlaohaekilaaDoor.Sha Go.Proofs.YthkdlaohaekilaaDoor.Bytes Go.Proofs.YthkdlaohaekilaaDoor.TreeMem Go.Proofs.YthkdlaohaekilaaDoor.TreeRoot Go.Proofs.YthkdlaohaekilaaDoor.Reader Go.Proofs.YthkdlaohaekilaaDoor.Reader2 Go.Proofs.YthkdlaohaekilaaDoor.Reader3 Go.Proofs.YthkdlaohaekilaaDoor.Reader4 Go.Proofs.YthkdlaohaekilaaDoor.Reader5

end Go.Proofs.YthkdlaohaekilaaDoor.Reader6
