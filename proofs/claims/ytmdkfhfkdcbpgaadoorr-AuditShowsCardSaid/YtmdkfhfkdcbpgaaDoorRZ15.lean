/-
  Texts of the claim, put into one file: SpotsWalk.
-/
import Derived.Test.YtmdkfhfkdcbpgaaDoorRZ3
import Derived.Test.YtmdkfhfkdcbpgaaDoorRZ1
import Derived.Test.YtmdkfhfkdcbpgaaDoorRShelf
import Derived.Test.YtmdkfhfkdcbpgaaDoorRRows
import Derived.Lib.Hide
import Derived.Outline
import Derived.WalkLawsBesides

namespace Go.Proofs.YtmdkfhfkdcbpgaaDoorR.SpotsWalk
open Go Go.RowKit Go.Proofs.YtmdkfhfkdcbpgaaDoorR Go.Proofs.YtmdkfhfkdcbpgaaDoorR.Mem Go.Proofs.YtmdkfhfkdcbpgaaDoorR.SpotsMath

/-- A spot as cells. -/
def flat (l : List (Nat × Nat)) : List Value := l.flatMap fun p => [.int .i64 (p.1 : Int), .int .i64 (p.2 : Int)]
end Go.Proofs.YtmdkfhfkdcbpgaaDoorR.SpotsWalk
