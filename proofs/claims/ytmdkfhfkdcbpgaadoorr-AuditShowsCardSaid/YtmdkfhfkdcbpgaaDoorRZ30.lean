/-
  Texts of the claim, put into one file: TreeMem, TreeRoot, TreeFold.
-/
import Derived.Test.YtmdkfhfkdcbpgaaDoorRZ0
import Derived.Test.YtmdkfhfkdcbpgaaDoorRZ4
import Derived.Test.YtmdkfhfkdcbpgaaDoorRZ15
import Derived.Test.YtmdkfhfkdcbpgaaDoorRZ29
import Derived.Test.YtmdkfhfkdcbpgaaDoorRZ7

namespace Go.Proofs.YtmdkfhfkdcbpgaaDoorR.TreeMem
open Go Go.RowKit Go.Proofs.YtmdkfhfkdcbpgaaDoorR Go.Proofs.YtmdkfhfkdcbpgaaDoorR.Mem Go.Proofs.YtmdkfhfkdcbpgaaDoorR.Sha Go.Proofs.YtmdkfhfkdcbpgaaDoorR.ShaWalk Go.Proofs.YtmdkfhfkdcbpgaaDoorR.Bytes Go.Proofs.YtmdkfhfkdcbpgaaDoorR.HashMem Go.Proofs.YtmdkfhfkdcbpgaaDoorR.DigestMem Go.Proofs.YtmdkfhfkdcbpgaaDoorR.DigestTop Go.Proofs.YtmdkfhfkdcbpgaaDoorR.RefTop Go.Proofs.YtmdkfhfkdcbpgaaDoorR.QuietTail Go.Proofs.YtmdkfhfkdcbpgaaDoorR.Grown Go.Proofs.YtmdkfhfkdcbpgaaDoorR.Chain Go.Proofs.YtmdkfhfkdcbpgaaDoorR.TreeMath Go.Proofs.YtmdkfhfkdcbpgaaDoorR.SpotsWalk Go.Proofs.YtmdkfhfkdcbpgaaDoorR.SpotsMath

end Go.Proofs.YtmdkfhfkdcbpgaaDoorR.TreeMem

namespace Go.Proofs.YtmdkfhfkdcbpgaaDoorR.TreeRoot
open Go Go.RowKit Go.Proofs.YtmdkfhfkdcbpgaaDoorR Go.Proofs.YtmdkfhfkdcbpgaaDoorR.Digest Go.Proofs.YtmdkfhfkdcbpgaaDoorR.Mem Go.Proofs.YtmdkfhfkdcbpgaaDoorR.Sha Go.Proofs.YtmdkfhfkdcbpgaaDoorR.ShaWalk Go.Proofs.YtmdkfhfkdcbpgaaDoorR.Bytes Go.Proofs.YtmdkfhfkdcbpgaaDoorR.HashMem Go.Proofs.YtmdkfhfkdcbpgaaDoorR.DigestMem Go.Proofs.YtmdkfhfkdcbpgaaDoorR.DigestTop Go.Proofs.YtmdkfhfkdcbpgaaDoorR.RefTop Go.Proofs.YtmdkfhfkdcbpgaaDoorR.QuietTail Go.Proofs.YtmdkfhfkdcbpgaaDoorR.Grown Go.Proofs.YtmdkfhfkdcbpgaaDoorR.Chain Go.Proofs.YtmdkfhfkdcbpgaaDoorR.TreeMath Go.Proofs.YtmdkfhfkdcbpgaaDoorR.TreeMem

def ndOf (s : Int) (a b : Text) : Text := cutTo (sum (kb 1 :: (a ++ b))) (clampN s)
theorem ndOf_len (s : Int) (a b : Text) : (ndOf s a b).length = 32 := cutTo_len _ _ (sum_len _) (clampN_ok s).2
end Go.Proofs.YtmdkfhfkdcbpgaaDoorR.TreeRoot

namespace Go.Proofs.YtmdkfhfkdcbpgaaDoorR.TreeFold
open Go Go.RowKit Go.Proofs.YtmdkfhfkdcbpgaaDoorR Go.Proofs.YtmdkfhfkdcbpgaaDoorR.Digest Go.Proofs.YtmdkfhfkdcbpgaaDoorR.Mem Go.Proofs.YtmdkfhfkdcbpgaaDoorR.Sha Go.Proofs.YtmdkfhfkdcbpgaaDoorR.ShaWalk Go.Proofs.YtmdkfhfkdcbpgaaDoorR.Bytes Go.Proofs.YtmdkfhfkdcbpgaaDoorR.HashMem Go.Proofs.YtmdkfhfkdcbpgaaDoorR.DigestMem Go.Proofs.YtmdkfhfkdcbpgaaDoorR.DigestTop Go.Proofs.YtmdkfhfkdcbpgaaDoorR.RefTop Go.Proofs.YtmdkfhfkdcbpgaaDoorR.QuietTail Go.Proofs.YtmdkfhfkdcbpgaaDoorR.Grown Go.Proofs.YtmdkfhfkdcbpgaaDoorR.Chain Go.Proofs.YtmdkfhfkdcbpgaaDoorR.TreeMath Go.Proofs.YtmdkfhfkdcbpgaaDoorR.TreeMem Go.Proofs.YtmdkfhfkdcbpgaaDoorR.TreeRoot

end Go.Proofs.YtmdkfhfkdcbpgaaDoorR.TreeFold
