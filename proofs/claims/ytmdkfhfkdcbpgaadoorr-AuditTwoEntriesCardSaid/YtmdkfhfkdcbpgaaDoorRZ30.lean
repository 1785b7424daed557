/-
  Texts of the claim, put into one file: Chain.
-/
import Derived.Test.YtmdkfhfkdcbpgaaDoorRZ27
import Derived.Test.YtmdkfhfkdcbpgaaDoorRZ26
import Derived.Test.YtmdkfhfkdcbpgaaDoorRZ5

namespace Go.Proofs.YtmdkfhfkdcbpgaaDoorR.Chain
open Go Go.RowKit Go.Proofs.YtmdkfhfkdcbpgaaDoorR Mem Sha ShaWalk Bytes HashMem Hash HashSum DigestMem Digest DigestOf RefSum RefCut RefOf DigestTop RefTop QuietTail Grown

def leafOf (s : Int) (q : Text) : Text := cutTo (sum (kb 0 :: q)) (clampN s)
theorem leafOf_len (s : Int) (q : Text) : (leafOf s q).length = 32 := cutTo_len _ _ (sum_len _) (clampN_ok s).2
end Go.Proofs.YtmdkfhfkdcbpgaaDoorR.Chain
