/-
  Texts of the claim, put into one file: Chain.
-/
import Derived.Test.YtmdkfhfkdcbpgaaDoorRZ28
import Derived.Test.YtmdkfhfkdcbpgaaDoorRZ14
import Derived.Test.YtmdkfhfkdcbpgaaDoorRZ5

namespace Go.Proofs.YtmdkfhfkdcbpgaaDoorR.Chain
open Go Go.RowKit Go.Proofs.YtmdkfhfkdcbpgaaDoorR Go.Proofs.YtmdkfhfkdcbpgaaDoorR.Mem Go.Proofs.YtmdkfhfkdcbpgaaDoorR.Sha Go.Proofs.YtmdkfhfkdcbpgaaDoorR.ShaWalk Go.Proofs.YtmdkfhfkdcbpgaaDoorR.Bytes Go.Proofs.YtmdkfhfkdcbpgaaDoorR.HashMem Go.Proofs.YtmdkfhfkdcbpgaaDoorR.Hash Go.Proofs.YtmdkfhfkdcbpgaaDoorR.HashSum Go.Proofs.YtmdkfhfkdcbpgaaDoorR.DigestMem Go.Proofs.YtmdkfhfkdcbpgaaDoorR.Digest Go.Proofs.YtmdkfhfkdcbpgaaDoorR.DigestOf Go.Proofs.YtmdkfhfkdcbpgaaDoorR.RefSum Go.Proofs.YtmdkfhfkdcbpgaaDoorR.RefCut Go.Proofs.YtmdkfhfkdcbpgaaDoorR.RefOf Go.Proofs.YtmdkfhfkdcbpgaaDoorR.DigestTop Go.Proofs.YtmdkfhfkdcbpgaaDoorR.RefTop Go.Proofs.YtmdkfhfkdcbpgaaDoorR.QuietTail Go.Proofs.YtmdkfhfkdcbpgaaDoorR.Grown

end Go.Proofs.YtmdkfhfkdcbpgaaDoorR.Chain
