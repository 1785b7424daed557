/-
  Texts of the claim, put into one file: RefTop.
-/
import Derived.Test.YtmdkfhfkdcbpgaaDoorRZ13
import Derived.Test.YtmdkfhfkdcbpgaaDoorRZ14

namespace Go.Proofs.YtmdkfhfkdcbpgaaDoorR.RefTop
open Go Go.RowKit Go.Proofs.YtmdkfhfkdcbpgaaDoorR Go.Proofs.YtmdkfhfkdcbpgaaDoorR.Mem Go.Proofs.YtmdkfhfkdcbpgaaDoorR.Sha Go.Proofs.YtmdkfhfkdcbpgaaDoorR.ShaWalk Go.Proofs.YtmdkfhfkdcbpgaaDoorR.Bytes Go.Proofs.YtmdkfhfkdcbpgaaDoorR.HashMem Go.Proofs.YtmdkfhfkdcbpgaaDoorR.Hash Go.Proofs.YtmdkfhfkdcbpgaaDoorR.HashSum Go.Proofs.YtmdkfhfkdcbpgaaDoorR.DigestMem Go.Proofs.YtmdkfhfkdcbpgaaDoorR.Digest Go.Proofs.YtmdkfhfkdcbpgaaDoorR.DigestOf Go.Proofs.YtmdkfhfkdcbpgaaDoorR.RefSum Go.Proofs.YtmdkfhfkdcbpgaaDoorR.RefCut Go.Proofs.YtmdkfhfkdcbpgaaDoorR.RefOf Go.Proofs.YtmdkfhfkdcbpgaaDoorR.DigestTop

end Go.Proofs.YtmdkfhfkdcbpgaaDoorR.RefTop
