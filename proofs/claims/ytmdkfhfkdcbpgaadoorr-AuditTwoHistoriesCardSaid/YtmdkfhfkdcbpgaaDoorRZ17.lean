/-
  Texts of the claim, put into one file: Law20.
-/
import Derived.Test.YtmdkfhfkdcbpgaaDoorRZ11
import Derived.Test.YtmdkfhfkdcbpgaaDoorRZ7

namespace Go.Proofs.YtmdkfhfkdcbpgaaDoorR.Law20
open Go Go.RowKit Go.Proofs.YtmdkfhfkdcbpgaaDoorR Go.Proofs.YtmdkfhfkdcbpgaaDoorR.Mem Go.Proofs.YtmdkfhfkdcbpgaaDoorR.Sha Go.Proofs.YtmdkfhfkdcbpgaaDoorR.Bytes Go.Proofs.YtmdkfhfkdcbpgaaDoorR.QuietTail Go.Proofs.YtmdkfhfkdcbpgaaDoorR.Grown Go.Proofs.YtmdkfhfkdcbpgaaDoorR.TreeMem Go.Proofs.YtmdkfhfkdcbpgaaDoorR.TreeRoot Go.Proofs.YtmdkfhfkdcbpgaaDoorR.Held Go.Proofs.YtmdkfhfkdcbpgaaDoorR.Book Go.Proofs.YtmdkfhfkdcbpgaaDoorR.Book2

end Go.Proofs.YtmdkfhfkdcbpgaaDoorR.Law20
