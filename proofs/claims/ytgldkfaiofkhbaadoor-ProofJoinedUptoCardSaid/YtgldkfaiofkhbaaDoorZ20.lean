/-
  Texts of the claim, put into one file: Reader4, Reader5, Reader6.
-/
import Derived.Test.YtgldkfaiofkhbaaDoorZ16
import Derived.Test.YtgldkfaiofkhbaaDoorZ19

namespace Go.Proofs.YtgldkfaiofkhbaaDoor.Reader4
open Go Go.RowKit Go.Proofs.YtgldkfaiofkhbaaDoor Go.Proofs.YtgldkfaiofkhbaaDoor.Mem Go.Proofs.YtgldkfaiofkhbaaDoor.Sha Go.Proofs.YtgldkfaiofkhbaaDoor.Bytes Go.Proofs.YtgldkfaiofkhbaaDoor.QuietTail Go.Proofs.YtgldkfaiofkhbaaDoor.TreeMem Go.Proofs.YtgldkfaiofkhbaaDoor.TreeRoot Go.Proofs.YtgldkfaiofkhbaaDoor.Book Go.Proofs.YtgldkfaiofkhbaaDoor.Reader Go.Proofs.YtgldkfaiofkhbaaDoor.Reader2 Go.Proofs.YtgldkfaiofkhbaaDoor.Reader3

/-- The i-th piece of 32 bytes. -/
def chunk (q : Text) (i : Nat) : Text := (q.drop (32 * i)).take 32
def chunks (q : Text) (n : Nat) : List Text := (List.range n).map (chunk q)
theorem enough {a b L LL n : Nat} (h : a - b = L) (hl : L / 32 = LL) (h2 : b + 32 * n ≤ a) : ¬ LL < n := by omega
end Go.Proofs.YtgldkfaiofkhbaaDoor.Reader4

namespace Go.Proofs.YtgldkfaiofkhbaaDoor.Reader5
open Go Go.RowKit Go.Proofs.YtgldkfaiofkhbaaDoor Go.Proofs.YtgldkfaiofkhbaaDoor.Mem Go.Proofs.YtgldkfaiofkhbaaDoor.Sha Go.Proofs.YtgldkfaiofkhbaaDoor.Bytes Go.Proofs.YtgldkfaiofkhbaaDoor.QuietTail Go.Proofs.YtgldkfaiofkhbaaDoor.TreeMem Go.Proofs.YtgldkfaiofkhbaaDoor.TreeRoot Go.Proofs.YtgldkfaiofkhbaaDoor.Book Go.Proofs.YtgldkfaiofkhbaaDoor.Reader Go.Proofs.YtgldkfaiofkhbaaDoor.Reader2 Go.Proofs.YtgldkfaiofkhbaaDoor.Reader3 Go.Proofs.YtgldkfaiofkhbaaDoor.Reader4

end Go.Proofs.YtgldkfaiofkhbaaDoor.Reader5

namespace Go.Proofs.YtgldkfaiofkhbaaDoor.Reader6
open Go Go.RowKit Go.Proofs.YtgldkfaiofkhbaaDoor Go.Proofs.YtgldkfaiofkhbaaDoor.Mem Go.Proofs.YtgldkfaiofkhbaaDoor.Sha Go.Proofs.YtgldkfaiofkhbaaDoor.Bytes Go.Proofs.YtgldkfaiofkhbaaDoor.TreeMem Go.Proofs.YtgldkfaiofkhbaaDoor.TreeRoot Go.Proofs.YtgldkfaiofkhbaaDoor.Reader Go.Proofs.YtgldkfaiofkhbaaDoor.Reader2 Go.Proofs.YtgldkfaiofkhbaaDoor.Reader3 Go.Proofs.YtgldkfaiofkhbaaDoor.Reader4 Go.Proofs.YtgldkfaiofkhbaaDoor.Reader5

end Go.Proofs.YtgldkfaiofkhbaaDoor.Reader6
