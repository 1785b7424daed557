/-
  Texts of the claim, put into one file: SpotsWalk.
-/
import Derived.Test.YtmdkfhfkdcbpgaaDoorRZ2
import Derived.Test.YtmdkfhfkdcbpgaaDoorRZ18
import Derived.Test.YtmdkfhfkdcbpgaaDoorRShelf
import Derived.Test.YtmdkfhfkdcbpgaaDoorRRows
import Derived.Lib.Hide
import Derived.Outline
import Derived.WalkLawsBesides

namespace Go.Proofs.YtmdkfhfkdcbpgaaDoorR.SpotsWalk
open Go Go.RowKit Go.Proofs.YtmdkfhfkdcbpgaaDoorR Mem SpotsMath

def flat (l : List (Nat × Nat)) : List Value := l.flatMap fun p => [.int .i64 (p.1 : Int), .int .i64 (p.2 : Int)]
def LB (x : Int) : Int := Lib.bitLen x.toNat
theorem len_any (x : Int) (w : World) (h0 : 0 ≤ x) (h1 : x ≤ 18446744073709551615) :
  Calls Tryd.prog 152 #[.int .u64 x] w fun e w' => e = .returned (.int .i64 (LB x)) ∧ w = w' :=
 (Tryd.bits_Len x w h0 h1).mono fun _ _ ⟨h, k⟩ => ⟨h, k.symm⟩
end Go.Proofs.YtmdkfhfkdcbpgaaDoorR.SpotsWalk
