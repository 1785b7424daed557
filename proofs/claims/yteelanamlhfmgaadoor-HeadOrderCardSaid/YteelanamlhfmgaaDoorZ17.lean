/-
  Texts of the claim, put into one file: RefMac.
-/
import Derived.Test.YteelanamlhfmgaaDoorZ15
import Derived.Test.YteelanamlhfmgaaDoorZ9

namespace Go.Proofs.YteelanamlhfmgaaDoor.RefMac
open Go Go.RowKit Go.Proofs.YteelanamlhfmgaaDoor Go.Proofs.YteelanamlhfmgaaDoor.Mem Go.Proofs.YteelanamlhfmgaaDoor.Sha Go.Proofs.YteelanamlhfmgaaDoor.Bytes Go.Proofs.YteelanamlhfmgaaDoor.Append Go.Proofs.YteelanamlhfmgaaDoor.DigestMem Go.Proofs.YteelanamlhfmgaaDoor.Digest Go.Proofs.YteelanamlhfmgaaDoor.Mac Go.Proofs.YteelanamlhfmgaaDoor.Own Go.Proofs.YteelanamlhfmgaaDoor.RefSum

/-- Two rows in blocks of their own. -/
def Two (u v : Value) : Prop := ∀ k, u.ownBlock = some k → v.ownBlock = some k → False
theorem Two.symm {u v : Value} (h : Two u v) : Two v u := fun k h1 h2 => h k h2 h1
end Go.Proofs.YteelanamlhfmgaaDoor.RefMac
