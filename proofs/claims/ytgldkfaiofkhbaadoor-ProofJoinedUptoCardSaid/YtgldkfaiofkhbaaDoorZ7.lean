/-
  Texts of the claim, put into one file: SpotsWalk, SpotsRef.
-/
import Derived.Test.YtgldkfaiofkhbaaDoorZ2
import Derived.Test.YtgldkfaiofkhbaaDoorZ1
import Derived.Test.YtgldkfaiofkhbaaDoorShelf
import Derived.Test.YtgldkfaiofkhbaaDoorRows
import Derived.Lib.Hide
import Derived.Shelf.Spec.TrailingZeros
import Derived.Outline
import Derived.WalkLawsBesides

namespace Go.Proofs.YtgldkfaiofkhbaaDoor.SpotsWalk
open Go Go.RowKit Go.Proofs.YtgldkfaiofkhbaaDoor Go.Proofs.YtgldkfaiofkhbaaDoor.Mem Go.Proofs.YtgldkfaiofkhbaaDoor.SpotsMath

/-- A spot as cells. -/
def flat (l : List (Nat × Nat)) : List Value := l.flatMap fun p => [.int .i64 (p.1 : Int), .int .i64 (p.2 : Int)]
theorem flat_len : ∀ l, (flat l).length = l.length * 2
  | [] => rfl
  | p :: l => by have := flat_len l; simp only [flat, List.flatMap_cons, List.length_append, List.length_cons, List.length_nil] at this ⊢; omega
theorem flat_snoc (l : List (Nat × Nat)) (p : Nat × Nat) : flat (l ++ [p]) = flat l ++ [.int .i64 (p.1 : Int), .int .i64 (p.2 : Int)] := by simp [flat]

end Go.Proofs.YtgldkfaiofkhbaaDoor.SpotsWalk

namespace Go.Proofs.YtgldkfaiofkhbaaDoor.SpotsWalk
open Go Go.RowKit Go.Proofs.YtgldkfaiofkhbaaDoor Go.Proofs.YtgldkfaiofkhbaaDoor.Mem Go.Proofs.YtgldkfaiofkhbaaDoor.SpotsMath

end Go.Proofs.YtgldkfaiofkhbaaDoor.SpotsWalk
