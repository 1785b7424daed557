/-
  Texts of the claim, put into one file: SpotsWalk.
-/
import Derived.Test.YtgldkfaiofkhbaaGreatDoorZ2
import Derived.Test.YtgldkfaiofkhbaaGreatDoorZ1
import Derived.Test.YtgldkfaiofkhbaaGreatDoorShelf
import Derived.Test.YtgldkfaiofkhbaaGreatDoorRows
import Derived.Lib.Hide
import Derived.Shelf.Spec.TrailingZeros
import Derived.Outline
import Derived.WalkLawsBesides

namespace Go.Proofs.YtgldkfaiofkhbaaGreatDoor.SpotsWalk
open Go Go.RowKit Go.Proofs.YtgldkfaiofkhbaaGreatDoor Mem SpotsMath

def flat (l : List (Nat × Nat)) : List Value := l.flatMap fun p => [.int .i64 (p.1 : Int), .int .i64 (p.2 : Int)]
theorem flat_len : ∀ l, (flat l).length = l.length * 2
 | [] => rfl
 | p :: l => by have := flat_len l; simp only [flat, List.flatMap_cons, List.length_append, List.length_cons, List.length_nil] at this ⊢; omega
def LB (x : Int) : Int := Lib.bitLen x.toNat
theorem len_any (x : Int) (w : World) (h0 : 0 ≤ x) (h1 : x ≤ 18446744073709551615) :
  Calls Tryz.prog 124 #[.int .u64 x] w fun e w' => e = .returned (.int .i64 (LB x)) ∧ w = w' :=
 (Tryz.bits_Len x w h0 h1).mono fun _ _ ⟨h, k⟩ => ⟨h, k.symm⟩
end Go.Proofs.YtgldkfaiofkhbaaGreatDoor.SpotsWalk
