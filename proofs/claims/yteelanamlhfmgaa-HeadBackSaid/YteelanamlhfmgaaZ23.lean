/-
  Texts of the claim, put into one file: RefRising.
-/
import Derived.Test.YteelanamlhfmgaaZ5
import Derived.Test.YteelanamlhfmgaaZ20
import Derived.Test.YteelanamlhfmgaaZ6
import Derived.Deep.Cut

namespace Go.Proofs.Yteelanamlhfmgaa.RefRising
open Go Go.RowKit Go.Proofs.Yteelanamlhfmgaa Go.Proofs.Yteelanamlhfmgaa.Mem Go.Proofs.Yteelanamlhfmgaa.Sha Go.Proofs.Yteelanamlhfmgaa.Bytes Go.Proofs.Yteelanamlhfmgaa.SortP Go.Proofs.Yteelanamlhfmgaa.NoteP Go.Proofs.Yteelanamlhfmgaa.Grown Go.Proofs.Yteelanamlhfmgaa.Want Go.Proofs.Yteelanamlhfmgaa.Rise Go.Proofs.Yteelanamlhfmgaa.Append Go.Proofs.Yteelanamlhfmgaa.Own Go.Proofs.Yteelanamlhfmgaa.SgM Go.Proofs.Yteelanamlhfmgaa.Held Go.Proofs.Yteelanamlhfmgaa.RefLess Go.Proofs.Yteelanamlhfmgaa.DigEq Go.Proofs.Yteelanamlhfmgaa.EncNoteP

/-- What Rising leaves: the row, or nothing. -/
def RisPost (B : Nat) (w' : World) (v : Value) (n : Nat) : Option (List Text) → Prop
  | none => v = .slice none 0 0
  | some rs => OwnS w' B v n rs
theorem RisPost.below {B : Nat} {w w' : World} {v : Value} {n : Nat} {o : Option (List Text)} (h : RisPost B w v n o) (hb : Below w.heap.size w w') : RisPost B w' v n o := by
  cases o with
  | none => exact h
  | some rs => exact OwnS.below h hb
end Go.Proofs.Yteelanamlhfmgaa.RefRising
