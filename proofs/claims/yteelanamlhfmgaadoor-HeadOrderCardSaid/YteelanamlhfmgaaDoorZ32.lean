/-
  Texts of the claim, put into one file: RefRising.
-/
import Derived.Test.YteelanamlhfmgaaDoorZ5
import Derived.Test.YteelanamlhfmgaaDoorZ26
import Derived.Test.YteelanamlhfmgaaDoorZ7
import Derived.Deep.Cut

namespace Go.Proofs.YteelanamlhfmgaaDoor.RefRising
open Go Go.RowKit Go.Proofs.YteelanamlhfmgaaDoor Go.Proofs.YteelanamlhfmgaaDoor.Mem Go.Proofs.YteelanamlhfmgaaDoor.Sha Go.Proofs.YteelanamlhfmgaaDoor.Bytes Go.Proofs.YteelanamlhfmgaaDoor.SortP Go.Proofs.YteelanamlhfmgaaDoor.NoteP Go.Proofs.YteelanamlhfmgaaDoor.Grown Go.Proofs.YteelanamlhfmgaaDoor.Want Go.Proofs.YteelanamlhfmgaaDoor.Rise Go.Proofs.YteelanamlhfmgaaDoor.Append Go.Proofs.YteelanamlhfmgaaDoor.Own Go.Proofs.YteelanamlhfmgaaDoor.SgM Go.Proofs.YteelanamlhfmgaaDoor.Held Go.Proofs.YteelanamlhfmgaaDoor.RefLess Go.Proofs.YteelanamlhfmgaaDoor.DigEq Go.Proofs.YteelanamlhfmgaaDoor.EncNoteP

theorem ins_end {r : List Text} {a : Nat} {x : Text} (ha : r.length = a) : (ins kyS x (r.drop a)).map (r.take a ++ ·) = some (r.take a ++ [x] ++ r.drop a) := by
  rw [List.drop_of_length_le (by omega)]
  simp [ins]
/-- What Rising leaves: the row, or nothing. -/
def RisPost (B : Nat) (w' : World) (v : Value) (n : Nat) : Option (List Text) → Prop
  | none => v = .slice none 0 0
  | some rs => OwnS w' B v n rs
theorem RisPost.below {B : Nat} {w w' : World} {v : Value} {n : Nat} {o : Option (List Text)} (h : RisPost B w v n o) (hb : Below w.heap.size w w') : RisPost B w' v n o := by
  cases o with
  | none => exact h
  | some rs => exact OwnS.below h hb
end Go.Proofs.YteelanamlhfmgaaDoor.RefRising
