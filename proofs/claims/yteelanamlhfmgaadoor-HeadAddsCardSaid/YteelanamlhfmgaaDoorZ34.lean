/-
  Texts of the claim, put into one file: RefNote.
-/
import Derived.Test.YteelanamlhfmgaaDoorZ25
import Derived.Test.YteelanamlhfmgaaDoorZ33
import Derived.Test.YteelanamlhfmgaaDoorZ15

namespace Go.Proofs.YteelanamlhfmgaaDoor.RefNote
open Go Go.RowKit Go.Proofs.YteelanamlhfmgaaDoor Go.Proofs.YteelanamlhfmgaaDoor.Mem Go.Proofs.YteelanamlhfmgaaDoor.Sha Go.Proofs.YteelanamlhfmgaaDoor.Bytes Go.Proofs.YteelanamlhfmgaaDoor.SortP Go.Proofs.YteelanamlhfmgaaDoor.NoteP Go.Proofs.YteelanamlhfmgaaDoor.Rise Go.Proofs.YteelanamlhfmgaaDoor.Append Go.Proofs.YteelanamlhfmgaaDoor.Own Go.Proofs.YteelanamlhfmgaaDoor.SgM Go.Proofs.YteelanamlhfmgaaDoor.EncNoteP Go.Proofs.YteelanamlhfmgaaDoor.EncNote Go.Proofs.YteelanamlhfmgaaDoor.RefRising Go.Proofs.YteelanamlhfmgaaDoor.HeadMem

theorem rising_len {ss rs : List Text} (h : rising kyS ss = some rs) : rs.length = ss.length := (rising_some h).2.length_eq
end Go.Proofs.YteelanamlhfmgaaDoor.RefNote
