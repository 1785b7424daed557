/-
  Texts of the claim, put into one file: RowNote.
-/
import Derived.Test.YteelanamlhfmgaaDoorZ8
import Derived.Test.YteelanamlhfmgaaDoorZ31
import Derived.Deep.Strs

namespace Go.Proofs.YteelanamlhfmgaaDoor.RowNote
open Go Go.RowKit Go.ChangeShapes Go.WideShapes Go.Proofs.YteelanamlhfmgaaDoor Go.Proofs.YteelanamlhfmgaaDoor.Mem Go.Proofs.YteelanamlhfmgaaDoor.Sha Go.Proofs.YteelanamlhfmgaaDoor.Bytes Go.Proofs.YteelanamlhfmgaaDoor.Row Go.Proofs.YteelanamlhfmgaaDoor.HeadMem Go.Proofs.YteelanamlhfmgaaDoor.Rise Go.Proofs.YteelanamlhfmgaaDoor.EncNote

def headKs : List CK := reps 32 [.int .u8] ++ ([.int .i64] ++ (reps 32 [.int .u8] ++ (reps 32 [.int .u8] ++ [.int .i64])))
theorem fits_i64 {cs : List Value} (h : Fits [.int .i64] cs) : ∃ n : Int, cs = [.int .i64 n] ∧ -9223372036854775808 ≤ n ∧ n ≤ 9223372036854775807 := by
  have hl := h.length
  match cs, hl, h with
  | [v], _, h =>
    obtain ⟨n, rfl, hw⟩ := h.1
    exact ⟨n, rfl, by simpa [Lit.wf, IntKind.min, IntKind.max, IntKind.signed, IntKind.bits] using hw⟩
theorem fits_head (cs : List Value) (h : Fits headKs cs) : ∃ h : HeadMem.HeadD, h.Ok ∧ cs = HeadMem.headCells h := by
  unfold headKs at h
  obtain ⟨h1, h2⟩ := h.split
  obtain ⟨h3, h4⟩ := h2.split
  obtain ⟨h5, h6⟩ := h4.split
  obtain ⟨h7, h8⟩ := h6.split
  obtain ⟨q1, e1, f1⟩ := fits_bytes _ _ h1
  obtain ⟨n2, f2, b2⟩ := fits_i64 h3
  obtain ⟨q3, e3, f3⟩ := fits_bytes _ _ h5
  obtain ⟨q4, e4, f4⟩ := fits_bytes _ _ h7
  obtain ⟨n5, f5, b5⟩ := fits_i64 h8
  refine ⟨⟨q1, n2, q3, q4, n5⟩, ⟨e1, e3, e4, b2, b5⟩, ?_⟩
  unfold HeadMem.headCells
  show cs = cells8 q1 ++ ([.int .i64 n2] ++ (cells8 q3 ++ (cells8 q4 ++ [.int .i64 n5])))
  rw [← f1, ← f2, ← f3, ← f4, ← f5, List.take_append_drop, List.take_append_drop, List.take_append_drop, List.take_append_drop]
section
variable {H : Type} {enc : TypeId × Value → H} {w : World} {base : Nat} {held : Bool}

end
end Go.Proofs.YteelanamlhfmgaaDoor.RowNote
