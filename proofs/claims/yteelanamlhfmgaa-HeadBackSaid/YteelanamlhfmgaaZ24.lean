/-
  Texts of the claim, put into one file: SameSigns, ReadNote.
-/
import Derived.Test.YteelanamlhfmgaaZ22
import Derived.Test.YteelanamlhfmgaaZ6
import Derived.Test.YteelanamlhfmgaaZ18
import Derived.Test.YteelanamlhfmgaaZ10
import Derived.Deep.Cut
import Derived.Test.YteelanamlhfmgaaZ16
import Derived.Test.YteelanamlhfmgaaZ23

namespace Go.Proofs.Yteelanamlhfmgaa.SameSigns
open Go Go.RowKit Go.Proofs.Yteelanamlhfmgaa Go.Proofs.Yteelanamlhfmgaa.Mem Go.Proofs.Yteelanamlhfmgaa.Sha Go.Proofs.Yteelanamlhfmgaa.Bytes Go.Proofs.Yteelanamlhfmgaa.SortP Go.Proofs.Yteelanamlhfmgaa.NoteP Go.Proofs.Yteelanamlhfmgaa.QuietTail Go.Proofs.Yteelanamlhfmgaa.Grown Go.Proofs.Yteelanamlhfmgaa.Want Go.Proofs.Yteelanamlhfmgaa.Rise Go.Proofs.Yteelanamlhfmgaa.SortM Go.Proofs.Yteelanamlhfmgaa.SgM Go.Proofs.Yteelanamlhfmgaa.HeadMem Go.Proofs.Yteelanamlhfmgaa.EncNoteP Go.Proofs.Yteelanamlhfmgaa.EncNote Go.Proofs.Yteelanamlhfmgaa.RowS Go.Proofs.Yteelanamlhfmgaa.Fill Go.Proofs.Yteelanamlhfmgaa.NoteM Go.Proofs.Yteelanamlhfmgaa.SignEq Go.Proofs.Yteelanamlhfmgaa.HeadEq Go.Proofs.Yteelanamlhfmgaa.CmpW

theorem qHD : Try.prog.eqGuardType Try.prog.depth 25 = false := by kernel_rfl
end Go.Proofs.Yteelanamlhfmgaa.SameSigns

namespace Go.Proofs.Yteelanamlhfmgaa.ReadNote
open Go Go.RowKit Go.Proofs.Yteelanamlhfmgaa Go.Proofs.Yteelanamlhfmgaa.Mem Go.Proofs.Yteelanamlhfmgaa.Sha Go.Proofs.Yteelanamlhfmgaa.Bytes Go.Proofs.Yteelanamlhfmgaa.SortP Go.Proofs.Yteelanamlhfmgaa.NoteP Go.Proofs.Yteelanamlhfmgaa.QuietTail Go.Proofs.Yteelanamlhfmgaa.Grown Go.Proofs.Yteelanamlhfmgaa.Want Go.Proofs.Yteelanamlhfmgaa.Append Go.Proofs.Yteelanamlhfmgaa.Own Go.Proofs.Yteelanamlhfmgaa.Reader Go.Proofs.Yteelanamlhfmgaa.Reader2 Go.Proofs.Yteelanamlhfmgaa.Reader3 Go.Proofs.Yteelanamlhfmgaa.Rise Go.Proofs.Yteelanamlhfmgaa.SortM Go.Proofs.Yteelanamlhfmgaa.SgM Go.Proofs.Yteelanamlhfmgaa.HeadMem Go.Proofs.Yteelanamlhfmgaa.HeadTake Go.Proofs.Yteelanamlhfmgaa.HeadTake2 Go.Proofs.Yteelanamlhfmgaa.EncNoteP Go.Proofs.Yteelanamlhfmgaa.EncNote Go.Proofs.Yteelanamlhfmgaa.RowS Go.Proofs.Yteelanamlhfmgaa.Fill Go.Proofs.Yteelanamlhfmgaa.NoteM Go.Proofs.Yteelanamlhfmgaa.Decode Go.Proofs.Yteelanamlhfmgaa.ReadHead Go.Proofs.Yteelanamlhfmgaa.RefLess

theorem note_set {H : HeadD} (ok : H.Ok) (v u : Value) : (noteCells H v).toArray.setIfInBounds 98 u = (noteCells H u).toArray := by
  unfold noteCells
  rw [List.setIfInBounds_toArray, List.set_append_right _ _ (by rw [headCells_len ok]; exact Nat.le_refl _), headCells_len ok]
  rfl
/-- What stands while the signs are read. -/
structure RN (w0 w : World) (gn B : Nat) (H : HeadD) (A : Option Addr) (i c : Nat) (ds : List Text) : Prop where
  res : Blk w w0.heap.size 28 Z99
  note : Blk w gn 28 (noteCells H (.slice A i c)).toArray
  own : OwnS w B (.slice A i c) i ds
  below : Below w0.heap.size w0 w
  hg : w0.heap.size < gn
  hB : gn < B
  hw : B ≤ w.heap.size
theorem RN.far {w0 w w' : World} {gn B : Nat} {H : HeadD} {A : Option Addr} {i c : Nat} {ds : List Text} (h : RN w0 w gn B H A i c ds) (hk : Below w.heap.size w w') : RN w0 w' gn B H A i c ds :=
  ⟨h.res.kept (S := fun _ => False) (Kept.of_below hk) (fun x => x), h.note.kept (S := fun _ => False) (Kept.of_below hk) (fun x => x), h.own.below hk, h.below.trans (hk.mono h.below.size), h.hg, h.hB, Nat.le_trans h.hw hk.size⟩
theorem RN.push {w0 w w' : World} {gn B : Nat} {H : HeadD} (ok : H.Ok) {A A' : Option Addr} {i c c' : Nat} {ds ds' : List Text} (h : RN w0 w gn B H A i c ds) (hb : Below B w w') (ho : OwnS w' B (.slice A' (i + 1) c') (i + 1) ds') : RN w0 (w'.setCell ⟨gn, 98, none⟩ (.slice A' (i + 1) c')) gn B H A' (i + 1) c' ds' := by
  have hn : Blk w' gn 28 (noteCells H (.slice A i c)).toArray := (hb.block gn h.hB).trans h.note
  have hr : Blk w' w0.heap.size 28 Z99 := (hb.block w0.heap.size (by have := h.hg; have := h.hB; omega)).trans h.res
  have hk : Kept (· = gn) w' (w'.setCell ⟨gn, 98, none⟩ (.slice A' (i + 1) c')) := (Kept.refl (· = gn) w').setCell (p := ⟨gn, 98, none⟩) (.inl rfl) _
  refine ⟨hr.kept hk (by have := h.hg; omega), ?_, ?_, ?_, h.hg, h.hB, Nat.le_trans (Nat.le_trans h.hw hb.size) hk.size⟩
  · have := hn.set_ 98 (.slice A' (i + 1) c')
    rwa [note_set ok] at this
  · refine ⟨ho.1, ho.2.1, ho.2.2.1, ho.2.2.2.imp id fun ⟨g, cap, cur, h1, h2, h3, h4⟩ => ⟨g, cap, cur, h1, h2, (hk.block g (Array.getElem?_eq_some_iff.1 h3).1 (by have := h.hB; omega)).trans h3, h4⟩⟩
  · have hb' : Below w0.heap.size w w' := hb.mono (by have := h.hg; have := h.hB; omega)
    exact (h.below.trans hb').trans (Kept.below_of hk (by have := h.hg; omega) (by have := h.below.size; have := hb.size; omega))
theorem RN.end_ {w0 w : World} {gn B : Nat} {H : HeadD} {A : Option Addr} {i c : Nat} {ds : List Text} (h : RN w0 w gn B H A i c ds) (X : Array Value) : Below w0.heap.size w0 (w.setRow w0.heap.size X) := below_setRow h.below (Nat.le_refl _) X

end Go.Proofs.Yteelanamlhfmgaa.ReadNote
