/-
  Texts of the claim, put into one file: AddP.
-/
import Derived.Test.YtfbhjoejffagjaaGreatDoorZ31
import Derived.Test.YtfbhjoejffagjaaGreatDoorZ40
import Derived.Test.YtfbhjoejffagjaaGreatDoorZ25
import Derived.Test.YtfbhjoejffagjaaGreatDoorZ42
import Derived.Test.YtfbhjoejffagjaaGreatDoorZ33

namespace Go.Proofs.YtfbhjoejffagjaaGreatDoor.AddP
open Go Go.RowKit Go.Proofs.YtfbhjoejffagjaaGreatDoor Go.Proofs.YtfbhjoejffagjaaGreatDoor.Mem Go.Proofs.YtfbhjoejffagjaaGreatDoor.Sha Go.Proofs.YtfbhjoejffagjaaGreatDoor.Bytes Go.Proofs.YtfbhjoejffagjaaGreatDoor.SortP Go.Proofs.YtfbhjoejffagjaaGreatDoor.NoteP Go.Proofs.YtfbhjoejffagjaaGreatDoor.Grown Go.Proofs.YtfbhjoejffagjaaGreatDoor.Want Go.Proofs.YtfbhjoejffagjaaGreatDoor.Append Go.Proofs.YtfbhjoejffagjaaGreatDoor.Own Go.Proofs.YtfbhjoejffagjaaGreatDoor.Rise Go.Proofs.YtfbhjoejffagjaaGreatDoor.SortM Go.Proofs.YtfbhjoejffagjaaGreatDoor.SgM Go.Proofs.YtfbhjoejffagjaaGreatDoor.HashMem Go.Proofs.YtfbhjoejffagjaaGreatDoor.HeadMem Go.Proofs.YtfbhjoejffagjaaGreatDoor.EncNoteP Go.Proofs.YtfbhjoejffagjaaGreatDoor.EncNote Go.Proofs.YtfbhjoejffagjaaGreatDoor.RowS Go.Proofs.YtfbhjoejffagjaaGreatDoor.NoteM Go.Proofs.YtfbhjoejffagjaaGreatDoor.RefNote Go.Proofs.YtfbhjoejffagjaaGreatDoor.Insert Go.Proofs.YtfbhjoejffagjaaGreatDoor.Bin Go.Proofs.YtfbhjoejffagjaaGreatDoor.Signs

def others (ss : List Text) (s : Text) : List Text := ss.filter (fun y => !decide (kyS y = kyS s))
def addFin (ss : List Text) (s : Text) : Option (List Text) × Int := if 16 < (others ss s).length + 1 then (none, 7) else (rising kyS (s :: others ss s), 0)
def addAns (h : HeadD) (ss : List Text) (q : Text) : Option (List Text) × Int :=
  if (signAns h q).2 = 0 then (if (rising kyS ss).isSome then addFin ss (signAns h q).1 else (none, 92)) else (none, (signAns h q).2)
theorem add_at {ss rs : List Text} {s : Text} {i : Nat} {f : Bool} (hr : rising kyS ss = some rs) (h : At rs s i f) : rising kyS (s :: others ss s) = some (place (ky := kyS) s i rs) ∧ (others ss s).length + 1 = (place (ky := kyS) s i rs).length := by
  obtain ⟨h1, h2⟩ := rising_some hr
  have h3 := (place_rising (x := s) (n := i) h1 h2 h.low h.high).1
  refine ⟨h3, ?_⟩
  have h4 := rising_len h3
  rw [h4]
  rfl
/-- Where the walk of adding stands: the note's block and the answer's, in a world w0 that goes on. -/
structure AD (w0 w : World) (h : HeadD) (A : Option Addr) (n c : Nat) : Prop where
  note : Blk w w0.heap.size 39 (noteCells h (.slice A n c)).toArray
  res : Blk w (w0.heap.size + 1) 39 Z99
  far : Below w0.heap.size w0 w
theorem AD.size {w0 w : World} {h : HeadD} {A : Option Addr} {n c : Nat} (k : AD w0 w h A n c) : w0.heap.size + 1 < w.heap.size := k.res.lt
theorem AD.on {w0 w w' : World} {h : HeadD} {A : Option Addr} {n c B : Nat} (k : AD w0 w h A n c) (hB : w0.heap.size + 1 < B) (hb : Below B w w') : AD w0 w' h A n c :=
  ⟨(hb.block _ (by omega)).trans k.note, (hb.block _ hB).trans k.res, k.far.trans (Below.mono hb (by omega))⟩
theorem AD.below {w0 w w' : World} {h : HeadD} {A : Option Addr} {n c : Nat} (k : AD w0 w h A n c) (hb : Below w.heap.size w w') : AD w0 w' h A n c := k.on k.size hb
theorem AD.new {w : World} {h : HeadD} {A : Option Addr} {n c : Nat} : AD w ((w.alloc (.cells (noteCells h (.slice A n c)).toArray 39)).alloc (.cells Z99 39)) h A n c :=
  ⟨heap_alloc2_old w _ _, heap_alloc2_new w _ _, ((Below.refl _ w).alloc (Nat.le_refl _) _).alloc (by simp) _⟩
theorem AD.head {w0 w : World} {h : HeadD} {A : Option Addr} {n c : Nat} (k : AD w0 w h A n c) (j : Nat) (u : Value) (hu : (headCells h)[j]? = some u) : w.cell? ⟨w0.heap.size, 0 + j, none⟩ = some u := by
  rw [k.note.cell (0 + j), List.getElem?_toArray]
  exact noteCells_head _ j u hu
theorem AD.row {w0 w : World} {h : HeadD} {A : Option Addr} {n c : Nat} (k : AD w0 w h A n c) (ok : h.Ok) : w.cell? ⟨w0.heap.size, 98, none⟩ = some (.slice A n c) := by
  rw [k.note.cell 98, List.getElem?_toArray]
  exact noteCells_row ok _
end Go.Proofs.YtfbhjoejffagjaaGreatDoor.AddP
