/-
  Texts of the claim, put into one file: AddP.
-/
import Derived.Test.YteelanamlhfmgaaDoorZ26
import Derived.Test.YteelanamlhfmgaaDoorZ33
import Derived.Test.YteelanamlhfmgaaDoorZ31
import Derived.Test.YteelanamlhfmgaaDoorZ38
import Derived.Test.YteelanamlhfmgaaDoorZ28

namespace Go.Proofs.YteelanamlhfmgaaDoor.AddP
open Go Go.RowKit Go.Proofs.YteelanamlhfmgaaDoor Go.Proofs.YteelanamlhfmgaaDoor.Mem Go.Proofs.YteelanamlhfmgaaDoor.Sha Go.Proofs.YteelanamlhfmgaaDoor.Bytes Go.Proofs.YteelanamlhfmgaaDoor.SortP Go.Proofs.YteelanamlhfmgaaDoor.NoteP Go.Proofs.YteelanamlhfmgaaDoor.Grown Go.Proofs.YteelanamlhfmgaaDoor.Want Go.Proofs.YteelanamlhfmgaaDoor.Append Go.Proofs.YteelanamlhfmgaaDoor.Own Go.Proofs.YteelanamlhfmgaaDoor.Rise Go.Proofs.YteelanamlhfmgaaDoor.SortM Go.Proofs.YteelanamlhfmgaaDoor.SgM Go.Proofs.YteelanamlhfmgaaDoor.HashMem Go.Proofs.YteelanamlhfmgaaDoor.HeadMem Go.Proofs.YteelanamlhfmgaaDoor.EncNoteP Go.Proofs.YteelanamlhfmgaaDoor.EncNote Go.Proofs.YteelanamlhfmgaaDoor.RowS Go.Proofs.YteelanamlhfmgaaDoor.NoteM Go.Proofs.YteelanamlhfmgaaDoor.RefNote Go.Proofs.YteelanamlhfmgaaDoor.Insert Go.Proofs.YteelanamlhfmgaaDoor.Bin Go.Proofs.YteelanamlhfmgaaDoor.Signs

def others (ss : List Text) (s : Text) : List Text := ss.filter (fun y => !decide (kyS y = kyS s))
def addFin (ss : List Text) (s : Text) : Option (List Text) × Int := if 16 < (others ss s).length + 1 then (none, 7) else (rising kyS (s :: others ss s), 0)
def addAns (h : HeadD) (ss : List Text) (q : Text) : Option (List Text) × Int :=
  if (signAns h q).2 = 0 then (if (rising kyS ss).isSome then addFin ss (signAns h q).1 else (none, 92)) else (none, (signAns h q).2)
theorem place_found {rs : List Text} {s : Text} {i : Nat} (h : (rs[i]?).map kyS = some (kyS s)) : place (ky := kyS) s i rs = rs.set i s ∧ i < rs.length := by
  have hi : i < rs.length := by
    by_cases hi : i < rs.length
    · exact hi
    · rw [List.getElem?_eq_none (by omega)] at h; cases h
  refine ⟨?_, hi⟩
  unfold place
  rw [if_pos h, List.set_eq_take_append_cons_drop, if_pos hi]
theorem place_new {rs : List Text} {s : Text} {i : Nat} (h : ¬ (rs[i]?).map kyS = some (kyS s)) : place (ky := kyS) s i rs = mid rs i s := by
  unfold place mid
  rw [if_neg h]
  simp
theorem add_at {ss rs : List Text} {s : Text} {i : Nat} {f : Bool} (hr : rising kyS ss = some rs) (h : At rs s i f) : rising kyS (s :: others ss s) = some (place (ky := kyS) s i rs) ∧ (others ss s).length + 1 = (place (ky := kyS) s i rs).length := by
  obtain ⟨h1, h2⟩ := rising_some hr
  have h3 := (place_rising (x := s) (n := i) h1 h2 h.low h.high).1
  refine ⟨h3, ?_⟩
  have h4 := rising_len h3
  rw [h4]
  rfl
theorem add_found {ss rs : List Text} {s : Text} {i : Nat} (hr : rising kyS ss = some rs) (h : At rs s i true) : rising kyS (s :: others ss s) = some (rs.set i s) ∧ (others ss s).length + 1 = rs.length ∧ i < rs.length := by
  have hf : (rs[i]?).map kyS = some (kyS s) := by simpa using h.found.symm
  obtain ⟨h1, h2⟩ := add_at hr h
  obtain ⟨h3, h4⟩ := place_found hf
  rw [h3] at h1 h2
  exact ⟨h1, by rw [h2, List.length_set], h4⟩
theorem add_new {ss rs : List Text} {s : Text} {i : Nat} (hr : rising kyS ss = some rs) (h : At rs s i false) : rising kyS (s :: others ss s) = some (mid rs i s) ∧ (others ss s).length + 1 = rs.length + 1 := by
  have hf : ¬ (rs[i]?).map kyS = some (kyS s) := by simpa using h.found.symm
  obtain ⟨h1, h2⟩ := add_at hr h
  rw [place_new hf] at h1 h2
  exact ⟨h1, by rw [h2, mid_len rfl]⟩
theorem fin_many {ss : List Text} {s : Text} {m : Nat} (h : (others ss s).length + 1 = m) (h16 : 16 < m) : addFin ss s = (none, 7) := by unfold addFin; rw [h, if_pos h16]
theorem fin_some {ss r : List Text} {s : Text} {m : Nat} (h : (others ss s).length + 1 = m) (h16 : ¬ 16 < m) (hr : rising kyS (s :: others ss s) = some r) : addFin ss s = (some r, 0) := by unfold addFin; rw [h, if_neg h16, hr]
/-- The note that adding leaves. -/
def AddPost (B : Nat) (w' : World) (h : HeadD) (V : Value) : Option (List Text) → Prop
  | none => V = .agg Z99
  | some r => ∃ A c, V = .agg (noteCells h (.slice A r.length c)).toArray ∧ OwnS w' B (.slice A r.length c) r.length r
/-- Where the walk of adding stands: the note's block and the answer's, in a world w0 that goes on. -/
structure AD (w0 w : World) (h : HeadD) (A : Option Addr) (n c : Nat) : Prop where
  note : Blk w w0.heap.size 28 (noteCells h (.slice A n c)).toArray
  res : Blk w (w0.heap.size + 1) 28 Z99
  far : Below w0.heap.size w0 w
theorem AD.size {w0 w : World} {h : HeadD} {A : Option Addr} {n c : Nat} (k : AD w0 w h A n c) : w0.heap.size + 1 < w.heap.size := k.res.lt
theorem AD.on {w0 w w' : World} {h : HeadD} {A : Option Addr} {n c B : Nat} (k : AD w0 w h A n c) (hB : w0.heap.size + 1 < B) (hb : Below B w w') : AD w0 w' h A n c :=
  ⟨(hb.block _ (by omega)).trans k.note, (hb.block _ hB).trans k.res, k.far.trans (Below.mono hb (by omega))⟩
theorem AD.below {w0 w w' : World} {h : HeadD} {A : Option Addr} {n c : Nat} (k : AD w0 w h A n c) (hb : Below w.heap.size w w') : AD w0 w' h A n c := k.on k.size hb
theorem AD.new {w : World} {h : HeadD} {A : Option Addr} {n c : Nat} : AD w ((w.alloc (.cells (noteCells h (.slice A n c)).toArray 28)).alloc (.cells Z99 28)) h A n c :=
  ⟨heap_alloc2_old w _ _, heap_alloc2_new w _ _, ((Below.refl _ w).alloc (Nat.le_refl _) _).alloc (by simp) _⟩
theorem AD.head {w0 w : World} {h : HeadD} {A : Option Addr} {n c : Nat} (k : AD w0 w h A n c) (j : Nat) (u : Value) (hu : (headCells h)[j]? = some u) : w.cell? ⟨w0.heap.size, 0 + j, none⟩ = some u := by
  rw [k.note.cell (0 + j), List.getElem?_toArray]
  exact noteCells_head _ j u hu
theorem AD.row {w0 w : World} {h : HeadD} {A : Option Addr} {n c : Nat} (k : AD w0 w h A n c) (ok : h.Ok) : w.cell? ⟨w0.heap.size, 98, none⟩ = some (.slice A n c) := by
  rw [k.note.cell 98, List.getElem?_toArray]
  exact noteCells_row ok _
/-- A sign laid over another one in a row of one's own. -/
theorem own_set {w : World} {B n c g i : Nat} {rs : List Text} {s : Text} (hO : OwnS w B (.slice (some ⟨g, 0, none⟩) n c) n rs) (hi : i < n) (hs : s.length = 64) :
    B ≤ g ∧ ∃ cur : Array Value, Blk w g 43 cur ∧ i * 64 + (cells8 s).length ≤ cur.size ∧ ∀ w', Blk w' g 43 (splice cur.toList (i * 64) (cells8 s)).toArray → OwnS w' B (.slice (some ⟨g, 0, none⟩) n c) n (rs.set i s) := by
  obtain ⟨h1, h2, hFl, hown⟩ := hO
  rcases hown with ⟨h3, -⟩ | ⟨g2, c2, cur, h3, hBg, hg, hnc, hcm, hcs, htk⟩
  · injection h3 with h3; cases h3
  · injection h3 with h3 h4 h5
    injection h3 with h3
    injection h3 with h3
    subst h3 h5
    have hsz : i * 64 + 64 ≤ cur.size := by rw [hcs]; have : (i + 1) * 64 ≤ c * 64 := Nat.mul_le_mul_right _ (by omega); omega
    have h8 : (cells8 s).length = 64 := by rw [cells8_len, hs]
    refine ⟨hBg, cur, hg, by rw [h8]; exact hsz, fun w' hb => ⟨Sns.set_ h1 i hs, by rw [List.length_set]; exact h2, ?_, .inr ⟨g, c, _, rfl, hBg, hb, hnc, hcm, ?_, ?_⟩⟩⟩
    · rw [flat_len _ (Sns.set_ h1 i hs), List.length_set, h2]
    · unfold splice
      simp only [List.size_toArray, List.length_append, List.length_take, List.length_drop, Array.length_toList, h8]
      omega
    · rw [← flat_set rs h1 i (by omega) s, ← htk]
      unfold splice
      have e1 : i * 64 + 64 ≤ n * 64 := by omega
      have e2 : n * 64 ≤ cur.toList.length := by rw [Array.length_toList, hcs]; omega
      rw [List.toList_toArray, h8]
      apply List.ext_getElem?
      intro j
      simp only [List.getElem?_take, List.getElem?_append, List.length_append, List.length_take, List.getElem?_drop, h8]
      grind
end Go.Proofs.YteelanamlhfmgaaDoor.AddP
