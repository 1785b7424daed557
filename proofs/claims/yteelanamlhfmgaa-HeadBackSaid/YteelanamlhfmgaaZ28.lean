/-
  Texts of the claim, put into one file: Given, Kept16, Notes.
-/
import Derived.Test.YteelanamlhfmgaaZ24
import Derived.Test.YteelanamlhfmgaaZ20
import Derived.Test.YteelanamlhfmgaaZ22
import Derived.Test.YteelanamlhfmgaaZ27
import Derived.Deep.Cut
import Derived.Test.YteelanamlhfmgaaZ26
import Derived.Test.YteelanamlhfmgaaZ5

namespace Go.Proofs.Yteelanamlhfmgaa.Given
open Go Go.RowKit Go.Proofs.Yteelanamlhfmgaa Go.Proofs.Yteelanamlhfmgaa.Mem Go.Proofs.Yteelanamlhfmgaa.Sha Go.Proofs.Yteelanamlhfmgaa.Bytes Go.Proofs.Yteelanamlhfmgaa.SortP Go.Proofs.Yteelanamlhfmgaa.NoteP Go.Proofs.Yteelanamlhfmgaa.QuietTail Go.Proofs.Yteelanamlhfmgaa.Grown Go.Proofs.Yteelanamlhfmgaa.Want Go.Proofs.Yteelanamlhfmgaa.Rise Go.Proofs.Yteelanamlhfmgaa.SortM Go.Proofs.Yteelanamlhfmgaa.SgM Go.Proofs.Yteelanamlhfmgaa.HeadMem Go.Proofs.Yteelanamlhfmgaa.EncNoteP Go.Proofs.Yteelanamlhfmgaa.EncNote Go.Proofs.Yteelanamlhfmgaa.RowS Go.Proofs.Yteelanamlhfmgaa.Fill Go.Proofs.Yteelanamlhfmgaa.NoteM Go.Proofs.Yteelanamlhfmgaa.SignEq Go.Proofs.Yteelanamlhfmgaa.CmpW Go.Proofs.Yteelanamlhfmgaa.SameSigns Go.Proofs.Yteelanamlhfmgaa.Stranger Go.Proofs.Yteelanamlhfmgaa.HeadTake Go.Proofs.Yteelanamlhfmgaa.HeadTake2 Go.Proofs.Yteelanamlhfmgaa.Decode Go.Proofs.Yteelanamlhfmgaa.DecNote

/-- A copy of signs with forty marks behind it. -/
def gv (ss : List Text) (i : Nat) : List Text := ss ++ List.replicate i stS ++ List.replicate (40 - i) z64
def GivenAt (w : World) (g : Nat) (ss : List Text) : Prop := RowS w g (gv ss 40)
theorem gv_sns {ss : List Text} (h : Sns ss) (i : Nat) : Sns (gv ss i) := (Sns.append_ h (Sns.rep i stS_len)).append_ (Sns.rep _ z64_len)
theorem gv_len (ss : List Text) (i : Nat) (h : i ≤ 40) : (gv ss i).length = ss.length + 40 := by simp [gv]; omega
theorem GivenAt.rd {w : World} {g n : Nat} {ss : List Text} (h : GivenAt w g ss) (hs : Sns ss) (hn : ss.length = n) : Sgs w (some ⟨g, 0, none⟩) n ss := by
  have h1 := RowS.rd h (gv_sns hs 40)
  have h2 := h1.take_ n (by rw [gv_len ss 40 (Nat.le_refl _), hn]; omega)
  have e : (gv ss 40).take n = ss := by unfold gv; rw [List.append_assoc, List.take_append_of_le_length (by omega), List.take_of_length_le (by omega)]
  rw [e] at h2
  exact h2
theorem GivenAt.below {w w' : World} {g : Nat} {ss : List Text} (h : GivenAt w g ss) (hb : Below w.heap.size w w') : GivenAt w' g ss := RowS.below h hb
end Go.Proofs.Yteelanamlhfmgaa.Given

namespace Go.Proofs.Yteelanamlhfmgaa.Kept16
open Go Go.RowKit Go.Proofs.Yteelanamlhfmgaa Go.Proofs.Yteelanamlhfmgaa.Mem Go.Proofs.Yteelanamlhfmgaa.Sha Go.Proofs.Yteelanamlhfmgaa.Bytes Go.Proofs.Yteelanamlhfmgaa.SortP Go.Proofs.Yteelanamlhfmgaa.NoteP Go.Proofs.Yteelanamlhfmgaa.QuietTail Go.Proofs.Yteelanamlhfmgaa.Grown Go.Proofs.Yteelanamlhfmgaa.Want Go.Proofs.Yteelanamlhfmgaa.Guard2 Go.Proofs.Yteelanamlhfmgaa.Append Go.Proofs.Yteelanamlhfmgaa.Own Go.Proofs.Yteelanamlhfmgaa.Rise Go.Proofs.Yteelanamlhfmgaa.SortM Go.Proofs.Yteelanamlhfmgaa.SgM Go.Proofs.Yteelanamlhfmgaa.HeadMem Go.Proofs.Yteelanamlhfmgaa.EncNoteP Go.Proofs.Yteelanamlhfmgaa.EncNote Go.Proofs.Yteelanamlhfmgaa.RowS Go.Proofs.Yteelanamlhfmgaa.Fill Go.Proofs.Yteelanamlhfmgaa.NoteM Go.Proofs.Yteelanamlhfmgaa.SignEq Go.Proofs.Yteelanamlhfmgaa.CmpW Go.Proofs.Yteelanamlhfmgaa.SameSigns Go.Proofs.Yteelanamlhfmgaa.Stranger Go.Proofs.Yteelanamlhfmgaa.Given Go.Proofs.Yteelanamlhfmgaa.HeadTake Go.Proofs.Yteelanamlhfmgaa.HeadTake2 Go.Proofs.Yteelanamlhfmgaa.Decode

theorem note_set {H : HeadD} (ok : H.Ok) (v u : Value) : (noteCells H v).toArray.setIfInBounds 98 u = (noteCells H u).toArray := by
  unfold noteCells
  rw [List.setIfInBounds_toArray, List.set_append_right _ _ (by rw [headCells_len ok]; exact Nat.le_refl _), headCells_len ok]
  rfl
set_option maxRecDepth 100000 in
set_option maxHeartbeats 1000000 in
theorem short_low (h : HeadD) (ok : h.Ok) (n : Nat) (hn : n ≤ 100) (A : Option Addr) (c : Nat) (w : World) :
    Calls Try.prog 5 #[.agg (noteCells h (.slice A n c)).toArray] w fun e w' => e = .returned (.agg (noteCells h (.slice A n c)).toArray) ∧ Below w.heap.size w w' := by
  obtain ⟨w0, hw0⟩ : ∃ w0, (w.alloc (.cells (noteCells h (.slice A n c)).toArray 28)).alloc (.cells Z99 28) = w0 := ⟨_, rfl⟩
  have hz : (w.alloc (.cells (noteCells h (.slice A n c)).toArray 28)).heap.size = w.heap.size + 1 := by simp
  have B1 : Hid (Blk w0 w.heap.size 28 (noteCells h (.slice A n c)).toArray) := by show Blk _ _ _ _; rw [← hw0]; exact (Blk.new w _ _).alloc _
  have B2 : Hid (Blk w0 (w.heap.size + 1) 28 Z99) := by show Blk _ _ _ _; rw [← hw0, ← hz]; exact Blk.new _ _ _
  have hb0 : Hid (Below w.heap.size w w0) := by show Below _ _ _; rw [← hw0]; exact (Below.heap_below w _).alloc (by rw [hz]; omega) _
  change (w.alloc (.cells (noteCells h (.slice A n c)).toArray 28)).alloc (.cells Try.zeroCells28 28) = w0 at hw0
  have zN := Lib.hid (fun v => note_size ok v)
  have oN := Lib.hid (fun A n c => note_one (h := h) A n c)
  have sN := Lib.hid (fun v => note_zero ok v)
  have r1 : w0.cell? ⟨w.heap.size, 98, none⟩ = some (.slice A n c) := by rw [B1.out.cell 98, List.getElem?_toArray]; exact noteCells_row ok _
  have x1 : ((100 : Int) < (n : Int)) = False := eq_false (by omega)
  clear hz hn ok
  go_enter Try.func5, Try.ntmps5
  go_wp2_with (first
    | (((with_reducible change wpList _ _ _ ({ dst := some 11, op := _, type := _, pos := _, after := _, guard := _ } :: _) _ _); refine wpList_load_row (o := ⟨some 11, _, _, _, _, _⟩) rfl 28 (.tmp 1) rfl (w.heap.size) rfl 28 ((noteCells h (.slice A n c)).toArray) (0, 0) _ B1.out Try.underlying28 rfl (zN.out _) ?_))
    | ((with_reducible change wpList _ _ _ ({ dst := none, op := Op.store 28 (.tmp 2) (.tmp 11), type := _, pos := _, after := _, guard := _ } :: _) _ _); refine wpList_store_row (o := ⟨none, _, _, _, _, _⟩) rfl 28 (.tmp 2) (.tmp 11) rfl (w.heap.size + 1) (noteCells h (.slice A n c)).toArray rfl rfl 28 Z99 B2.out (zN.out _) (sN.out _) (oN.out _ _ _) ?_))
  refine bodyPost_ret (results_cell_row rfl _ _ (w.heap.size + 1) 28 (noteCells h (.slice A n c)).toArray (0, 0) _ rfl (setRow_heap _ _ _ _ _ _ B2.out) Try.underlying28 rfl (zN.out _)) rfl ?_
  exact ⟨rfl, below_setRow hb0.out (by omega) _⟩
set_option maxRecDepth 100000 in
set_option maxHeartbeats 1000000 in
theorem short_high (h : HeadD) (ok : h.Ok) (n : Nat) (hn : 100 < n) (A : Option Addr) (c : Nat) (hc : n ≤ c) (w : World) :
    Calls Try.prog 5 #[.agg (noteCells h (.slice A n c)).toArray] w fun e w' => e = .returned (.agg (noteCells h (.slice A 100 c)).toArray) ∧ Below w.heap.size w w' := by
  obtain ⟨w0, hw0⟩ : ∃ w0, (w.alloc (.cells (noteCells h (.slice A n c)).toArray 28)).alloc (.cells Z99 28) = w0 := ⟨_, rfl⟩
  have hz : (w.alloc (.cells (noteCells h (.slice A n c)).toArray 28)).heap.size = w.heap.size + 1 := by simp
  have B1 : Hid (Blk w0 w.heap.size 28 (noteCells h (.slice A n c)).toArray) := by show Blk _ _ _ _; rw [← hw0]; exact (Blk.new w _ _).alloc _
  have B2 : Hid (Blk w0 (w.heap.size + 1) 28 Z99) := by show Blk _ _ _ _; rw [← hw0, ← hz]; exact Blk.new _ _ _
  have hb0 : Hid (Below w.heap.size w w0) := by show Below _ _ _; rw [← hw0]; exact (Below.heap_below w _).alloc (by rw [hz]; omega) _
  change (w.alloc (.cells (noteCells h (.slice A n c)).toArray 28)).alloc (.cells Try.zeroCells28 28) = w0 at hw0
  have zN := Lib.hid (fun v => note_size ok v)
  have oN := Lib.hid (fun A n c => note_one (h := h) A n c)
  have sN := Lib.hid (fun v => note_zero ok v)
  have r1 : w0.cell? ⟨w.heap.size, 98, none⟩ = some (.slice A n c) := by rw [B1.out.cell 98, List.getElem?_toArray]; exact noteCells_row ok _
  have f1 : w0.frozen? ⟨w.heap.size, 98, none⟩ = false := B1.out.frozen 98
  have C1 : Hid (Blk (w0.setCell ⟨w.heap.size, 98, none⟩ (.slice A 100 c)) w.heap.size 28 (noteCells h (.slice A 100 c)).toArray) := by
    have := B1.out.set_ 98 (.slice A 100 c)
    rwa [note_set ok] at this
  have C2 : Hid (Blk (w0.setCell ⟨w.heap.size, 98, none⟩ (.slice A 100 c)) (w.heap.size + 1) 28 Z99) := B2.out.far (p := ⟨w.heap.size, 98, none⟩) (Ne.symm (Nat.ne_of_lt (Nat.lt_succ_self _))) _
  have hb1 : Hid (Below w.heap.size w (w0.setCell ⟨w.heap.size, 98, none⟩ (.slice A 100 c))) := hb0.out.setCell (p := ⟨w.heap.size, 98, none⟩) (Nat.le_refl _) _
  have x1 : (100 : Int) < (n : Int) := by omega
  have hT := run_headS (A := A) (n := n) (c := c) (k := 100) (by omega) 100 rfl
  clear hz hn ok hc
  go_enter Try.func5, Try.ntmps5
  go_wp2_with (first
    | (((with_reducible change wpList _ _ _ ({ dst := some 11, op := _, type := _, pos := _, after := _, guard := _ } :: _) _ _); refine wpList_load_row (o := ⟨some 11, _, _, _, _, _⟩) rfl 28 (.tmp 1) rfl (w.heap.size) rfl 28 ((noteCells h (.slice A 100 c)).toArray) (0, 0) _ C1.out Try.underlying28 rfl (zN.out _) ?_))
    | ((with_reducible change wpList _ _ _ ({ dst := none, op := Op.store 28 (.tmp 2) (.tmp 11), type := _, pos := _, after := _, guard := _ } :: _) _ _); refine wpList_store_row (o := ⟨none, _, _, _, _, _⟩) rfl 28 (.tmp 2) (.tmp 11) rfl (w.heap.size + 1) (noteCells h (.slice A 100 c)).toArray rfl rfl 28 Z99 C2.out (zN.out _) (sN.out _) (oN.out _ _ _) ?_))
  refine bodyPost_ret (results_cell_row rfl _ _ (w.heap.size + 1) 28 (noteCells h (.slice A 100 c)).toArray (0, 0) _ rfl (setRow_heap _ _ _ _ _ _ C2.out) Try.underlying28 rfl (zN.out _)) rfl ?_
  exact ⟨rfl, below_setRow hb1.out (by omega) _⟩
theorem short_any (h : HeadD) (ok : h.Ok) (ss : List Text) (n : Nat) (A : Option Addr) (c : Nat) (hc : n ≤ c) (w : World) (hS : Sgs w A n ss) :
    Calls Try.prog 5 #[.agg (noteCells h (.slice A n c)).toArray] w fun e w' => ∃ m, Hid (m ≤ 100 ∧ m ≤ n) ∧ e = .returned (.agg (noteCells h (.slice A m c)).toArray) ∧ Sgs w' A m (ss.take m) ∧ Below w.heap.size w w' := by
  by_cases hn : n ≤ 100
  · refine (short_low h ok n hn A c w).mono fun e w' ⟨he, hb⟩ => ⟨n, ⟨hn, Nat.le_refl _⟩, he, ?_, hb⟩
    rw [List.take_of_length_le (Nat.le_of_eq hS.len)]
    exact hS.below hb
  · exact (short_high h ok n (by omega) A c hc w).mono fun e w' ⟨he, hb⟩ => ⟨100, ⟨Nat.le_refl _, by omega⟩, he, (hS.below hb).take_ 100 (by omega), hb⟩
end Go.Proofs.Yteelanamlhfmgaa.Kept16

namespace Go.Proofs.Yteelanamlhfmgaa.Notes
open Go Go.RowKit Go.Proofs.Yteelanamlhfmgaa Go.Proofs.Yteelanamlhfmgaa.Mem Go.Proofs.Yteelanamlhfmgaa.Sha Go.Proofs.Yteelanamlhfmgaa.Bytes Go.Proofs.Yteelanamlhfmgaa.SortP Go.Proofs.Yteelanamlhfmgaa.NoteP Go.Proofs.Yteelanamlhfmgaa.QuietTail Go.Proofs.Yteelanamlhfmgaa.Grown Go.Proofs.Yteelanamlhfmgaa.Want Go.Proofs.Yteelanamlhfmgaa.Guard2 Go.Proofs.Yteelanamlhfmgaa.Append Go.Proofs.Yteelanamlhfmgaa.Own Go.Proofs.Yteelanamlhfmgaa.Rise Go.Proofs.Yteelanamlhfmgaa.SortM Go.Proofs.Yteelanamlhfmgaa.SgM Go.Proofs.Yteelanamlhfmgaa.HeadMem Go.Proofs.Yteelanamlhfmgaa.EncNoteP Go.Proofs.Yteelanamlhfmgaa.EncNote Go.Proofs.Yteelanamlhfmgaa.RowS Go.Proofs.Yteelanamlhfmgaa.Fill Go.Proofs.Yteelanamlhfmgaa.NoteM Go.Proofs.Yteelanamlhfmgaa.SignEq Go.Proofs.Yteelanamlhfmgaa.CmpW Go.Proofs.Yteelanamlhfmgaa.SameSigns Go.Proofs.Yteelanamlhfmgaa.Stranger Go.Proofs.Yteelanamlhfmgaa.Given Go.Proofs.Yteelanamlhfmgaa.HeadTake Go.Proofs.Yteelanamlhfmgaa.HeadTake2 Go.Proofs.Yteelanamlhfmgaa.Decode Go.Proofs.Yteelanamlhfmgaa.Kept16 Go.Proofs.Yteelanamlhfmgaa.RefNote Go.Proofs.Yteelanamlhfmgaa.DecNote Go.Proofs.Yteelanamlhfmgaa.ReadNote Go.Proofs.Yteelanamlhfmgaa.Law16

/-- The bytes that laying a note down leaves, none where it refuses. -/
def noteT (h : HeadD) (ss : List Text) : Text := (noteAns h ss).1.getD []
theorem post_reads {B : Nat} {w' : World} {v : Value} {o : Option Text} (h : NotePost B w' v o) : ∃ (A : Option Addr) (c : Nat), v = .slice A (o.getD []).length c ∧ (o.getD []).length ≤ c ∧ (A = none → (o.getD []).length = 0 ∧ c = 0) ∧ Reads w' 1 A (o.getD []).length (cells8 (o.getD [])) := by
  cases o with
  | none =>
    obtain rfl : v = .slice none 0 0 := h
    exact ⟨none, 0, rfl, Nat.le_refl _, fun _ => ⟨rfl, rfl⟩, Reads.nil_ _ _ _⟩
  | some b =>
    obtain ⟨A, c, e, h1, -, h2, h3, -⟩ := Own.reads (show w'.ownsRow _ _ _ _ _ _ from h)
    exact ⟨A, c, e, h1, h2, h3⟩
end Go.Proofs.Yteelanamlhfmgaa.Notes
