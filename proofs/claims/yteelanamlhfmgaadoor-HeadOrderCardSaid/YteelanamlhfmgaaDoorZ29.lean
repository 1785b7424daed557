/-
  Texts of the claim, put into one file: SameSigns, Given, Kept16, SameIDs.
-/
import Derived.Test.YteelanamlhfmgaaDoorZ28
import Derived.Test.YteelanamlhfmgaaDoorZ7
import Derived.Test.YteelanamlhfmgaaDoorZ22
import Derived.Test.YteelanamlhfmgaaDoorZ10
import Derived.Deep.Cut
import Derived.Test.YteelanamlhfmgaaDoorZ26
import Derived.Test.YteelanamlhfmgaaDoorZ12
import Derived.Test.YteelanamlhfmgaaDoorZ4

namespace Go.Proofs.YteelanamlhfmgaaDoor.SameSigns
open Go Go.RowKit Go.Proofs.YteelanamlhfmgaaDoor Go.Proofs.YteelanamlhfmgaaDoor.Mem Go.Proofs.YteelanamlhfmgaaDoor.Sha Go.Proofs.YteelanamlhfmgaaDoor.Bytes Go.Proofs.YteelanamlhfmgaaDoor.SortP Go.Proofs.YteelanamlhfmgaaDoor.NoteP Go.Proofs.YteelanamlhfmgaaDoor.QuietTail Go.Proofs.YteelanamlhfmgaaDoor.Grown Go.Proofs.YteelanamlhfmgaaDoor.Want Go.Proofs.YteelanamlhfmgaaDoor.Rise Go.Proofs.YteelanamlhfmgaaDoor.SortM Go.Proofs.YteelanamlhfmgaaDoor.SgM Go.Proofs.YteelanamlhfmgaaDoor.HeadMem Go.Proofs.YteelanamlhfmgaaDoor.EncNoteP Go.Proofs.YteelanamlhfmgaaDoor.EncNote Go.Proofs.YteelanamlhfmgaaDoor.RowS Go.Proofs.YteelanamlhfmgaaDoor.Fill Go.Proofs.YteelanamlhfmgaaDoor.NoteM Go.Proofs.YteelanamlhfmgaaDoor.SignEq Go.Proofs.YteelanamlhfmgaaDoor.HeadEq Go.Proofs.YteelanamlhfmgaaDoor.CmpW

theorem qSG : Tryd.prog.eqGuardType Tryd.prog.depth 43 = false := by kernel_rfl
theorem qHD : Tryd.prog.eqGuardType Tryd.prog.depth 25 = false := by kernel_rfl
theorem size64t : (Tryd.prog.info? 43).map (·.size) = some 64 := by kernel_rfl
set_option maxRecDepth 100000 in
set_option maxHeartbeats 1000000 in
theorem sameSigns_any (ss : List Text) (n : Nat) (hn47 : n ≤ 2199023255552) (A B : Option Addr) (c d : Nat) (w : World) (ha : Sgs w A n ss) (hb : Sgs w B n ss) :
    Calls Tryd.prog 32 #[.slice A n c, .slice B n d] w fun e w' => e = .returned (.bool true) ∧ ∃ m, w' = w.drewN m := by
  replace ha := Lib.hid ha
  replace hb := Lib.hid hb
  have hn0 := Lib.hid hn47
  clear hn47
  go_enter Tryd.func32, Tryd.ntmps32
  go_wp2_with fail
  go_loopw [5] (fun v wr => ∃ i m : Nat, v = .int .i64 (i : Int) ∧ Hid (i ≤ n) ∧ Hid (wr = w.drewN m)) (fun v _ => n - (intOf v).toNat)
  case atStart => exact ⟨0, 0, rfl, Nat.zero_le _, rfl⟩
  case round =>
    obtain ⟨i, m, rfl, hi, hw⟩ := hrel
    have hi6 : (i : Int) ≤ 2199023255552 := by have := hi.out; have := hn0.out; omega
    by_cases hlt : i < n
    · have hz : (i : Int) < (n : Int) := by omega
      have hz0 : (0 : Int) ≤ (i : Int) := by omega
      have hlt' := Lib.hid hlt
      obtain ⟨x, hx⟩ : ∃ x, Hid (ss[i]? = some x) := ⟨_, List.getElem?_eq_getElem (by rw [ha.out.len]; exact hlt)⟩
      have hxl := Lib.hid (ha.out.all x (List.mem_of_getElem? hx.out))
      obtain ⟨b1, o1, rfl, -, h1⟩ := ha.out.at_ hx.out
      obtain ⟨b2, o2, rfl, -, h2⟩ := hb.out.at_ hx.out
      have hf1 : Hid (∀ w', (∃ q, w' = wr.drewN q) → ∀ j u, (cells8 x)[j]? = some u → w'.cell? ⟨b1, o1 + i * 64 + j, none⟩ = some u) := fun w' hw' j u hu => by obtain ⟨q, rfl⟩ := hw'; rw [hw.out]; exact h1 j u hu
      have hf2 : Hid (∀ w', (∃ q, w' = wr.drewN q) → ∀ j u, (cells8 x)[j]? = some u → w'.cell? ⟨b2, o2 + i * 64 + j, none⟩ = some u) := fun w' hw' j u hu => by obtain ⟨q, rfl⟩ := hw'; rw [hw.out]; exact h2 j u hu
      have s64 : Hid ((Tryd.prog.info? 43).map (·.size) = some (cells8 x).length) := by show _ = _; rw [cells8_len, hxl.out]; exact size64t
      have hq : Hid (∀ w', (binOp .neq 43 (.agg (cells8 x).toArray) (.agg (cells8 x).toArray)).run Tryd.prog w' = .ok (.bool false) w') := fun w' => by rw [neq_sign x x hxl.out hxl.out]; simp
      clear h1 h2 hlt
      go_upto_region 6 with fail
      refine q_region (fun w' => ∃ m, w' = wr.drewN m) (by kernel_rfl) (by kernel_rfl) (⟨1, rfl⟩) ?_
      refine q_move rfl (.tmp 0) rfl ?_
      (intro K hK; go_simp; refine hK _ ?_; clear hK K)
      refine q_move rfl (.tmp 5) rfl ?_
      (intro K hK; go_simp; refine hK _ ?_; clear hK K)
      refine q_val (v := .pointer (some ⟨b1, o1 + i * 64, none⟩)) rfl (fun w' hw' => by go_simp) ?_
      (intro K hK; go_simp; refine hK _ ?_; clear hK K)
      refine q_part rfl 43 (.tmp 19) rfl b1 ((o1 + i * 64)) rfl (cells8 x) _ (fun w' hw' => hf1.out w' hw') Tryd.underlying43 rfl s64.out ?_
      (intro K hK; go_simp; refine hK _ ?_; clear hK K)
      refine q_move rfl (.tmp 1) rfl ?_
      (intro K hK; go_simp; refine hK _ ?_; clear hK K)
      refine q_move rfl (.tmp 5) rfl ?_
      (intro K hK; go_simp; refine hK _ ?_; clear hK K)
      refine q_val (v := .pointer (some ⟨b2, o2 + i * 64, none⟩)) rfl (fun w' hw' => by go_simp) ?_
      (intro K hK; go_simp; refine hK _ ?_; clear hK K)
      refine q_part rfl 43 (.tmp 23) rfl b2 ((o2 + i * 64)) rfl (cells8 x) _ (fun w' hw' => hf2.out w' hw') Tryd.underlying43 rfl s64.out ?_
      (intro K hK; go_simp; refine hK _ ?_; clear hK K)
      refine q_val (v := .bool false) rfl (fun w' hw' => run_cmp rfl rfl rfl qSG (hq.out w')) ?_
      (intro K hK; go_simp; refine hK _ ?_; clear hK K)
      refine q_nil ?_
      intro w5 hw5
      obtain ⟨m5, rfl⟩ := hw5
      go_wp2_with fail
      go_roundw
      case rel => exact ⟨i + 1, m + m5, by go_num, hlt'.out, by show _ = _; rw [hw.out, World.drewN_drewN]⟩
      case measure => (have := hlt'.out; simp [intOf]; omega)
    · have hz : ¬ ((i : Int) < (n : Int)) := by omega
      clear hlt
      go_wp2_with fail
      go_ret
      exact ⟨rfl, m, hw.out⟩
set_option maxRecDepth 100000 in
set_option maxHeartbeats 1000000 in
theorem sameNotes_any (h : HeadD) (ok : h.Ok) (ss : List Text) (n : Nat) (hn47 : n ≤ 2199023255552) (A B : Option Addr) (c d : Nat) (w : World) (ha : Sgs w A n ss) (hb : Sgs w B n ss) :
    Calls Tryd.prog 11 #[.agg (noteCells h (.slice A n c)).toArray, .agg (noteCells h (.slice B n d)).toArray] w fun e w' => e = .returned (.bool true) ∧ Below w.heap.size w w' := by
  obtain ⟨w0, hw0⟩ : ∃ w0, (w.alloc (.cells (noteCells h (.slice A n c)).toArray 28)).alloc (.cells (noteCells h (.slice B n d)).toArray 28) = w0 := ⟨_, rfl⟩
  have hz : (w.alloc (.cells (noteCells h (.slice A n c)).toArray 28)).heap.size = w.heap.size + 1 := by simp
  have N1 : Hid (NoteAt w0 w.heap.size h A n c ss) := by show NoteAt _ _ _ _ _ _ _; rw [← hw0]; exact (NoteAt.new ha).below (Below.heap_below _ _)
  have N2 : Hid (NoteAt w0 (w.heap.size + 1) h B n d ss) := by show NoteAt _ _ _ _ _ _ _; rw [← hw0, ← hz]; exact NoteAt.new (hb.below (Below.heap_below w _))
  have hb0 : Hid (Below w.heap.size w w0) := by show Below _ _ _; rw [← hw0]; exact (Below.heap_below w _).alloc (by rw [hz]; omega) _
  have hsz : Hid ((Tryd.prog.info? 25).map (·.size) = some (headCells h).length) := by show _ = _; rw [headCells_len ok]; exact size98
  have hE : Hid (∀ w', (binOp .eql 25 (.agg (headCells h).toArray) (.agg (headCells h).toArray)).run Tryd.prog w' = .ok (.bool true) w') := eql_head h ok
  have r1 := N1.out.row ok
  have r2 := N2.out.row ok
  clear ha hb ok hz
  go_enter Tryd.func11, Tryd.ntmps11
  go_wp2_with (first
    | (((with_reducible change wpList _ _ _ ({ dst := some 6, op := _, type := _, pos := _, after := _, guard := _ } :: _) _ _); refine wpList_load_part (o := ⟨some 6, _, _, _, _, _⟩) rfl 25 (.tmp 5) rfl (w.heap.size) (0) rfl (headCells h) _ N1.out.head Tryd.underlying25 rfl hsz.out ?_))
    | (((with_reducible change wpList _ _ _ ({ dst := some 8, op := _, type := _, pos := _, after := _, guard := _ } :: _) _ _); refine wpList_load_part (o := ⟨some 8, _, _, _, _, _⟩) rfl 25 (.tmp 7) rfl ((w.heap.size + 1)) (0) rfl (headCells h) _ N2.out.head Tryd.underlying25 rfl hsz.out ?_))
    | ((with_reducible change wpList _ _ _ ({ dst := some 9, op := _, type := _, pos := _, after := _, guard := _ } :: _) _ _); (with_reducible refine Veil.out ?_); refine wpList_cmpW (o := ⟨some 9, _, _, _, _, _⟩) rfl .eql 25 25 (.tmp 6) (.tmp 8) rfl ((headCells h).toArray) ((headCells h).toArray) rfl rfl qHD (.bool true) (hE.out _) ?_)
    | (go_at_call 32; refine (sameSigns_any ss n hn47 A B c d w0 N1.out.sgs N2.out.sgs).mono ?_; rintro e w2 ⟨rfl, m2, rfl⟩))
  go_ret
  exact ⟨rfl, below_drawn hb0.out m2⟩
end Go.Proofs.YteelanamlhfmgaaDoor.SameSigns

namespace Go.Proofs.YteelanamlhfmgaaDoor.Given
open Go Go.RowKit Go.Proofs.YteelanamlhfmgaaDoor Go.Proofs.YteelanamlhfmgaaDoor.Mem Go.Proofs.YteelanamlhfmgaaDoor.Sha Go.Proofs.YteelanamlhfmgaaDoor.Bytes Go.Proofs.YteelanamlhfmgaaDoor.SortP Go.Proofs.YteelanamlhfmgaaDoor.NoteP Go.Proofs.YteelanamlhfmgaaDoor.QuietTail Go.Proofs.YteelanamlhfmgaaDoor.Grown Go.Proofs.YteelanamlhfmgaaDoor.Want Go.Proofs.YteelanamlhfmgaaDoor.Rise Go.Proofs.YteelanamlhfmgaaDoor.SortM Go.Proofs.YteelanamlhfmgaaDoor.SgM Go.Proofs.YteelanamlhfmgaaDoor.HeadMem Go.Proofs.YteelanamlhfmgaaDoor.EncNoteP Go.Proofs.YteelanamlhfmgaaDoor.EncNote Go.Proofs.YteelanamlhfmgaaDoor.RowS Go.Proofs.YteelanamlhfmgaaDoor.Fill Go.Proofs.YteelanamlhfmgaaDoor.NoteM Go.Proofs.YteelanamlhfmgaaDoor.SignEq Go.Proofs.YteelanamlhfmgaaDoor.CmpW Go.Proofs.YteelanamlhfmgaaDoor.SameSigns Go.Proofs.YteelanamlhfmgaaDoor.Stranger Go.Proofs.YteelanamlhfmgaaDoor.HeadTake Go.Proofs.YteelanamlhfmgaaDoor.HeadTake2 Go.Proofs.YteelanamlhfmgaaDoor.Decode Go.Proofs.YteelanamlhfmgaaDoor.DecNote

/-- A copy of signs with forty marks behind it. -/
def gv (ss : List Text) (i : Nat) : List Text := ss ++ List.replicate i stS ++ List.replicate (40 - i) z64
def GivenAt (w : World) (g : Nat) (ss : List Text) : Prop := RowS w g (gv ss 40)
theorem gv_sns {ss : List Text} (h : Sns ss) (i : Nat) : Sns (gv ss i) := (Sns.append_ h (Sns.rep i stS_len)).append_ (Sns.rep _ z64_len)
theorem gv_len (ss : List Text) (i : Nat) (h : i ≤ 40) : (gv ss i).length = ss.length + 40 := by simp [gv]; omega
theorem GivenAt.rd {w : World} {g n : Nat} {ss : List Text} (h : GivenAt w g ss) (hs : Sns ss) (hn : ss.length = n) : Sgs w (some ⟨g, 0, none⟩) n ss := by
  have h1 := RowS.rd h (gv_sns hs 40)
  have h2 := h1.take_ n (by rw [gv_len ss 40 (Nat.le_refl _), hn]; omega)
  have e : (gv ss 40).take n = ss := by unfold gv; rw [List.append_assoc, List.take_append_of_le_length (by omega), List.take_of_length_le (by omega)]
  rw [e] at h2
  exact h2
theorem GivenAt.below {w w' : World} {g : Nat} {ss : List Text} (h : GivenAt w g ss) (hb : Below w.heap.size w w') : GivenAt w' g ss := RowS.below h hb
end Go.Proofs.YteelanamlhfmgaaDoor.Given

namespace Go.Proofs.YteelanamlhfmgaaDoor.Kept16
open Go Go.RowKit Go.Proofs.YteelanamlhfmgaaDoor Go.Proofs.YteelanamlhfmgaaDoor.Mem Go.Proofs.YteelanamlhfmgaaDoor.Sha Go.Proofs.YteelanamlhfmgaaDoor.Bytes Go.Proofs.YteelanamlhfmgaaDoor.SortP Go.Proofs.YteelanamlhfmgaaDoor.NoteP Go.Proofs.YteelanamlhfmgaaDoor.QuietTail Go.Proofs.YteelanamlhfmgaaDoor.Grown Go.Proofs.YteelanamlhfmgaaDoor.Want Go.Proofs.YteelanamlhfmgaaDoor.Guard2 Go.Proofs.YteelanamlhfmgaaDoor.Append Go.Proofs.YteelanamlhfmgaaDoor.Own Go.Proofs.YteelanamlhfmgaaDoor.Rise Go.Proofs.YteelanamlhfmgaaDoor.SortM Go.Proofs.YteelanamlhfmgaaDoor.SgM Go.Proofs.YteelanamlhfmgaaDoor.HeadMem Go.Proofs.YteelanamlhfmgaaDoor.EncNoteP Go.Proofs.YteelanamlhfmgaaDoor.EncNote Go.Proofs.YteelanamlhfmgaaDoor.RowS Go.Proofs.YteelanamlhfmgaaDoor.Fill Go.Proofs.YteelanamlhfmgaaDoor.NoteM Go.Proofs.YteelanamlhfmgaaDoor.SignEq Go.Proofs.YteelanamlhfmgaaDoor.CmpW Go.Proofs.YteelanamlhfmgaaDoor.SameSigns Go.Proofs.YteelanamlhfmgaaDoor.Stranger Go.Proofs.YteelanamlhfmgaaDoor.Given Go.Proofs.YteelanamlhfmgaaDoor.HeadTake Go.Proofs.YteelanamlhfmgaaDoor.HeadTake2 Go.Proofs.YteelanamlhfmgaaDoor.Decode

theorem note_set {H : HeadD} (ok : H.Ok) (v u : Value) : (noteCells H v).toArray.setIfInBounds 98 u = (noteCells H u).toArray := by
  unfold noteCells
  rw [List.setIfInBounds_toArray, List.set_append_right _ _ (by rw [headCells_len ok]; exact Nat.le_refl _), headCells_len ok]
  rfl
set_option maxRecDepth 100000 in
set_option maxHeartbeats 1000000 in
theorem short_low (h : HeadD) (ok : h.Ok) (n : Nat) (hn : n ≤ 100) (A : Option Addr) (c : Nat) (w : World) :
    Calls Tryd.prog 6 #[.agg (noteCells h (.slice A n c)).toArray] w fun e w' => e = .returned (.agg (noteCells h (.slice A n c)).toArray) ∧ Below w.heap.size w w' := by
  obtain ⟨w0, hw0⟩ : ∃ w0, (w.alloc (.cells (noteCells h (.slice A n c)).toArray 28)).alloc (.cells Z99 28) = w0 := ⟨_, rfl⟩
  have hz : (w.alloc (.cells (noteCells h (.slice A n c)).toArray 28)).heap.size = w.heap.size + 1 := by simp
  have B1 : Hid (Blk w0 w.heap.size 28 (noteCells h (.slice A n c)).toArray) := by show Blk _ _ _ _; rw [← hw0]; exact (Blk.new w _ _).alloc _
  have B2 : Hid (Blk w0 (w.heap.size + 1) 28 Z99) := by show Blk _ _ _ _; rw [← hw0, ← hz]; exact Blk.new _ _ _
  have hb0 : Hid (Below w.heap.size w w0) := by show Below _ _ _; rw [← hw0]; exact (Below.heap_below w _).alloc (by rw [hz]; omega) _
  change (w.alloc (.cells (noteCells h (.slice A n c)).toArray 28)).alloc (.cells Tryd.zeroCells28 28) = w0 at hw0
  have zN := Lib.hid (fun v => note_size ok v)
  have oN := Lib.hid (fun A n c => note_one (h := h) A n c)
  have sN := Lib.hid (fun v => note_zero ok v)
  have r1 : w0.cell? ⟨w.heap.size, 98, none⟩ = some (.slice A n c) := by rw [B1.out.cell 98, List.getElem?_toArray]; exact noteCells_row ok _
  have x1 : ((100 : Int) < (n : Int)) = False := eq_false (by omega)
  clear hz hn ok
  go_enter Tryd.func6, Tryd.ntmps6
  go_wp2_with (first
    | (((with_reducible change wpList _ _ _ ({ dst := some 11, op := _, type := _, pos := _, after := _, guard := _ } :: _) _ _); refine wpList_load_row (o := ⟨some 11, _, _, _, _, _⟩) rfl 28 (.tmp 1) rfl (w.heap.size) rfl 28 ((noteCells h (.slice A n c)).toArray) (0, 0) _ B1.out Tryd.underlying28 rfl (zN.out _) ?_))
    | ((with_reducible change wpList _ _ _ ({ dst := none, op := Op.store 28 (.tmp 2) (.tmp 11), type := _, pos := _, after := _, guard := _ } :: _) _ _); refine wpList_store_row (o := ⟨none, _, _, _, _, _⟩) rfl 28 (.tmp 2) (.tmp 11) rfl (w.heap.size + 1) (noteCells h (.slice A n c)).toArray rfl rfl 28 Z99 B2.out (zN.out _) (sN.out _) (oN.out _ _ _) ?_))
  refine bodyPost_ret (results_cell_row rfl _ _ (w.heap.size + 1) 28 (noteCells h (.slice A n c)).toArray (0, 0) _ rfl (setRow_heap _ _ _ _ _ _ B2.out) Tryd.underlying28 rfl (zN.out _)) rfl ?_
  exact ⟨rfl, below_setRow hb0.out (by omega) _⟩
set_option maxRecDepth 100000 in
set_option maxHeartbeats 1000000 in
theorem short_high (h : HeadD) (ok : h.Ok) (n : Nat) (hn : 100 < n) (A : Option Addr) (c : Nat) (hc : n ≤ c) (w : World) :
    Calls Tryd.prog 6 #[.agg (noteCells h (.slice A n c)).toArray] w fun e w' => e = .returned (.agg (noteCells h (.slice A 100 c)).toArray) ∧ Below w.heap.size w w' := by
  obtain ⟨w0, hw0⟩ : ∃ w0, (w.alloc (.cells (noteCells h (.slice A n c)).toArray 28)).alloc (.cells Z99 28) = w0 := ⟨_, rfl⟩
  have hz : (w.alloc (.cells (noteCells h (.slice A n c)).toArray 28)).heap.size = w.heap.size + 1 := by simp
  have B1 : Hid (Blk w0 w.heap.size 28 (noteCells h (.slice A n c)).toArray) := by show Blk _ _ _ _; rw [← hw0]; exact (Blk.new w _ _).alloc _
  have B2 : Hid (Blk w0 (w.heap.size + 1) 28 Z99) := by show Blk _ _ _ _; rw [← hw0, ← hz]; exact Blk.new _ _ _
  have hb0 : Hid (Below w.heap.size w w0) := by show Below _ _ _; rw [← hw0]; exact (Below.heap_below w _).alloc (by rw [hz]; omega) _
  change (w.alloc (.cells (noteCells h (.slice A n c)).toArray 28)).alloc (.cells Tryd.zeroCells28 28) = w0 at hw0
  have zN := Lib.hid (fun v => note_size ok v)
  have oN := Lib.hid (fun A n c => note_one (h := h) A n c)
  have sN := Lib.hid (fun v => note_zero ok v)
  have r1 : w0.cell? ⟨w.heap.size, 98, none⟩ = some (.slice A n c) := by rw [B1.out.cell 98, List.getElem?_toArray]; exact noteCells_row ok _
  have f1 : w0.frozen? ⟨w.heap.size, 98, none⟩ = false := B1.out.frozen 98
  have C1 : Hid (Blk (w0.setCell ⟨w.heap.size, 98, none⟩ (.slice A 100 c)) w.heap.size 28 (noteCells h (.slice A 100 c)).toArray) := by
    have := B1.out.set_ 98 (.slice A 100 c)
    rwa [note_set ok] at this
  have C2 : Hid (Blk (w0.setCell ⟨w.heap.size, 98, none⟩ (.slice A 100 c)) (w.heap.size + 1) 28 Z99) := B2.out.far (p := ⟨w.heap.size, 98, none⟩) (Ne.symm (Nat.ne_of_lt (Nat.lt_succ_self _))) _
  have hb1 : Hid (Below w.heap.size w (w0.setCell ⟨w.heap.size, 98, none⟩ (.slice A 100 c))) := hb0.out.setCell (p := ⟨w.heap.size, 98, none⟩) (Nat.le_refl _) _
  have x1 : (100 : Int) < (n : Int) := by omega
  have hT := run_headS (A := A) (n := n) (c := c) (k := 100) (by omega) 100 rfl
  clear hz hn ok hc
  go_enter Tryd.func6, Tryd.ntmps6
  go_wp2_with (first
    | (((with_reducible change wpList _ _ _ ({ dst := some 11, op := _, type := _, pos := _, after := _, guard := _ } :: _) _ _); refine wpList_load_row (o := ⟨some 11, _, _, _, _, _⟩) rfl 28 (.tmp 1) rfl (w.heap.size) rfl 28 ((noteCells h (.slice A 100 c)).toArray) (0, 0) _ C1.out Tryd.underlying28 rfl (zN.out _) ?_))
    | ((with_reducible change wpList _ _ _ ({ dst := none, op := Op.store 28 (.tmp 2) (.tmp 11), type := _, pos := _, after := _, guard := _ } :: _) _ _); refine wpList_store_row (o := ⟨none, _, _, _, _, _⟩) rfl 28 (.tmp 2) (.tmp 11) rfl (w.heap.size + 1) (noteCells h (.slice A 100 c)).toArray rfl rfl 28 Z99 C2.out (zN.out _) (sN.out _) (oN.out _ _ _) ?_))
  refine bodyPost_ret (results_cell_row rfl _ _ (w.heap.size + 1) 28 (noteCells h (.slice A 100 c)).toArray (0, 0) _ rfl (setRow_heap _ _ _ _ _ _ C2.out) Tryd.underlying28 rfl (zN.out _)) rfl ?_
  exact ⟨rfl, below_setRow hb1.out (by omega) _⟩
theorem short_any (h : HeadD) (ok : h.Ok) (ss : List Text) (n : Nat) (A : Option Addr) (c : Nat) (hc : n ≤ c) (w : World) (hS : Sgs w A n ss) :
    Calls Tryd.prog 6 #[.agg (noteCells h (.slice A n c)).toArray] w fun e w' => ∃ m, Hid (m ≤ 100 ∧ m ≤ n) ∧ e = .returned (.agg (noteCells h (.slice A m c)).toArray) ∧ Sgs w' A m (ss.take m) ∧ Below w.heap.size w w' := by
  by_cases hn : n ≤ 100
  · refine (short_low h ok n hn A c w).mono fun e w' ⟨he, hb⟩ => ⟨n, ⟨hn, Nat.le_refl _⟩, he, ?_, hb⟩
    rw [List.take_of_length_le (Nat.le_of_eq hS.len)]
    exact hS.below hb
  · exact (short_high h ok n (by omega) A c hc w).mono fun e w' ⟨he, hb⟩ => ⟨100, ⟨Nat.le_refl _, by omega⟩, he, (hS.below hb).take_ 100 (by omega), hb⟩
end Go.Proofs.YteelanamlhfmgaaDoor.Kept16

namespace Go.Proofs.YteelanamlhfmgaaDoor.SameIDs
open Go Go.RowKit Go.Proofs.YteelanamlhfmgaaDoor Go.Proofs.YteelanamlhfmgaaDoor.Mem Go.Proofs.YteelanamlhfmgaaDoor.Sha Go.Proofs.YteelanamlhfmgaaDoor.Bytes Go.Proofs.YteelanamlhfmgaaDoor.SortP Go.Proofs.YteelanamlhfmgaaDoor.NoteP Go.Proofs.YteelanamlhfmgaaDoor.QuietTail Go.Proofs.YteelanamlhfmgaaDoor.Grown Go.Proofs.YteelanamlhfmgaaDoor.Want Go.Proofs.YteelanamlhfmgaaDoor.Rise Go.Proofs.YteelanamlhfmgaaDoor.SortM Go.Proofs.YteelanamlhfmgaaDoor.SgM Go.Proofs.YteelanamlhfmgaaDoor.HeadMem Go.Proofs.YteelanamlhfmgaaDoor.EncNoteP Go.Proofs.YteelanamlhfmgaaDoor.EncNote Go.Proofs.YteelanamlhfmgaaDoor.RowS Go.Proofs.YteelanamlhfmgaaDoor.Fill Go.Proofs.YteelanamlhfmgaaDoor.NoteM Go.Proofs.YteelanamlhfmgaaDoor.SignEq Go.Proofs.YteelanamlhfmgaaDoor.HeadEq Go.Proofs.YteelanamlhfmgaaDoor.CmpW Go.Proofs.YteelanamlhfmgaaDoor.TreeMem Go.Proofs.YteelanamlhfmgaaDoor.DigEq

theorem qDGi : Tryd.prog.eqGuardType Tryd.prog.depth 23 = false := by kernel_rfl
theorem size32i : (Tryd.prog.info? 23).map (·.size) = some 32 := by kernel_rfl
set_option maxRecDepth 100000 in
set_option maxHeartbeats 1000000 in
theorem sameIDs_any (ss : List Text) (n : Nat) (hn47 : n ≤ 2199023255552) (A B : Option Addr) (c d : Nat) (w : World) (ha : RdD w A n ss) (hb : RdD w B n ss) :
    Calls Tryd.prog 20 #[.slice A n c, .slice B n d] w fun e w' => e = .returned (.bool true) ∧ ∃ m, w' = w.drewN m := by
  replace ha := Lib.hid ha
  replace hb := Lib.hid hb
  have hn0 := Lib.hid hn47
  clear hn47
  go_enter Tryd.func20, Tryd.ntmps20
  go_wp2_with fail
  go_loopw [5] (fun v wr => ∃ i m : Nat, v = .int .i64 (i : Int) ∧ Hid (i ≤ n) ∧ Hid (wr = w.drewN m)) (fun v _ => n - (intOf v).toNat)
  case atStart => exact ⟨0, 0, rfl, Nat.zero_le _, rfl⟩
  case round =>
    obtain ⟨i, m, rfl, hi, hw⟩ := hrel
    have hi6 : (i : Int) ≤ 2199023255552 := by have := hi.out; have := hn0.out; omega
    by_cases hlt : i < n
    · have hz : (i : Int) < (n : Int) := by omega
      have hz0 : (0 : Int) ≤ (i : Int) := by omega
      have hlt' := Lib.hid hlt
      obtain ⟨x, hx⟩ : ∃ x, Hid (ss[i]? = some x) := ⟨_, List.getElem?_eq_getElem (by rw [ha.out.1]; exact hlt)⟩
      have hxl := Lib.hid (ha.out.2.1.at_ hx.out)
      obtain ⟨b1, o1, rfl, -, h1⟩ := ha.out.at_ hx.out
      obtain ⟨b2, o2, rfl, -, h2⟩ := hb.out.at_ hx.out
      have hf1 : Hid (∀ w', (∃ q, w' = wr.drewN q) → ∀ j u, (cells8 x)[j]? = some u → w'.cell? ⟨b1, o1 + i * 32 + j, none⟩ = some u) := fun w' hw' j u hu => by obtain ⟨q, rfl⟩ := hw'; rw [hw.out]; exact h1 j u hu
      have hf2 : Hid (∀ w', (∃ q, w' = wr.drewN q) → ∀ j u, (cells8 x)[j]? = some u → w'.cell? ⟨b2, o2 + i * 32 + j, none⟩ = some u) := fun w' hw' j u hu => by obtain ⟨q, rfl⟩ := hw'; rw [hw.out]; exact h2 j u hu
      have s64 : Hid ((Tryd.prog.info? 23).map (·.size) = some (cells8 x).length) := by show _ = _; rw [cells8_len, hxl.out]; exact size32i
      have hq : Hid (∀ w', (binOp .neq 23 (.agg (cells8 x).toArray) (.agg (cells8 x).toArray)).run Tryd.prog w' = .ok (.bool false) w') := fun w' => by rw [neq_dig x x hxl.out hxl.out]; simp
      clear h1 h2 hlt
      go_upto_region 6 with fail
      refine q_region (fun w' => ∃ m, w' = wr.drewN m) (by kernel_rfl) (by kernel_rfl) (⟨1, rfl⟩) ?_
      refine q_move rfl (.tmp 0) rfl ?_
      (intro K hK; go_simp; refine hK _ ?_; clear hK K)
      refine q_move rfl (.tmp 5) rfl ?_
      (intro K hK; go_simp; refine hK _ ?_; clear hK K)
      refine q_val (v := .pointer (some ⟨b1, o1 + i * 32, none⟩)) rfl (fun w' hw' => by go_simp) ?_
      (intro K hK; go_simp; refine hK _ ?_; clear hK K)
      refine q_part rfl 23 (.tmp 19) rfl b1 ((o1 + i * 32)) rfl (cells8 x) _ (fun w' hw' => hf1.out w' hw') Tryd.underlying23 rfl s64.out ?_
      (intro K hK; go_simp; refine hK _ ?_; clear hK K)
      refine q_move rfl (.tmp 1) rfl ?_
      (intro K hK; go_simp; refine hK _ ?_; clear hK K)
      refine q_move rfl (.tmp 5) rfl ?_
      (intro K hK; go_simp; refine hK _ ?_; clear hK K)
      refine q_val (v := .pointer (some ⟨b2, o2 + i * 32, none⟩)) rfl (fun w' hw' => by go_simp) ?_
      (intro K hK; go_simp; refine hK _ ?_; clear hK K)
      refine q_part rfl 23 (.tmp 23) rfl b2 ((o2 + i * 32)) rfl (cells8 x) _ (fun w' hw' => hf2.out w' hw') Tryd.underlying23 rfl s64.out ?_
      (intro K hK; go_simp; refine hK _ ?_; clear hK K)
      refine q_val (v := .bool false) rfl (fun w' hw' => run_cmp rfl rfl rfl qDGi (hq.out w')) ?_
      (intro K hK; go_simp; refine hK _ ?_; clear hK K)
      refine q_nil ?_
      intro w5 hw5
      obtain ⟨m5, rfl⟩ := hw5
      go_wp2_with fail
      go_roundw
      case rel => exact ⟨i + 1, m + m5, by go_num, hlt'.out, by show _ = _; rw [hw.out, World.drewN_drewN]⟩
      case measure => (have := hlt'.out; simp [intOf]; omega)
    · have hz : ¬ ((i : Int) < (n : Int)) := by omega
      clear hlt
      go_wp2_with fail
      go_ret
      exact ⟨rfl, m, hw.out⟩
end Go.Proofs.YteelanamlhfmgaaDoor.SameIDs
