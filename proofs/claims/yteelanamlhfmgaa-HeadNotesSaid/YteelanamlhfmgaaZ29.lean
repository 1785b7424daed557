/-
  Texts of the claim, put into one file: Notes, HeadNotes.
-/
import Derived.Test.YteelanamlhfmgaaZ24
import Derived.Test.YteelanamlhfmgaaZ28
import Derived.Test.YteelanamlhfmgaaZ26
import Derived.Test.YteelanamlhfmgaaZ5

namespace Go.Proofs.Yteelanamlhfmgaa.Notes
open Go Go.RowKit Go.Proofs.Yteelanamlhfmgaa Go.Proofs.Yteelanamlhfmgaa.Mem Go.Proofs.Yteelanamlhfmgaa.Sha Go.Proofs.Yteelanamlhfmgaa.Bytes Go.Proofs.Yteelanamlhfmgaa.SortP Go.Proofs.Yteelanamlhfmgaa.NoteP Go.Proofs.Yteelanamlhfmgaa.QuietTail Go.Proofs.Yteelanamlhfmgaa.Grown Go.Proofs.Yteelanamlhfmgaa.Want Go.Proofs.Yteelanamlhfmgaa.Guard2 Go.Proofs.Yteelanamlhfmgaa.Append Go.Proofs.Yteelanamlhfmgaa.Own Go.Proofs.Yteelanamlhfmgaa.Rise Go.Proofs.Yteelanamlhfmgaa.SortM Go.Proofs.Yteelanamlhfmgaa.SgM Go.Proofs.Yteelanamlhfmgaa.HeadMem Go.Proofs.Yteelanamlhfmgaa.EncNoteP Go.Proofs.Yteelanamlhfmgaa.EncNote Go.Proofs.Yteelanamlhfmgaa.RowS Go.Proofs.Yteelanamlhfmgaa.Fill Go.Proofs.Yteelanamlhfmgaa.NoteM Go.Proofs.Yteelanamlhfmgaa.SignEq Go.Proofs.Yteelanamlhfmgaa.CmpW Go.Proofs.Yteelanamlhfmgaa.SameSigns Go.Proofs.Yteelanamlhfmgaa.Stranger Go.Proofs.Yteelanamlhfmgaa.Given Go.Proofs.Yteelanamlhfmgaa.HeadTake Go.Proofs.Yteelanamlhfmgaa.HeadTake2 Go.Proofs.Yteelanamlhfmgaa.Decode Go.Proofs.Yteelanamlhfmgaa.Kept16 Go.Proofs.Yteelanamlhfmgaa.RefNote Go.Proofs.Yteelanamlhfmgaa.DecNote Go.Proofs.Yteelanamlhfmgaa.ReadNote Go.Proofs.Yteelanamlhfmgaa.Law16

/-- The bytes that laying a note down leaves, none where it refuses. -/
def noteT (h : HeadD) (ss : List Text) : Text := (noteAns h ss).1.getD []
theorem post_reads {B : Nat} {w' : World} {v : Value} {o : Option Text} (h : NotePost B w' v o) : ∃ (A : Option Addr) (c : Nat), v = .slice A (o.getD []).length c ∧ (o.getD []).length ≤ c ∧ (A = none → (o.getD []).length = 0 ∧ c = 0) ∧ Reads w' 1 A (o.getD []).length (cells8 (o.getD [])) := by
  cases o with
  | none =>
    obtain rfl : v = .slice none 0 0 := h
    exact ⟨none, 0, rfl, Nat.le_refl _, fun _ => ⟨rfl, rfl⟩, Reads.nil_ _ _ _⟩
  | some b =>
    obtain ⟨A, c, e, h1, -, h2, h3, -⟩ := Own.reads (show w'.ownsRow _ _ _ _ _ _ from h)
    exact ⟨A, c, e, h1, h2, h3⟩
theorem noteT_len (h : HeadD) (ok : h.Ok) (ss : List Text) (hs : Sns ss) : (noteT h ss).length < 140737488355328 := by
  unfold noteT
  rcases note_cases h ss ss.length rfl with ⟨-, e⟩ | ⟨-, -, e⟩ | ⟨-, -, e⟩ | ⟨-, -, -, -, e⟩ | ⟨-, -, h3, rs, h4, e⟩ <;> rw [e]
  · simp
  · simp
  · simp
  · simp
  · show (noteB h rs).length < _
    rw [noteB_len ok (rising_sns h4 hs), rising_len h4]
    omega
set_option maxRecDepth 100000 in
set_option maxHeartbeats 4000000 in
theorem notes_yes (h : HeadD) (ok : h.Ok) (ss : List Text) (n : Nat) (hn100 : n ≤ 100) (A : Option Addr) (c : Nat) (q : Text) (k : Nat) (hk : q.length = k) (hk47 : k < 140737488355328) (hq : noteOk q = true) (Ar : Option Addr) (cr : Nat) (hkc : k ≤ cr) (w : World) (hS : Sgs w A n ss) (hr : Reads w 1 Ar k (cells8 q)) :
    Calls Try.prog 7 #[.agg (noteCells h (.slice A n c)).toArray, .slice Ar k cr] w fun e w' => e = .returned (.bool true) ∧ Below w.heap.size w w' := by
  obtain ⟨w0, hw0⟩ : ∃ w0, w.alloc (.cells (noteCells h (.slice A n c)).toArray 28) = w0 := ⟨_, rfl⟩
  have N0 : Hid (NoteAt w0 w.heap.size h A n c ss) := by show NoteAt _ _ _ _ _ _ _; rw [← hw0]; exact NoteAt.new hS
  have hb0 : Hid (Below w.heap.size w w0) := by show Below _ _ _; rw [← hw0]; exact Below.heap_below w _
  have hRr : Hid (∀ w', Below w.heap.size w w' → Reads w' 1 Ar k (cells8 q)) := fun w' hb => hr.below hb
  have zN := Lib.hid (fun v => note_size ok v)
  have oN := Lib.hid (fun A n c => note_one (h := h) A n c)
  have sN := Lib.hid (fun v => note_zero ok v)
  have zD := Lib.hid (fun v => note_size (decH_ok q) v)
  have oD := Lib.hid (fun A n c => note_one (h := decH q) A n c)
  have sD := Lib.hid (fun v => note_zero (decH_ok q) v)
  have hsns : Hid (Sns ss) := hS.all
  have hlen : Hid (ss.length = n) := hS.len
  have hn0 := Lib.hid hn100
  have hk0 := Lib.hid hk
  have hk7 := Lib.hid hk47
  have hkc0 := Lib.hid hkc
  have hq0 := Lib.hid hq
  have hl7 := Lib.hid (noteT_len h ok ss hS.all)
  obtain ⟨bt, hbt⟩ : ∃ bt, Hid ((noteAns h ss).1.getD [] = bt) := ⟨_, Lib.hid rfl⟩
  have hl8 : Hid (bt.length < 140737488355328) := by have := hl7.out; unfold noteT at this; rw [hbt.out] at this; exact this
  obtain ⟨k7, hk7'⟩ : ∃ k7, Hid ((noteAns h ss).2 = k7) := ⟨_, Lib.hid rfl⟩
  obtain ⟨m9, hm9⟩ : ∃ m9, Hid ((decS q).length = m9) := ⟨_, Lib.hid rfl⟩
  have hm16 : Hid (m9 ≤ 16) := by show _ ≤ _; rw [← hm9.out]; exact decS_len q
  have ok' := Lib.hid ok
  clear hS hr ok hn100 hk hk47 hkc hq
  go_enter Try.func7, Try.ntmps7
  go_wp2_with (first
    | (((with_reducible change wpList _ _ _ ({ dst := some 14, op := _, type := _, pos := _, after := _, guard := _ } :: _) _ _); refine wpList_load_row (o := ⟨some 14, _, _, _, _, _⟩) rfl 28 (.tmp 2) rfl (w.heap.size) rfl 28 ((noteCells h (.slice A n c)).toArray) (0, 0) _ N0.out.blk Try.underlying28 rfl (zN.out _) ?_))
    | (go_at_call 16; refine (given_any h ok'.out ss n (by have := hn0.out; omega) A c w0 N0.out.sgs).mono ?_; rintro e w1 ⟨g, rfl, hg, hG1, hb1⟩; have N1 := Lib.hid (N0.out.below hb1); replace hG1 := Lib.hid hG1; have bb1 : Hid (Below w.heap.size w w1) := hb0.out.trans (hb1.mono hb0.out.size); clear hg hb1 N0 hb0 hw0)
    | ((with_reducible change wpList _ _ _ ({ dst := none, op := Op.store 28 (.tmp 5) (.tmp 15), type := _, pos := _, after := _, guard := _ } :: _) _ _); refine wpList_store_all (o := ⟨none, _, _, _, _, _⟩) rfl 28 (.tmp 5) (.tmp 15) rfl w1.heap.size (noteCells h (.slice (some ⟨g, 0, none⟩) n (n + 40))).toArray rfl rfl 28 Z99 (Blk.new w1 _ _) (zN.out _) (sN.out _) (oN.out _ _ _) ?_; intro w2 hB2 hk2; have hbn := below_new hk2; have G2 := Lib.hid (hG1.out.below hbn); have N2 := Lib.hid (N1.out.below hbn); have bb2 : Hid (Below w.heap.size w w2) := bb1.out.trans (hbn.mono bb1.out.size); have M2 : Hid (NoteAt w2 w1.heap.size h (some ⟨g, 0, none⟩) n (n + 40) ss) := ⟨hB2.out, G2.out.rd hsns.out hlen.out⟩; clear hk2 hbn hB2 hG1 N1 bb1; generalize w1.heap.size = m5 at *)
    | (((with_reducible change wpList _ _ _ ({ dst := some 17, op := _, type := _, pos := _, after := _, guard := _ } :: _) _ _); refine wpList_load_row (o := ⟨some 17, _, _, _, _, _⟩) rfl 28 (.tmp 5) rfl (m5) rfl 28 ((noteCells h (.slice (some ⟨g, 0, none⟩) n (n + 40))).toArray) (0, 0) _ M2.out.blk Try.underlying28 rfl (zN.out _) ?_))
    | (go_at_call 10; refine (encnote_any h ok'.out ss n (some ⟨g, 0, none⟩) (n + 40) w2 M2.out.sgs).mono ?_; rintro e w3 ⟨v3, rfl, hb3, hP3⟩; rw [hk7'.out]; obtain ⟨A3, c3, rfl, -, -, hr3⟩ := post_reads hP3; rw [hbt.out] at hr3 ⊢; replace hr3 := Lib.hid hr3; have G3 := Lib.hid (G2.out.below hb3); have N3 := Lib.hid (N2.out.below hb3); have M3 := Lib.hid (M2.out.below hb3); have bb3 : Hid (Below w.heap.size w w3) := bb2.out.trans (hb3.mono bb2.out.size); clear hb3 hP3 G2 N2 M2 bb2)
    | (((with_reducible change wpList _ _ _ ({ dst := some 22, op := _, type := _, pos := _, after := _, guard := _ } :: _) _ _); refine wpList_load_row (o := ⟨some 22, _, _, _, _, _⟩) rfl 28 (.tmp 2) rfl (w.heap.size) rfl 28 ((noteCells h (.slice A n c)).toArray) (0, 0) _ N3.out.blk Try.underlying28 rfl (zN.out _) ?_))
    | (go_at_call 6; refine (refnote_any h ok'.out ss n A c w3 N3.out.sgs).mono ?_; rintro e w4 ⟨v4, rfl, hb4, hP4⟩; rw [hk7'.out]; obtain ⟨A4, c4, rfl, -, -, hr4⟩ := post_reads hP4; rw [hbt.out] at hr4 ⊢; replace hr4 := Lib.hid hr4; have hr34 := Lib.hid (hr3.out.below hb4); have G4 := Lib.hid (G3.out.below hb4); have N4 := Lib.hid (N3.out.below hb4); have M4 := Lib.hid (M3.out.below hb4); have bb4 : Hid (Below w.heap.size w w4) := bb3.out.trans (hb4.mono bb3.out.size); clear hb4 hP4 G3 N3 M3 bb3 hr3)
    | (go_at_call 12; refine (same_any bt bt.length rfl (Nat.lt_trans hl8.out (by decide)) A3 A4 c3 c4 w4 hr34.out hr4.out).mono ?_; rintro e w5' ⟨rfl, n5, rfl⟩; have hb5 : Below w4.heap.size w4 (w4.drewN n5) := below_drawn (Below.refl _ _) n5; have G5 := Lib.hid (G4.out.below hb5); have N5 := Lib.hid (N4.out.below hb5); have M5 := Lib.hid (M4.out.below hb5); have bb5 : Hid (Below w.heap.size w (w4.drewN n5)) := bb4.out.trans (hb5.mono bb4.out.size); clear hb5 G4 N4 M4 bb4 hr34 hr4; generalize w4.drewN n5 = w5 at *)
    | ((with_reducible change wpList _ _ _ ({ dst := some 36, op := _, type := _, pos := _, after := _, guard := _ } :: _) _ _); (with_reducible refine Veil.out ?_); refine wpList_rowW (o := ⟨some 36, _, _, _, _, _⟩) rfl 28 (.tmp 5) rfl (m5) rfl 28 ((noteCells h (.slice (some ⟨g, 0, none⟩) n (n + 40))).toArray) (0, 0) _ M5.out.blk Try.underlying28 rfl (zN.out _) ?_)
    | ((with_reducible change wpList _ _ _ ({ dst := some 37, op := _, type := _, pos := _, after := _, guard := _ } :: _) _ _); (with_reducible refine Veil.out ?_); refine wpList_rowW (o := ⟨some 37, _, _, _, _, _⟩) rfl 28 (.tmp 2) rfl (w.heap.size) rfl 28 ((noteCells h (.slice A n c)).toArray) (0, 0) _ N5.out.blk Try.underlying28 rfl (zN.out _) ?_)
    | (go_at_call 17; refine (kept_any h ok'.out ss n (by have := hn0.out; omega) g A c w5 G5.out N5.out.sgs).mono ?_; rintro e w6 ⟨rfl, hb6⟩; have bb6 : Hid (Below w.heap.size w w6) := bb5.out.trans (hb6.mono bb5.out.size); clear hb6 G5 N5 M5 bb5)
    | (go_at_call 13; refine (roomy_any q k hk0.out hk7.out Ar cr w6 (hRr.out w6 bb6.out)).mono ?_; rintro e w7 ⟨gr, rfl, hgr, R7, hb7⟩; replace R7 := Lib.hid R7; have bb7 : Hid (Below w.heap.size w w7) := bb6.out.trans (hb7.mono bb6.out.size); clear hb7 hgr bb6)
    | (go_at_call 11; refine (decnote_any q k hk0.out hk7.out (some ⟨gr, 0, none⟩) (k + 100) w7 (by have := R7.out.reads; rw [hk0.out] at this; exact this) (fun e => by cases e)).mono ?_; rw [hq0.out]; rintro e w8 ⟨v8, rfl, hb8, A8, c8, rfl, -, -, hS8, -⟩; rw [hm9.out] at hS8 ⊢; replace hS8 := Lib.hid hS8; have R8 := Lib.hid (R7.out.below hb8 (Tab.lt R7.out)); have bb8 : Hid (Below w.heap.size w w8) := bb7.out.trans (hb8.mono bb7.out.size); clear hb8 R7 bb7)
    | ((with_reducible change wpList _ _ _ ({ dst := none, op := Op.store 28 (.tmp 11) (.tmp 46), type := _, pos := _, after := _, guard := _ } :: _) _ _); refine wpList_store_all (o := ⟨none, _, _, _, _, _⟩) rfl 28 (.tmp 11) (.tmp 46) rfl w8.heap.size (noteCells (decH q) (.slice A8 m9 c8)).toArray rfl rfl 28 Z99 (Blk.new w8 _ _) (zD.out _) (sD.out _) (oD.out _ _ _) ?_; intro w9 hB9 hk9; have hbn := below_new hk9; have M9 : Hid (NoteAt w9 w8.heap.size (decH q) A8 m9 c8 (decS q)) := ⟨hB9.out, hS8.out.below hbn⟩; have R9 := Lib.hid (R8.out.below hbn (Tab.lt R8.out)); have bb9 : Hid (Below w.heap.size w w9) := bb8.out.trans (hbn.mono bb8.out.size); clear hk9 hbn hB9 hS8 R8 bb8; generalize w8.heap.size = m11 at *)
    | (go_at_call 18; refine (readnote_any q k hk0.out hk7.out Ar cr hkc0.out w9 (hRr.out w9 bb9.out)).mono ?_; rw [hq0.out]; rintro e w10 ⟨v10, rfl, hb10, A10, c10, rfl, -, -, hS10, -⟩; rw [hm9.out] at hS10 ⊢; replace hS10 := Lib.hid hS10; have M10 := Lib.hid (M9.out.below hb10); have R10 := Lib.hid (R9.out.below hb10 (Tab.lt R9.out)); have bb10 : Hid (Below w.heap.size w w10) := bb9.out.trans (hb10.mono bb9.out.size); clear hb10 M9 R9 bb9)
    | ((with_reducible change wpList _ _ _ ({ dst := none, op := Op.store 28 (.tmp 12) (.tmp 51), type := _, pos := _, after := _, guard := _ } :: _) _ _); refine wpList_store_all (o := ⟨none, _, _, _, _, _⟩) rfl 28 (.tmp 12) (.tmp 51) rfl w10.heap.size (noteCells (decH q) (.slice A10 m9 c10)).toArray rfl rfl 28 Z99 (Blk.new w10 _ _) (zD.out _) (sD.out _) (oD.out _ _ _) ?_; intro w11 hB11 hk11; have hbn := below_new hk11; have P11 : Hid (NoteAt w11 w10.heap.size (decH q) A10 m9 c10 (decS q)) := ⟨hB11.out, hS10.out.below hbn⟩; have M11 := Lib.hid (M10.out.below hbn); have R11 := Lib.hid (R10.out.below hbn (Tab.lt R10.out)); have bb11 : Hid (Below w.heap.size w w11) := bb10.out.trans (hbn.mono bb10.out.size); clear hk11 hbn hB11 hS10 M10 R10 bb10; generalize w10.heap.size = m12 at *)
    | ((with_reducible change wpList _ _ _ ({ dst := some 65, op := _, type := _, pos := _, after := _, guard := _ } :: _) _ _); (with_reducible refine Veil.out ?_); refine wpList_rowW (o := ⟨some 65, _, _, _, _, _⟩) rfl 28 (.tmp 11) rfl (m11) rfl 28 ((noteCells (decH q) (.slice A8 m9 c8)).toArray) (0, 0) _ M11.out.blk Try.underlying28 rfl (zD.out _) ?_)
    | ((with_reducible change wpList _ _ _ ({ dst := some 66, op := _, type := _, pos := _, after := _, guard := _ } :: _) _ _); (with_reducible refine Veil.out ?_); refine wpList_rowW (o := ⟨some 66, _, _, _, _, _⟩) rfl 28 (.tmp 12) rfl (m12) rfl 28 ((noteCells (decH q) (.slice A10 m9 c10)).toArray) (0, 0) _ P11.out.blk Try.underlying28 rfl (zD.out _) ?_)
    | (go_at_call 19; refine (sameNotes_any (decH q) (decH_ok q) (decS q) m9 (by have := hm16.out; omega) A8 A10 c8 c10 w11 M11.out.sgs P11.out.sgs).mono ?_; rintro e w12 ⟨rfl, hb12⟩; have R12 := Lib.hid (R11.out.below hb12 (Tab.lt R11.out)); have bb12 : Hid (Below w.heap.size w w12) := bb11.out.trans (hb12.mono bb11.out.size); clear hb12 M11 P11 R11 bb11)
    | (go_at_call 20; refine (left_any q k hk0.out hk7.out gr Ar cr w12 R12.out (hRr.out w12 bb12.out)).mono ?_; rintro e w13 ⟨rfl, n13, rfl⟩))
  go_ret
  exact ⟨rfl, below_drawn bb12.out _⟩
set_option maxRecDepth 100000 in
set_option maxHeartbeats 4000000 in
theorem notes_no (h : HeadD) (ok : h.Ok) (ss : List Text) (n : Nat) (hn100 : n ≤ 100) (A : Option Addr) (c : Nat) (q : Text) (k : Nat) (hk : q.length = k) (hk47 : k < 140737488355328) (hq : noteOk q = false) (Ar : Option Addr) (cr : Nat) (hkc : k ≤ cr) (w : World) (hS : Sgs w A n ss) (hr : Reads w 1 Ar k (cells8 q)) :
    Calls Try.prog 7 #[.agg (noteCells h (.slice A n c)).toArray, .slice Ar k cr] w fun e w' => e = .returned (.bool true) ∧ Below w.heap.size w w' := by
  obtain ⟨w0, hw0⟩ : ∃ w0, w.alloc (.cells (noteCells h (.slice A n c)).toArray 28) = w0 := ⟨_, rfl⟩
  have N0 : Hid (NoteAt w0 w.heap.size h A n c ss) := by show NoteAt _ _ _ _ _ _ _; rw [← hw0]; exact NoteAt.new hS
  have hb0 : Hid (Below w.heap.size w w0) := by show Below _ _ _; rw [← hw0]; exact Below.heap_below w _
  have hRr : Hid (∀ w', Below w.heap.size w w' → Reads w' 1 Ar k (cells8 q)) := fun w' hb => hr.below hb
  have zN := Lib.hid (fun v => note_size ok v)
  have oN := Lib.hid (fun A n c => note_one (h := h) A n c)
  have sN := Lib.hid (fun v => note_zero ok v)
  have zD := Lib.hid (fun v => note_size (decH_ok q) v)
  have oD := Lib.hid (fun A n c => note_one (h := decH q) A n c)
  have sD := Lib.hid (fun v => note_zero (decH_ok q) v)
  have hsns : Hid (Sns ss) := hS.all
  have hlen : Hid (ss.length = n) := hS.len
  have hn0 := Lib.hid hn100
  have hk0 := Lib.hid hk
  have hk7 := Lib.hid hk47
  have hkc0 := Lib.hid hkc
  have hq0 := Lib.hid hq
  have hl7 := Lib.hid (noteT_len h ok ss hS.all)
  obtain ⟨bt, hbt⟩ : ∃ bt, Hid ((noteAns h ss).1.getD [] = bt) := ⟨_, Lib.hid rfl⟩
  have hl8 : Hid (bt.length < 140737488355328) := by have := hl7.out; unfold noteT at this; rw [hbt.out] at this; exact this
  obtain ⟨k7, hk7'⟩ : ∃ k7, Hid ((noteAns h ss).2 = k7) := ⟨_, Lib.hid rfl⟩
  obtain ⟨m9, hm9⟩ : ∃ m9, Hid ((decS q).length = m9) := ⟨_, Lib.hid rfl⟩
  have hm16 : Hid (m9 ≤ 16) := by show _ ≤ _; rw [← hm9.out]; exact decS_len q
  have ok' := Lib.hid ok
  clear hS hr ok hn100 hk hk47 hkc hq
  go_enter Try.func7, Try.ntmps7
  go_wp2_with (first
    | (((with_reducible change wpList _ _ _ ({ dst := some 14, op := _, type := _, pos := _, after := _, guard := _ } :: _) _ _); refine wpList_load_row (o := ⟨some 14, _, _, _, _, _⟩) rfl 28 (.tmp 2) rfl (w.heap.size) rfl 28 ((noteCells h (.slice A n c)).toArray) (0, 0) _ N0.out.blk Try.underlying28 rfl (zN.out _) ?_))
    | (go_at_call 16; refine (given_any h ok'.out ss n (by have := hn0.out; omega) A c w0 N0.out.sgs).mono ?_; rintro e w1 ⟨g, rfl, hg, hG1, hb1⟩; have N1 := Lib.hid (N0.out.below hb1); replace hG1 := Lib.hid hG1; have bb1 : Hid (Below w.heap.size w w1) := hb0.out.trans (hb1.mono hb0.out.size); clear hg hb1 N0 hb0 hw0)
    | ((with_reducible change wpList _ _ _ ({ dst := none, op := Op.store 28 (.tmp 5) (.tmp 15), type := _, pos := _, after := _, guard := _ } :: _) _ _); refine wpList_store_all (o := ⟨none, _, _, _, _, _⟩) rfl 28 (.tmp 5) (.tmp 15) rfl w1.heap.size (noteCells h (.slice (some ⟨g, 0, none⟩) n (n + 40))).toArray rfl rfl 28 Z99 (Blk.new w1 _ _) (zN.out _) (sN.out _) (oN.out _ _ _) ?_; intro w2 hB2 hk2; have hbn := below_new hk2; have G2 := Lib.hid (hG1.out.below hbn); have N2 := Lib.hid (N1.out.below hbn); have bb2 : Hid (Below w.heap.size w w2) := bb1.out.trans (hbn.mono bb1.out.size); have M2 : Hid (NoteAt w2 w1.heap.size h (some ⟨g, 0, none⟩) n (n + 40) ss) := ⟨hB2.out, G2.out.rd hsns.out hlen.out⟩; clear hk2 hbn hB2 hG1 N1 bb1; generalize w1.heap.size = m5 at *)
    | (((with_reducible change wpList _ _ _ ({ dst := some 17, op := _, type := _, pos := _, after := _, guard := _ } :: _) _ _); refine wpList_load_row (o := ⟨some 17, _, _, _, _, _⟩) rfl 28 (.tmp 5) rfl (m5) rfl 28 ((noteCells h (.slice (some ⟨g, 0, none⟩) n (n + 40))).toArray) (0, 0) _ M2.out.blk Try.underlying28 rfl (zN.out _) ?_))
    | (go_at_call 10; refine (encnote_any h ok'.out ss n (some ⟨g, 0, none⟩) (n + 40) w2 M2.out.sgs).mono ?_; rintro e w3 ⟨v3, rfl, hb3, hP3⟩; rw [hk7'.out]; obtain ⟨A3, c3, rfl, -, -, hr3⟩ := post_reads hP3; rw [hbt.out] at hr3 ⊢; replace hr3 := Lib.hid hr3; have G3 := Lib.hid (G2.out.below hb3); have N3 := Lib.hid (N2.out.below hb3); have M3 := Lib.hid (M2.out.below hb3); have bb3 : Hid (Below w.heap.size w w3) := bb2.out.trans (hb3.mono bb2.out.size); clear hb3 hP3 G2 N2 M2 bb2)
    | (((with_reducible change wpList _ _ _ ({ dst := some 22, op := _, type := _, pos := _, after := _, guard := _ } :: _) _ _); refine wpList_load_row (o := ⟨some 22, _, _, _, _, _⟩) rfl 28 (.tmp 2) rfl (w.heap.size) rfl 28 ((noteCells h (.slice A n c)).toArray) (0, 0) _ N3.out.blk Try.underlying28 rfl (zN.out _) ?_))
    | (go_at_call 6; refine (refnote_any h ok'.out ss n A c w3 N3.out.sgs).mono ?_; rintro e w4 ⟨v4, rfl, hb4, hP4⟩; rw [hk7'.out]; obtain ⟨A4, c4, rfl, -, -, hr4⟩ := post_reads hP4; rw [hbt.out] at hr4 ⊢; replace hr4 := Lib.hid hr4; have hr34 := Lib.hid (hr3.out.below hb4); have G4 := Lib.hid (G3.out.below hb4); have N4 := Lib.hid (N3.out.below hb4); have M4 := Lib.hid (M3.out.below hb4); have bb4 : Hid (Below w.heap.size w w4) := bb3.out.trans (hb4.mono bb3.out.size); clear hb4 hP4 G3 N3 M3 bb3 hr3)
    | (go_at_call 12; refine (same_any bt bt.length rfl (Nat.lt_trans hl8.out (by decide)) A3 A4 c3 c4 w4 hr34.out hr4.out).mono ?_; rintro e w5' ⟨rfl, n5, rfl⟩; have hb5 : Below w4.heap.size w4 (w4.drewN n5) := below_drawn (Below.refl _ _) n5; have G5 := Lib.hid (G4.out.below hb5); have N5 := Lib.hid (N4.out.below hb5); have M5 := Lib.hid (M4.out.below hb5); have bb5 : Hid (Below w.heap.size w (w4.drewN n5)) := bb4.out.trans (hb5.mono bb4.out.size); clear hb5 G4 N4 M4 bb4 hr34 hr4; generalize w4.drewN n5 = w5 at *)
    | ((with_reducible change wpList _ _ _ ({ dst := some 36, op := _, type := _, pos := _, after := _, guard := _ } :: _) _ _); (with_reducible refine Veil.out ?_); refine wpList_rowW (o := ⟨some 36, _, _, _, _, _⟩) rfl 28 (.tmp 5) rfl (m5) rfl 28 ((noteCells h (.slice (some ⟨g, 0, none⟩) n (n + 40))).toArray) (0, 0) _ M5.out.blk Try.underlying28 rfl (zN.out _) ?_)
    | ((with_reducible change wpList _ _ _ ({ dst := some 37, op := _, type := _, pos := _, after := _, guard := _ } :: _) _ _); (with_reducible refine Veil.out ?_); refine wpList_rowW (o := ⟨some 37, _, _, _, _, _⟩) rfl 28 (.tmp 2) rfl (w.heap.size) rfl 28 ((noteCells h (.slice A n c)).toArray) (0, 0) _ N5.out.blk Try.underlying28 rfl (zN.out _) ?_)
    | (go_at_call 17; refine (kept_any h ok'.out ss n (by have := hn0.out; omega) g A c w5 G5.out N5.out.sgs).mono ?_; rintro e w6 ⟨rfl, hb6⟩; have bb6 : Hid (Below w.heap.size w w6) := bb5.out.trans (hb6.mono bb5.out.size); clear hb6 G5 N5 M5 bb5)
    | (go_at_call 13; refine (roomy_any q k hk0.out hk7.out Ar cr w6 (hRr.out w6 bb6.out)).mono ?_; rintro e w7 ⟨gr, rfl, hgr, R7, hb7⟩; replace R7 := Lib.hid R7; have bb7 : Hid (Below w.heap.size w w7) := bb6.out.trans (hb7.mono bb6.out.size); clear hb7 hgr bb6)
    | (go_at_call 11; refine (decnote_any q k hk0.out hk7.out (some ⟨gr, 0, none⟩) (k + 100) w7 (by have := R7.out.reads; rw [hk0.out] at this; exact this) (fun e => by cases e)).mono ?_; rw [hq0.out]; rintro e w8 ⟨v8, rfl, hb8, A8, c8, rfl, -, -, hS8, -⟩; rw [hm9.out] at hS8 ⊢; replace hS8 := Lib.hid hS8; have R8 := Lib.hid (R7.out.below hb8 (Tab.lt R7.out)); have bb8 : Hid (Below w.heap.size w w8) := bb7.out.trans (hb8.mono bb7.out.size); clear hb8 R7 bb7)
    | ((with_reducible change wpList _ _ _ ({ dst := none, op := Op.store 28 (.tmp 11) (.tmp 46), type := _, pos := _, after := _, guard := _ } :: _) _ _); refine wpList_store_all (o := ⟨none, _, _, _, _, _⟩) rfl 28 (.tmp 11) (.tmp 46) rfl w8.heap.size (noteCells (decH q) (.slice A8 m9 c8)).toArray rfl rfl 28 Z99 (Blk.new w8 _ _) (zD.out _) (sD.out _) (oD.out _ _ _) ?_; intro w9 hB9 hk9; have hbn := below_new hk9; have M9 : Hid (NoteAt w9 w8.heap.size (decH q) A8 m9 c8 (decS q)) := ⟨hB9.out, hS8.out.below hbn⟩; have R9 := Lib.hid (R8.out.below hbn (Tab.lt R8.out)); have bb9 : Hid (Below w.heap.size w w9) := bb8.out.trans (hbn.mono bb8.out.size); clear hk9 hbn hB9 hS8 R8 bb8; generalize w8.heap.size = m11 at *)
    | (go_at_call 18; refine (readnote_any q k hk0.out hk7.out Ar cr hkc0.out w9 (hRr.out w9 bb9.out)).mono ?_; rw [hq0.out]; rintro e w10 ⟨v10, rfl, hb10, A10, c10, rfl, -, -, hS10, -⟩; rw [hm9.out] at hS10 ⊢; replace hS10 := Lib.hid hS10; have M10 := Lib.hid (M9.out.below hb10); have R10 := Lib.hid (R9.out.below hb10 (Tab.lt R9.out)); have bb10 : Hid (Below w.heap.size w w10) := bb9.out.trans (hb10.mono bb9.out.size); clear hb10 M9 R9 bb9)
    | ((with_reducible change wpList _ _ _ ({ dst := none, op := Op.store 28 (.tmp 12) (.tmp 51), type := _, pos := _, after := _, guard := _ } :: _) _ _); refine wpList_store_all (o := ⟨none, _, _, _, _, _⟩) rfl 28 (.tmp 12) (.tmp 51) rfl w10.heap.size (noteCells (decH q) (.slice A10 m9 c10)).toArray rfl rfl 28 Z99 (Blk.new w10 _ _) (zD.out _) (sD.out _) (oD.out _ _ _) ?_; intro w11 hB11 hk11; have hbn := below_new hk11; have P11 : Hid (NoteAt w11 w10.heap.size (decH q) A10 m9 c10 (decS q)) := ⟨hB11.out, hS10.out.below hbn⟩; have M11 := Lib.hid (M10.out.below hbn); have R11 := Lib.hid (R10.out.below hbn (Tab.lt R10.out)); have bb11 : Hid (Below w.heap.size w w11) := bb10.out.trans (hbn.mono bb10.out.size); clear hk11 hbn hB11 hS10 M10 R10 bb10; generalize w10.heap.size = m12 at *)
    | ((with_reducible change wpList _ _ _ ({ dst := some 65, op := _, type := _, pos := _, after := _, guard := _ } :: _) _ _); (with_reducible refine Veil.out ?_); refine wpList_rowW (o := ⟨some 65, _, _, _, _, _⟩) rfl 28 (.tmp 11) rfl (m11) rfl 28 ((noteCells (decH q) (.slice A8 m9 c8)).toArray) (0, 0) _ M11.out.blk Try.underlying28 rfl (zD.out _) ?_)
    | ((with_reducible change wpList _ _ _ ({ dst := some 66, op := _, type := _, pos := _, after := _, guard := _ } :: _) _ _); (with_reducible refine Veil.out ?_); refine wpList_rowW (o := ⟨some 66, _, _, _, _, _⟩) rfl 28 (.tmp 12) rfl (m12) rfl 28 ((noteCells (decH q) (.slice A10 m9 c10)).toArray) (0, 0) _ P11.out.blk Try.underlying28 rfl (zD.out _) ?_)
    | (go_at_call 19; refine (sameNotes_any (decH q) (decH_ok q) (decS q) m9 (by have := hm16.out; omega) A8 A10 c8 c10 w11 M11.out.sgs P11.out.sgs).mono ?_; rintro e w12 ⟨rfl, hb12⟩; have R12 := Lib.hid (R11.out.below hb12 (Tab.lt R11.out)); have bb12 : Hid (Below w.heap.size w w12) := bb11.out.trans (hb12.mono bb11.out.size); clear hb12 M11 P11 R11 bb11)
    | (go_at_call 20; refine (left_any q k hk0.out hk7.out gr Ar cr w12 R12.out (hRr.out w12 bb12.out)).mono ?_; rintro e w13 ⟨rfl, n13, rfl⟩))
  go_ret
  exact ⟨rfl, below_drawn bb12.out _⟩
theorem notes_any (h : HeadD) (ok : h.Ok) (ss : List Text) (n : Nat) (hn100 : n ≤ 100) (A : Option Addr) (c : Nat) (q : Text) (k : Nat) (hk : q.length = k) (hk47 : k < 140737488355328) (Ar : Option Addr) (cr : Nat) (hkc : k ≤ cr) (w : World) (hS : Sgs w A n ss) (hr : Reads w 1 Ar k (cells8 q)) :
    Calls Try.prog 7 #[.agg (noteCells h (.slice A n c)).toArray, .slice Ar k cr] w fun e w' => e = .returned (.bool true) ∧ Below w.heap.size w w' := by
  cases hq : noteOk q with
  | true => exact notes_yes h ok ss n hn100 A c q k hk hk47 hq Ar cr hkc w hS hr
  | false => exact notes_no h ok ss n hn100 A c q k hk hk47 hq Ar cr hkc w hS hr
end Go.Proofs.Yteelanamlhfmgaa.Notes

namespace Go.Proofs.Yteelanamlhfmgaa.HeadNotes
open Go Go.RowKit Go.Proofs.Yteelanamlhfmgaa Go.Proofs.Yteelanamlhfmgaa.Mem Go.Proofs.Yteelanamlhfmgaa.Sha Go.Proofs.Yteelanamlhfmgaa.Bytes Go.Proofs.Yteelanamlhfmgaa.SortP Go.Proofs.Yteelanamlhfmgaa.NoteP Go.Proofs.Yteelanamlhfmgaa.QuietTail Go.Proofs.Yteelanamlhfmgaa.Grown Go.Proofs.Yteelanamlhfmgaa.Want Go.Proofs.Yteelanamlhfmgaa.Guard2 Go.Proofs.Yteelanamlhfmgaa.Append Go.Proofs.Yteelanamlhfmgaa.Own Go.Proofs.Yteelanamlhfmgaa.Rise Go.Proofs.Yteelanamlhfmgaa.SortM Go.Proofs.Yteelanamlhfmgaa.SgM Go.Proofs.Yteelanamlhfmgaa.HeadMem Go.Proofs.Yteelanamlhfmgaa.EncNoteP Go.Proofs.Yteelanamlhfmgaa.EncNote Go.Proofs.Yteelanamlhfmgaa.RowS Go.Proofs.Yteelanamlhfmgaa.Fill Go.Proofs.Yteelanamlhfmgaa.NoteM Go.Proofs.Yteelanamlhfmgaa.SignEq Go.Proofs.Yteelanamlhfmgaa.CmpW Go.Proofs.Yteelanamlhfmgaa.SameSigns Go.Proofs.Yteelanamlhfmgaa.Stranger Go.Proofs.Yteelanamlhfmgaa.Given Go.Proofs.Yteelanamlhfmgaa.HeadTake Go.Proofs.Yteelanamlhfmgaa.HeadTake2 Go.Proofs.Yteelanamlhfmgaa.Decode Go.Proofs.Yteelanamlhfmgaa.Kept16 Go.Proofs.Yteelanamlhfmgaa.RefNote Go.Proofs.Yteelanamlhfmgaa.Notes

set_option maxRecDepth 100000 in
set_option maxHeartbeats 2000000 in
theorem headNotes_any (h : HeadD) (ok : h.Ok) (ss : List Text) (n : Nat) (A : Option Addr) (c : Nat) (hc : n ≤ c) (q : Text) (k : Nat) (hk : q.length = k) (hk47 : k < 140737488355328) (Ar : Option Addr) (cr : Nat) (hkc : k ≤ cr) (w : World) (hS : Sgs w A n ss) (hr : Reads w 1 Ar k (cells8 q)) :
    Calls Try.prog 3 #[.agg (noteCells h (.slice A n c)).toArray, .slice Ar k cr] w fun e w' => e = .returned (.bool true) ∧ Below w.heap.size w w' := by
  obtain ⟨w0, hw0⟩ : ∃ w0, w.alloc (.cells (noteCells h (.slice A n c)).toArray 28) = w0 := ⟨_, rfl⟩
  have N0 : Hid (NoteAt w0 w.heap.size h A n c ss) := by show NoteAt _ _ _ _ _ _ _; rw [← hw0]; exact NoteAt.new hS
  have hb0 : Hid (Below w.heap.size w w0) := by show Below _ _ _; rw [← hw0]; exact Below.heap_below w _
  have hs0 : Hid (w0.heap.size = w.heap.size + 1) := by show _ = _; rw [← hw0]; simp
  have hRr : Hid (∀ w', Below w.heap.size w w' → Reads w' 1 Ar k (cells8 q)) := fun w' hb => hr.below hb
  have hSs : Hid (∀ w', Below w.heap.size w w' → Sgs w' A n ss) := fun w' hb => hS.below hb
  have zN := Lib.hid (fun v => note_size ok v)
  have oN := Lib.hid (fun A n c => note_one (h := h) A n c)
  have sN : Hid (∀ v u, (noteCells h v).toArray.size = (noteCells h u).toArray.size) := fun v u => by rw [← note_zero ok v, ← note_zero ok u]
  have hk0 := Lib.hid hk
  have hk7 := Lib.hid hk47
  have hkc0 := Lib.hid hkc
  have ok' := Lib.hid ok
  have hc0 := Lib.hid hc
  clear hS hr ok hk hk47 hkc hc
  go_enter Try.func3, Try.ntmps3
  go_wp2_with (first
    | (((with_reducible change wpList _ _ _ ({ dst := some 7, op := _, type := _, pos := _, after := _, guard := _ } :: _) _ _); refine wpList_load_row (o := ⟨some 7, _, _, _, _, _⟩) rfl 28 (.tmp 2) rfl (w.heap.size) rfl 28 ((noteCells h (.slice A n c)).toArray) (0, 0) _ N0.out.blk Try.underlying28 rfl (zN.out _) ?_))
    | (go_at_call 5; refine (short_any h ok'.out ss n A c hc0.out w0 N0.out.sgs).mono ?_; rintro e w1 ⟨m, hm, rfl, hS1, hb1⟩; have B1 : Hid (Blk w1 w.heap.size 28 (noteCells h (.slice A n c)).toArray) := (hb1.block _ N0.out.blk.lt).trans N0.out.blk; have bb1 : Hid (Below w.heap.size w w1) := hb0.out.trans (hb1.mono hb0.out.size); replace hS1 := Lib.hid hS1; have hw1 : Hid (w.heap.size < w1.heap.size) := B1.out.lt; clear hb1 N0 hb0 hw0)
    | ((with_reducible change wpList _ _ _ ({ dst := none, op := Op.store 28 (.tmp 2) (.tmp 8), type := _, pos := _, after := _, guard := _ } :: _) _ _); refine wpList_store_all (o := ⟨none, _, _, _, _, _⟩) rfl 28 (.tmp 2) (.tmp 8) rfl w.heap.size (noteCells h (.slice A m c)).toArray rfl rfl 28 (noteCells h (.slice A n c)).toArray B1.out (zN.out _) (sN.out _ _) (oN.out _ _ _) ?_; intro w2 hB2 hk2; have bb2 : Hid (Below w.heap.size w w2) := bb1.out.trans (Kept.below_of hk2 (Nat.le_refl _) bb1.out.size); have N2 : Hid (NoteAt w2 w.heap.size h A m c (ss.take m)) := ⟨hB2.out, (hSs.out w2 bb2.out).take_ m hm.out.2⟩; clear hk2 hB2 B1 bb1 hS1 hw1)
    | (((with_reducible change wpList _ _ _ ({ dst := some 10, op := _, type := _, pos := _, after := _, guard := _ } :: _) _ _); refine wpList_load_row (o := ⟨some 10, _, _, _, _, _⟩) rfl 28 (.tmp 2) rfl (w.heap.size) rfl 28 ((noteCells h (.slice A m c)).toArray) (0, 0) _ N2.out.blk Try.underlying28 rfl (zN.out _) ?_))
    | (go_at_call 6; refine (refnote_any h ok'.out (ss.take m) m A c w2 N2.out.sgs).mono ?_; rintro e w3 ⟨v3, rfl, hb3, hP3⟩; obtain ⟨A3, c3, rfl, hc3, -, hr3⟩ := post_reads hP3; have hl3 := Lib.hid (noteT_len h ok'.out (ss.take m) N2.out.sgs.all); unfold noteT at hl3; obtain ⟨bt, hbt⟩ : ∃ bt, Hid ((noteAns h (ss.take m)).1.getD [] = bt) := ⟨_, Lib.hid rfl⟩; rw [hbt.out] at hc3 hr3 hl3 ⊢; replace hc3 := Lib.hid hc3; replace hr3 := Lib.hid hr3; have N3 := Lib.hid (N2.out.below hb3); have bb3 : Hid (Below w.heap.size w w3) := bb2.out.trans (hb3.mono bb2.out.size); clear hb3 hP3 N2 bb2)
    | (((with_reducible change wpList _ _ _ ({ dst := some 14, op := _, type := _, pos := _, after := _, guard := _ } :: _) _ _); refine wpList_load_row (o := ⟨some 14, _, _, _, _, _⟩) rfl 28 (.tmp 2) rfl (w.heap.size) rfl 28 ((noteCells h (.slice A m c)).toArray) (0, 0) _ N3.out.blk Try.underlying28 rfl (zN.out _) ?_))
    | (go_at_call 7; refine (notes_any h ok'.out (ss.take m) m hm.out.1 A c q k hk0.out hk7.out Ar cr hkc0.out w3 N3.out.sgs (hRr.out w3 bb3.out)).mono ?_; rintro e w4 ⟨rfl, hb4⟩; have N4 := Lib.hid (N3.out.below hb4); have hr4 := Lib.hid (hr3.out.below hb4); have bb4 : Hid (Below w.heap.size w w4) := bb3.out.trans (hb4.mono bb3.out.size); clear hb4 N3 bb3 hr3)
    | ((with_reducible change wpList _ _ _ ({ dst := some 18, op := _, type := _, pos := _, after := _, guard := _ } :: _) _ _); (with_reducible refine Veil.out ?_); refine wpList_rowW (o := ⟨some 18, _, _, _, _, _⟩) rfl 28 (.tmp 2) rfl (w.heap.size) rfl 28 ((noteCells h (.slice A m c)).toArray) (0, 0) _ N4.out.blk Try.underlying28 rfl (zN.out _) ?_)
    | (go_at_call 7; refine (notes_any h ok'.out (ss.take m) m hm.out.1 A c bt bt.length rfl hl3.out A3 c3 hc3.out w4 N4.out.sgs hr4.out).mono ?_; rintro e w5 ⟨rfl, hb5⟩))
  go_ret
  exact ⟨rfl, bb4.out.trans (hb5.mono bb4.out.size)⟩
end Go.Proofs.Yteelanamlhfmgaa.HeadNotes
