/-
  Texts of the claim, put into one file: Plays1, Plays2, Plays3, HeadAgain.
-/
import Derived.Test.YtfbhjoejffagjaaGreatDoorZ45
import Derived.Test.YtfbhjoejffagjaaGreatDoorZ38
import Derived.Test.YtfbhjoejffagjaaGreatDoorZ15
import Derived.Test.YtfbhjoejffagjaaGreatDoorZ16
import Derived.Test.YtfbhjoejffagjaaGreatDoorZ31
import Derived.Test.YtfbhjoejffagjaaGreatDoorZ36
import Derived.Test.YtfbhjoejffagjaaGreatDoorZ24
import Derived.Test.YtfbhjoejffagjaaGreatDoorZ40
import Derived.Test.YtfbhjoejffagjaaGreatDoorZ27
import Derived.Test.YtfbhjoejffagjaaGreatDoorZ7
import Derived.Deep.Cut
import Derived.Deep.CutRange
import Derived.Test.YtfbhjoejffagjaaGreatDoorZ32

namespace Go.Proofs.YtfbhjoejffagjaaGreatDoor.Plays1
open Go Go.RowKit Go.Proofs.YtfbhjoejffagjaaGreatDoor Mem Sha Bytes SortP NoteP QuietTail Grown Want Guard2 Go.Proofs.YtfbhjoejffagjaaGreatDoor.Append Own Rise SortM SgM HashMem HeadMem HeadID HeadLog HeadEnc RefHead HeadEq EncNoteP EncNote RowS NoteM RefNote SignEq CmpW SameSigns Kept16 HeadTake HeadTake2 Decode ReadHead DecNote ReadNote Sign Signs RefSigns Check RefCheck DigEq AddP Go.Proofs.YtfbhjoejffagjaaGreatDoor.Add RefAdd HeadAdds RingM RingS NewRing VerP Verify RingP RefRing RefVerify Asked Law16

theorem text_readsP {B : Nat} {w' : World} {v : Value} {o : Option Text} (h : NotePost B w' v o) : ∃ (A : Option Addr) (c : Nat), v = .slice A (o.getD []).length c ∧ Reads w' 1 A (o.getD []).length (cells8 (o.getD [])) := by
 cases o with
 | none =>
  obtain rfl : v = .slice none 0 0 := h
  exact ⟨none, 0, rfl, Reads.nil_ _ _ _⟩
 | some b =>
  obtain ⟨A, c, e, -, -, -, h3, -⟩ := Own.reads (show w'.ownsRow _ _ _ _ _ _ from h)
  exact ⟨A, c, e, h3⟩
theorem text_lenP (h : HeadD) (ok : h.Ok) (ss : List Text) (hs : Sns ss) : ((noteAns h ss).1.getD []).length < 140737488355328 := by
 rcases note_cases h ss ss.length rfl with ⟨-, e⟩ | ⟨-, -, e⟩ | ⟨-, -, e⟩ | ⟨-, -, -, -, e⟩ | ⟨-, -, h3, rs, h4, e⟩ <;> rw [e]
 ·simp
 ·simp
 ·simp
 ·simp
 ·show (noteB h rs).length < _
  rw [noteB_len ok (rising_sns h4 hs), rising_len h4]
  omega
theorem headOf_okD {q : Text} (h : decOk q = true) : (headOf q).Ok := by
 unfold decOk at h
 simp only [Bool.and_eq_true, decide_eq_true_eq] at h
 exact headOf_ok q (by omega) h.2
theorem eql_sign (x : Text) (hx : x.length = 64) (w : World) : (binOp .eql 56 (.agg (cells8 x).toArray) (.agg (cells8 x).toArray)).run Tryz.prog w = .ok (.bool true) w := by
 have h1 := neq_sign x x hx hx w
 simp only [binOp] at h1 ⊢
 revert h1
 cases hq : (Op.equal 56 (.agg (cells8 x).toArray) (.agg (cells8 x).toArray)).run Tryz.prog w with
 | ok b w2 => simp [hq, Result.andThen]
 | _ => simp [hq, Result.andThen]
set_option maxRecDepth 100000 in
set_option maxHeartbeats 8000000 in
theorem plays_1 (cc : Array Value) (h : HeadD) (ok : h.Ok) (ss : List Text) (n : Nat) (hn100 : n ≤ 100) (A : Option Addr) (c : Nat) (hnil : A = none → n = 0 ∧ c = 0) (q : Text) (k : Nat) (hk : q.length = k) (hk47 : k < 140737488355228) (Ab : Option Addr) (cb : Nat) (hkc : k ≤ cb) (hkn : Ab = none → k = 0 ∧ cb = 0) (v3 : Value) (Ap : Option Addr) (N cp : Nat) (w : World) (hB : Base w) (hS : Sgs w A n ss) (hr : Reads w 1 Ab k (cells8 q)) (K0 : Int) (hK0 : K0 = 1) (hK : cc[0]? = some (.int .i64 K0)) :
  Calls Tryz.prog 17 #[.agg cc, .agg (noteCells h (.slice A n c)).toArray, .slice Ab k cb, v3, .slice Ap N cp] w fun e w' => e = .returned (.bool true) ∧ Below w.heap.size w w' := by
 obtain ⟨w0, hw0⟩ : ∃ w0, (w.alloc (.cells cc 58)).alloc (.cells (noteCells h (.slice A n c)).toArray 39) = w0 := ⟨_, rfl⟩
 have hz : (w.alloc (.cells cc 58)).heap.size = w.heap.size + 1 := by simp
 have C0 : Hid (Blk w0 w.heap.size 58 cc) := by show Blk _ _ _ _; rw [← hw0]; exact (Blk.new w _ _).alloc _
 have N0 : Hid (NoteAt w0 (w.heap.size + 1) h A n c ss) := by show NoteAt _ _ _ _ _ _ _; rw [← hw0, ← hz]; exact NoteAt.new (hS.below (Below.heap_below w _))
 have bb0 : Hid (Below w.heap.size w w0) := by show Below _ _ _; rw [← hw0]; exact (Below.heap_below w _).alloc (by rw [hz]; omega) _
 have hRs : Hid (∀ w', Below w.heap.size w w' → Reads w' 1 Ab k (cells8 q)) := fun w' hb => hr.below hb
 have hBs : Hid (∀ w', Below w.heap.size w w' → Base w') := fun w' hb => hB.below hb hB.1
 have zN := Lib.hid (fun v => note_size ok v)
 have oN := Lib.hid (fun A n c => note_one (h := h) A n c)
 have s0N := Lib.hid (fun v => note_zero ok v)
 have hsz : Hid ((Tryz.prog.info? 36).map (·.size) = some (headCells h).length) := by show _ = _; rw [headCells_len ok]; exact size98
 have hc0 : w0.cell? ⟨w.heap.size, 0, none⟩ = some (.int .i64 K0) := (C0.out.cell 0).trans hK
 have ok' := Lib.hid ok
 have hn0 := Lib.hid hn100
 have hnl := Lib.hid hnil
 have hk0 := Lib.hid hk
 have hk7 := Lib.hid hk47
 have hkc0 := Lib.hid hkc
 have hkn0 := Lib.hid hkn
 have hsns : Hid (Sns ss) := hS.all
 clear hz hB hS hr ok hn100 hnil hk hk47 hkc hkn hK
 subst hK0
 cases hrt : rightB h with
 | true =>
  have ht1 := Lib.hid hrt
  have hl := Lib.hid (headBytes_len ok'.out)
  go_enter Tryz.func17, Tryz.ntmps17
  go_wp2_with (first
  | (((with_reducible change wpList _ _ _ (⟨some 41, _, _, _, _, _⟩ :: _) _ _); refine wpList_load_part (o := ⟨some 41, _, _, _, _, _⟩) rfl 36 (.tmp 40) rfl ((w.heap.size + 1)) (0) rfl (headCells h) _ N0.out.head Tryz.underlying36 rfl hsz.out ?_))
  | (go_at_call 32; refine (encodeHead_yes h ok'.out ht1.out w0).mono ?_; rintro e w1 ⟨v1, rfl, hb, hO⟩; obtain ⟨A1, c1, rfl, -, -, -, hr1, -⟩ := Own.reads hO; replace hr1 := Lib.hid hr1; have N1 := Lib.hid (N0.out.below hb); have bb1 : Hid (Below w.heap.size w w1) := bb0.out.trans (hb.mono bb0.out.size); clear hb N0 bb0; clear hO hw0)
  | (((with_reducible change wpList _ _ _ (⟨some 47, _, _, _, _, _⟩ :: _) _ _); refine wpList_load_part (o := ⟨some 47, _, _, _, _, _⟩) rfl 36 (.tmp 46) rfl ((w.heap.size + 1)) (0) rfl (headCells h) _ N1.out.head Tryz.underlying36 rfl hsz.out ?_))
  | (go_at_call 35; refine (refHead_yes h ok'.out ht1.out w1).mono ?_; rintro e w2 ⟨v2, rfl, hb, hO⟩; obtain ⟨A2, c2, rfl, -, -, -, hr2, -⟩ := Own.reads hO; replace hr2 := Lib.hid hr2; have hr12 := Lib.hid (hr1.out.below hb); have bb2 : Hid (Below w.heap.size w w2) := bb1.out.trans (hb.mono bb1.out.size); clear hb  bb1; clear hO hr1)
  | (go_at_call 18; refine (same_any (headBytes h) 113 hl.out (by decide) A1 A2 c1 c2 w2 hr12.out hr2.out).mono ?_; rintro e wX ⟨rfl, nX, rfl⟩; have bb3 : Hid (Below w.heap.size w (w2.drewN nX)) := below_drawn bb2.out nX))
  go_ret
  exact ⟨rfl, bb3.out⟩
 | false =>
  have ht1 := Lib.hid hrt
  go_enter Tryz.func17, Tryz.ntmps17
  go_wp2_with (first
  | (((with_reducible change wpList _ _ _ (⟨some 41, _, _, _, _, _⟩ :: _) _ _); refine wpList_load_part (o := ⟨some 41, _, _, _, _, _⟩) rfl 36 (.tmp 40) rfl ((w.heap.size + 1)) (0) rfl (headCells h) _ N0.out.head Tryz.underlying36 rfl hsz.out ?_))
  | (go_at_call 32; refine (encodeHead_no h ok'.out ht1.out w0).mono ?_; rintro e w1 ⟨rfl, hb⟩; have N1 := Lib.hid (N0.out.below hb); have bb1 : Hid (Below w.heap.size w w1) := bb0.out.trans (hb.mono bb0.out.size); clear hb N0 bb0; clear hw0)
  | (((with_reducible change wpList _ _ _ (⟨some 47, _, _, _, _, _⟩ :: _) _ _); refine wpList_load_part (o := ⟨some 47, _, _, _, _, _⟩) rfl 36 (.tmp 46) rfl ((w.heap.size + 1)) (0) rfl (headCells h) _ N1.out.head Tryz.underlying36 rfl hsz.out ?_))
  | (go_at_call 35; refine (refHead_no h ok'.out ht1.out w1).mono ?_; rintro e w2 ⟨rfl, hb⟩; have bb2 : Hid (Below w.heap.size w w2) := bb1.out.trans (hb.mono bb1.out.size); clear hb  bb1)
  | (go_at_call 18; refine (same_any [] 0 rfl (by decide) none none 0 0 w2 (Reads.nil_ _ _ _) (Reads.nil_ _ _ _)).mono ?_; rintro e wX ⟨rfl, nX, rfl⟩; have bb3 : Hid (Below w.heap.size w (w2.drewN nX)) := below_drawn bb2.out nX))
  go_ret
  exact ⟨rfl, bb3.out⟩
set_option maxRecDepth 100000 in
set_option maxHeartbeats 8000000 in
theorem plays_2 (cc : Array Value) (h : HeadD) (ok : h.Ok) (ss : List Text) (n : Nat) (hn100 : n ≤ 100) (A : Option Addr) (c : Nat) (hnil : A = none → n = 0 ∧ c = 0) (q : Text) (k : Nat) (hk : q.length = k) (hk47 : k < 140737488355228) (Ab : Option Addr) (cb : Nat) (hkc : k ≤ cb) (hkn : Ab = none → k = 0 ∧ cb = 0) (v3 : Value) (Ap : Option Addr) (N cp : Nat) (w : World) (hB : Base w) (hS : Sgs w A n ss) (hr : Reads w 1 Ab k (cells8 q)) (K0 : Int) (hK0 : K0 = 2) (hK : cc[0]? = some (.int .i64 K0)) :
  Calls Tryz.prog 17 #[.agg cc, .agg (noteCells h (.slice A n c)).toArray, .slice Ab k cb, v3, .slice Ap N cp] w fun e w' => e = .returned (.bool true) ∧ Below w.heap.size w w' := by
 obtain ⟨w0, hw0⟩ : ∃ w0, (w.alloc (.cells cc 58)).alloc (.cells (noteCells h (.slice A n c)).toArray 39) = w0 := ⟨_, rfl⟩
 have hz : (w.alloc (.cells cc 58)).heap.size = w.heap.size + 1 := by simp
 have C0 : Hid (Blk w0 w.heap.size 58 cc) := by show Blk _ _ _ _; rw [← hw0]; exact (Blk.new w _ _).alloc _
 have N0 : Hid (NoteAt w0 (w.heap.size + 1) h A n c ss) := by show NoteAt _ _ _ _ _ _ _; rw [← hw0, ← hz]; exact NoteAt.new (hS.below (Below.heap_below w _))
 have bb0 : Hid (Below w.heap.size w w0) := by show Below _ _ _; rw [← hw0]; exact (Below.heap_below w _).alloc (by rw [hz]; omega) _
 have hRs : Hid (∀ w', Below w.heap.size w w' → Reads w' 1 Ab k (cells8 q)) := fun w' hb => hr.below hb
 have hBs : Hid (∀ w', Below w.heap.size w w' → Base w') := fun w' hb => hB.below hb hB.1
 have zN := Lib.hid (fun v => note_size ok v)
 have oN := Lib.hid (fun A n c => note_one (h := h) A n c)
 have s0N := Lib.hid (fun v => note_zero ok v)
 have hsz : Hid ((Tryz.prog.info? 36).map (·.size) = some (headCells h).length) := by show _ = _; rw [headCells_len ok]; exact size98
 have hc0 : w0.cell? ⟨w.heap.size, 0, none⟩ = some (.int .i64 K0) := (C0.out.cell 0).trans hK
 have ok' := Lib.hid ok
 have hn0 := Lib.hid hn100
 have hnl := Lib.hid hnil
 have hk0 := Lib.hid hk
 have hk7 := Lib.hid hk47
 have hkc0 := Lib.hid hkc
 have hkn0 := Lib.hid hkn
 have hsns : Hid (Sns ss) := hS.all
 clear hz hB hS hr ok hn100 hnil hk hk47 hkc hkn hK
 subst hK0
 cases hdo : decOk q with
 | true =>
  obtain ⟨H2, hH2⟩ : ∃ H2 : HeadD, H2.Ok ∧ decOut q = .tuple #[.agg (headCells H2).toArray, .int .i64 0] ∧ readOut q = .tuple #[.agg (headCells H2).toArray, .bool true] := ⟨headOf q, headOf_okD hdo, decOut_yes hdo, readOut_yes hdo⟩
  obtain ⟨ok2, hd1, hd2⟩ := hH2
  have ok2' := Lib.hid ok2
  have hd1' := Lib.hid hd1
  have hd2' := Lib.hid hd2
  obtain ⟨h1z, h1o, h1s⟩ := head_sizes ok2
  have heq : ∀ w', (binOp .eql 36 (.agg (headCells H2).toArray) (.agg (headCells H2).toArray)).run Tryz.prog w' = .ok (.bool true) w' := fun w' => eql_head H2 ok2 w'
  clear hd1 hd2 ok2
  go_enter Tryz.func17, Tryz.ntmps17
  go_wp2_with (first
  | (go_at_call 45; refine (decode_any q k hk0.out (by have := hk7.out; omega) Ab cb w0 (hRs.out w0 bb0.out) hkn0.out).mono ?_; rw [hd1'.out]; rintro e w1 ⟨rfl, hb⟩; have bb1 : Hid (Below w.heap.size w w1) := bb0.out.trans (hb.mono bb0.out.size); clear hb  bb0; clear hw0)
  | ((with_reducible change wpList _ _ _ ({ dst := none, op := Op.store 36 (.tmp 15) (.tmp 65), type := _, pos := _, after := _, guard := _ } :: _) _ _); refine wpList_store_all (o := ⟨none, _, _, _, _, _⟩) rfl 36 (.tmp 15) (.tmp 65) rfl w1.heap.size (headCells H2).toArray rfl rfl 36 Z98 (Blk.new w1 _ _) h1z.out h1s.out h1o.out ?_; intro w2 hB2 hk2; have hb := below_new hk2; have P2 : Hid (Blk w2 w1.heap.size 36 (headCells H2).toArray) := hB2; have bb2 : Hid (Below w.heap.size w w2) := bb1.out.trans (hb.mono bb1.out.size); clear hb  bb1; clear hk2 hB2; generalize w1.heap.size = g15 at *)
  | (go_at_call 46; refine (readHead_any q k hk0.out (by have := hk7.out; omega) Ab cb hkc0.out w2 (hRs.out w2 bb2.out)).mono ?_; rw [hd2'.out]; rintro e w3 ⟨rfl, hb⟩; have P3 : Hid (Blk w3 g15 36 (headCells H2).toArray) := (hb.block _ P2.out.lt).trans P2.out; have bb3 : Hid (Below w.heap.size w w3) := bb2.out.trans (hb.mono bb2.out.size); clear hb  bb2; clear P2)
  | ((with_reducible change wpList _ _ _ ({ dst := none, op := Op.store 36 (.tmp 17) (.tmp 70), type := _, pos := _, after := _, guard := _ } :: _) _ _); refine wpList_store_all (o := ⟨none, _, _, _, _, _⟩) rfl 36 (.tmp 17) (.tmp 70) rfl w3.heap.size (headCells H2).toArray rfl rfl 36 Z98 (Blk.new w3 _ _) h1z.out h1s.out h1o.out ?_; intro w4 hB4 hk4; have hb := below_new hk4; have Q4 : Hid (Blk w4 w3.heap.size 36 (headCells H2).toArray) := hB4; have P4 : Hid (Blk w4 g15 36 (headCells H2).toArray) := (hb.block _ P3.out.lt).trans P3.out; have bb4 : Hid (Below w.heap.size w w4) := bb3.out.trans (hb.mono bb3.out.size); clear hb  bb3; clear hk4 hB4 P3; generalize w3.heap.size = g17 at *)
  | ((with_reducible change wpList _ _ _ (⟨some 77, _, _, _, _, _⟩ :: _) _ _); (with_reducible refine Veil.out ?_); refine wpList_rowW (o := ⟨some 77, _, _, _, _, _⟩) rfl 36 (.tmp 15) rfl (g15) rfl 36 ((headCells H2).toArray) (0, 0) _ P4.out Tryz.underlying36 rfl h1z.out ?_)
  | ((with_reducible change wpList _ _ _ (⟨some 78, _, _, _, _, _⟩ :: _) _ _); (with_reducible refine Veil.out ?_); refine wpList_rowW (o := ⟨some 78, _, _, _, _, _⟩) rfl 36 (.tmp 17) rfl (g17) rfl 36 ((headCells H2).toArray) (0, 0) _ Q4.out Tryz.underlying36 rfl h1z.out ?_))
  go_ret
  exact ⟨rfl, bb4.out⟩
 | false =>
  obtain ⟨H2, hH2⟩ : ∃ H2 : HeadD, H2.Ok ∧ decOut q = .tuple #[.agg (headCells H2).toArray, .int .i64 8] ∧ readOut q = .tuple #[.agg (headCells H2).toArray, .bool false] := ⟨h0, h0_ok, by rw [decOut_no (by rw [hdo]; decide), h0_cells], by rw [readOut_no (by rw [hdo]; decide), h0_cells]⟩
  obtain ⟨ok2, hd1, hd2⟩ := hH2
  have ok2' := Lib.hid ok2
  have hd1' := Lib.hid hd1
  have hd2' := Lib.hid hd2
  obtain ⟨h1z, h1o, h1s⟩ := head_sizes ok2
  have heq : ∀ w', (binOp .eql 36 (.agg (headCells H2).toArray) (.agg (headCells H2).toArray)).run Tryz.prog w' = .ok (.bool true) w' := fun w' => eql_head H2 ok2 w'
  clear hd1 hd2 ok2
  go_enter Tryz.func17, Tryz.ntmps17
  go_wp2_with (first
  | (go_at_call 45; refine (decode_any q k hk0.out (by have := hk7.out; omega) Ab cb w0 (hRs.out w0 bb0.out) hkn0.out).mono ?_; rw [hd1'.out]; rintro e w1 ⟨rfl, hb⟩; have bb1 : Hid (Below w.heap.size w w1) := bb0.out.trans (hb.mono bb0.out.size); clear hb  bb0; clear hw0)
  | ((with_reducible change wpList _ _ _ ({ dst := none, op := Op.store 36 (.tmp 15) (.tmp 65), type := _, pos := _, after := _, guard := _ } :: _) _ _); refine wpList_store_all (o := ⟨none, _, _, _, _, _⟩) rfl 36 (.tmp 15) (.tmp 65) rfl w1.heap.size (headCells H2).toArray rfl rfl 36 Z98 (Blk.new w1 _ _) h1z.out h1s.out h1o.out ?_; intro w2 hB2 hk2; have hb := below_new hk2; have P2 : Hid (Blk w2 w1.heap.size 36 (headCells H2).toArray) := hB2; have bb2 : Hid (Below w.heap.size w w2) := bb1.out.trans (hb.mono bb1.out.size); clear hb  bb1; clear hk2 hB2; generalize w1.heap.size = g15 at *)
  | (go_at_call 46; refine (readHead_any q k hk0.out (by have := hk7.out; omega) Ab cb hkc0.out w2 (hRs.out w2 bb2.out)).mono ?_; rw [hd2'.out]; rintro e w3 ⟨rfl, hb⟩; have P3 : Hid (Blk w3 g15 36 (headCells H2).toArray) := (hb.block _ P2.out.lt).trans P2.out; have bb3 : Hid (Below w.heap.size w w3) := bb2.out.trans (hb.mono bb2.out.size); clear hb  bb2; clear P2)
  | ((with_reducible change wpList _ _ _ ({ dst := none, op := Op.store 36 (.tmp 17) (.tmp 70), type := _, pos := _, after := _, guard := _ } :: _) _ _); refine wpList_store_all (o := ⟨none, _, _, _, _, _⟩) rfl 36 (.tmp 17) (.tmp 70) rfl w3.heap.size (headCells H2).toArray rfl rfl 36 Z98 (Blk.new w3 _ _) h1z.out h1s.out h1o.out ?_; intro w4 hB4 hk4; have hb := below_new hk4; have Q4 : Hid (Blk w4 w3.heap.size 36 (headCells H2).toArray) := hB4; have P4 : Hid (Blk w4 g15 36 (headCells H2).toArray) := (hb.block _ P3.out.lt).trans P3.out; have bb4 : Hid (Below w.heap.size w w4) := bb3.out.trans (hb.mono bb3.out.size); clear hb  bb3; clear hk4 hB4 P3; generalize w3.heap.size = g17 at *)
  | ((with_reducible change wpList _ _ _ (⟨some 77, _, _, _, _, _⟩ :: _) _ _); (with_reducible refine Veil.out ?_); refine wpList_rowW (o := ⟨some 77, _, _, _, _, _⟩) rfl 36 (.tmp 15) rfl (g15) rfl 36 ((headCells H2).toArray) (0, 0) _ P4.out Tryz.underlying36 rfl h1z.out ?_)
  | ((with_reducible change wpList _ _ _ (⟨some 78, _, _, _, _, _⟩ :: _) _ _); (with_reducible refine Veil.out ?_); refine wpList_rowW (o := ⟨some 78, _, _, _, _, _⟩) rfl 36 (.tmp 17) rfl (g17) rfl 36 ((headCells H2).toArray) (0, 0) _ Q4.out Tryz.underlying36 rfl h1z.out ?_))
  go_ret
  exact ⟨rfl, bb4.out⟩
set_option maxRecDepth 100000 in
set_option maxHeartbeats 8000000 in
theorem plays_3 (cc : Array Value) (h : HeadD) (ok : h.Ok) (ss : List Text) (n : Nat) (hn100 : n ≤ 100) (A : Option Addr) (c : Nat) (hnil : A = none → n = 0 ∧ c = 0) (q : Text) (k : Nat) (hk : q.length = k) (hk47 : k < 140737488355228) (Ab : Option Addr) (cb : Nat) (hkc : k ≤ cb) (hkn : Ab = none → k = 0 ∧ cb = 0) (v3 : Value) (Ap : Option Addr) (N cp : Nat) (w : World) (hB : Base w) (hS : Sgs w A n ss) (hr : Reads w 1 Ab k (cells8 q)) (K0 : Int) (hK0 : K0 = 3) (hK : cc[0]? = some (.int .i64 K0)) :
  Calls Tryz.prog 17 #[.agg cc, .agg (noteCells h (.slice A n c)).toArray, .slice Ab k cb, v3, .slice Ap N cp] w fun e w' => e = .returned (.bool true) ∧ Below w.heap.size w w' := by
 obtain ⟨w0, hw0⟩ : ∃ w0, (w.alloc (.cells cc 58)).alloc (.cells (noteCells h (.slice A n c)).toArray 39) = w0 := ⟨_, rfl⟩
 have hz : (w.alloc (.cells cc 58)).heap.size = w.heap.size + 1 := by simp
 have C0 : Hid (Blk w0 w.heap.size 58 cc) := by show Blk _ _ _ _; rw [← hw0]; exact (Blk.new w _ _).alloc _
 have N0 : Hid (NoteAt w0 (w.heap.size + 1) h A n c ss) := by show NoteAt _ _ _ _ _ _ _; rw [← hw0, ← hz]; exact NoteAt.new (hS.below (Below.heap_below w _))
 have bb0 : Hid (Below w.heap.size w w0) := by show Below _ _ _; rw [← hw0]; exact (Below.heap_below w _).alloc (by rw [hz]; omega) _
 have hRs : Hid (∀ w', Below w.heap.size w w' → Reads w' 1 Ab k (cells8 q)) := fun w' hb => hr.below hb
 have hBs : Hid (∀ w', Below w.heap.size w w' → Base w') := fun w' hb => hB.below hb hB.1
 have zN := Lib.hid (fun v => note_size ok v)
 have oN := Lib.hid (fun A n c => note_one (h := h) A n c)
 have s0N := Lib.hid (fun v => note_zero ok v)
 have hsz : Hid ((Tryz.prog.info? 36).map (·.size) = some (headCells h).length) := by show _ = _; rw [headCells_len ok]; exact size98
 have hc0 : w0.cell? ⟨w.heap.size, 0, none⟩ = some (.int .i64 K0) := (C0.out.cell 0).trans hK
 have ok' := Lib.hid ok
 have hn0 := Lib.hid hn100
 have hnl := Lib.hid hnil
 have hk0 := Lib.hid hk
 have hk7 := Lib.hid hk47
 have hkc0 := Lib.hid hkc
 have hkn0 := Lib.hid hkn
 have hsns : Hid (Sns ss) := hS.all
 clear hz hB hS hr ok hn100 hnil hk hk47 hkc hkn hK
 subst hK0
 obtain ⟨k14, hk14⟩ : ∃ k14, Hid ((noteAns h ss).2 = k14) := ⟨_, Lib.hid rfl⟩
 obtain ⟨bt, hbt⟩ : ∃ bt, Hid ((noteAns h ss).1.getD [] = bt) := ⟨_, Lib.hid rfl⟩
 have hbtl : Hid (bt.length < 140737488355328) := by show _ < _; rw [← hbt.out]; exact text_lenP h ok'.out ss hsns.out
 obtain ⟨kt, hkt⟩ : ∃ kt, Hid (bt.length = kt) := ⟨_, Lib.hid rfl⟩
 rw [hkt.out] at hbtl
 go_enter Tryz.func17, Tryz.ntmps17
 go_wp2_with (first
  | (((with_reducible change wpList _ _ _ (⟨some 84, _, _, _, _, _⟩ :: _) _ _); refine wpList_load_row (o := ⟨some 84, _, _, _, _, _⟩) rfl 39 (.tmp 6) rfl ((w.heap.size + 1)) rfl 39 ((noteCells h (.slice A n c)).toArray) (0, 0) _ N0.out.blk Tryz.underlying39 rfl (zN.out _) ?_))
  | (go_at_call 33; refine (encnote_any h ok'.out ss n A c w0 N0.out.sgs).mono ?_; rintro e w8 ⟨v8, rfl, hb, hP8⟩; rw [hk14.out]; obtain ⟨A8, c8, rfl, hr8⟩ := text_readsP hP8; rw [hbt.out, hkt.out] at hr8 ⊢; replace hr8 := Lib.hid hr8; have N8 := Lib.hid (N0.out.below hb); have bb8 : Hid (Below w.heap.size w w8) := bb0.out.trans (hb.mono bb0.out.size); clear hb N0 bb0; clear hP8 hw0)
  | (((with_reducible change wpList _ _ _ (⟨some 89, _, _, _, _, _⟩ :: _) _ _); refine wpList_load_row (o := ⟨some 89, _, _, _, _, _⟩) rfl 39 (.tmp 6) rfl ((w.heap.size + 1)) rfl 39 ((noteCells h (.slice A n c)).toArray) (0, 0) _ N8.out.blk Tryz.underlying39 rfl (zN.out _) ?_))
  | (go_at_call 36; refine (refnote_any h ok'.out ss n A c w8 N8.out.sgs).mono ?_; rintro e w9 ⟨v9, rfl, hb, hP9⟩; rw [hk14.out]; obtain ⟨A9, c9, rfl, hr9⟩ := text_readsP hP9; rw [hbt.out, hkt.out] at hr9 ⊢; replace hr9 := Lib.hid hr9; replace hr8 := Lib.hid (hr8.out.below hb); have bb9 : Hid (Below w.heap.size w w9) := bb8.out.trans (hb.mono bb8.out.size); clear hb  bb8; clear hP9)
  | (go_at_call 18; refine (same_any bt kt hkt.out (by have := hbtl.out; omega) A8 A9 c8 c9 w9 hr8.out hr9.out).mono ?_; rintro e wX ⟨rfl, nX, rfl⟩; have bb10 : Hid (Below w.heap.size w (w9.drewN nX)) := below_drawn bb9.out nX; clear hr8 hr9))
 go_ret
 exact ⟨rfl, bb10.out⟩
set_option maxRecDepth 100000 in
set_option maxHeartbeats 8000000 in
theorem plays_4 (cc : Array Value) (h : HeadD) (ok : h.Ok) (ss : List Text) (n : Nat) (hn100 : n ≤ 100) (A : Option Addr) (c : Nat) (hnil : A = none → n = 0 ∧ c = 0) (q : Text) (k : Nat) (hk : q.length = k) (hk47 : k < 140737488355228) (Ab : Option Addr) (cb : Nat) (hkc : k ≤ cb) (hkn : Ab = none → k = 0 ∧ cb = 0) (v3 : Value) (Ap : Option Addr) (N cp : Nat) (w : World) (hB : Base w) (hS : Sgs w A n ss) (hr : Reads w 1 Ab k (cells8 q)) (K0 : Int) (hK0 : K0 = 4) (hK : cc[0]? = some (.int .i64 K0)) :
  Calls Tryz.prog 17 #[.agg cc, .agg (noteCells h (.slice A n c)).toArray, .slice Ab k cb, v3, .slice Ap N cp] w fun e w' => e = .returned (.bool true) ∧ Below w.heap.size w w' := by
 obtain ⟨w0, hw0⟩ : ∃ w0, (w.alloc (.cells cc 58)).alloc (.cells (noteCells h (.slice A n c)).toArray 39) = w0 := ⟨_, rfl⟩
 have hz : (w.alloc (.cells cc 58)).heap.size = w.heap.size + 1 := by simp
 have C0 : Hid (Blk w0 w.heap.size 58 cc) := by show Blk _ _ _ _; rw [← hw0]; exact (Blk.new w _ _).alloc _
 have N0 : Hid (NoteAt w0 (w.heap.size + 1) h A n c ss) := by show NoteAt _ _ _ _ _ _ _; rw [← hw0, ← hz]; exact NoteAt.new (hS.below (Below.heap_below w _))
 have bb0 : Hid (Below w.heap.size w w0) := by show Below _ _ _; rw [← hw0]; exact (Below.heap_below w _).alloc (by rw [hz]; omega) _
 have hRs : Hid (∀ w', Below w.heap.size w w' → Reads w' 1 Ab k (cells8 q)) := fun w' hb => hr.below hb
 have hBs : Hid (∀ w', Below w.heap.size w w' → Base w') := fun w' hb => hB.below hb hB.1
 have zN := Lib.hid (fun v => note_size ok v)
 have oN := Lib.hid (fun A n c => note_one (h := h) A n c)
 have s0N := Lib.hid (fun v => note_zero ok v)
 have hsz : Hid ((Tryz.prog.info? 36).map (·.size) = some (headCells h).length) := by show _ = _; rw [headCells_len ok]; exact size98
 have hc0 : w0.cell? ⟨w.heap.size, 0, none⟩ = some (.int .i64 K0) := (C0.out.cell 0).trans hK
 have ok' := Lib.hid ok
 have hn0 := Lib.hid hn100
 have hnl := Lib.hid hnil
 have hk0 := Lib.hid hk
 have hk7 := Lib.hid hk47
 have hkc0 := Lib.hid hkc
 have hkn0 := Lib.hid hkn
 have hsns : Hid (Sns ss) := hS.all
 clear hz hB hS hr ok hn100 hnil hk hk47 hkc hkn hK
 subst hK0
 have zD := Lib.hid (fun v => note_size (decH_ok q) v)
 have oD := Lib.hid (fun A n c => note_one (h := decH q) A n c)
 have sD := Lib.hid (fun v => note_zero (decH_ok q) v)
 obtain ⟨m9, hm9⟩ : ∃ m9, Hid ((decS q).length = m9) := ⟨_, Lib.hid rfl⟩
 have hm16 : Hid (m9 ≤ 16) := by show _ ≤ _; rw [← hm9.out]; exact decS_len q
 cases hq : noteOk q with
 | true =>
  have hq0 := Lib.hid hq
  clear hq
  go_enter Tryz.func17, Tryz.ntmps17
  go_wp2_with (first
  | (go_at_call 34; refine (decnote_any q k hk0.out (by have := hk7.out; omega) Ab cb w0 (hRs.out w0 bb0.out) hkn0.out).mono ?_; rw [hq0.out]; rintro e w8 ⟨v8, rfl, hb, A8, c8, rfl, -, -, hS8, -⟩; rw [hm9.out] at hS8 ⊢; replace hS8 := Lib.hid hS8; have bb8 : Hid (Below w.heap.size w w8) := bb0.out.trans (hb.mono bb0.out.size); clear hb  bb0; clear hw0)
  | ((with_reducible change wpList _ _ _ ({ dst := none, op := Op.store 39 (.tmp 23) (.tmp 106), type := _, pos := _, after := _, guard := _ } :: _) _ _); refine wpList_store_all (o := ⟨none, _, _, _, _, _⟩) rfl 39 (.tmp 23) (.tmp 106) rfl w8.heap.size (noteCells (decH q) (.slice A8 m9 c8)).toArray rfl rfl 39 Z99 (Blk.new w8 _ _) (zD.out _) (sD.out _) (oD.out _ _ _) ?_; intro w9 hB9 hk9; have hb := below_new hk9; have M9 : Hid (NoteAt w9 w8.heap.size (decH q) A8 m9 c8 (decS q)) := ⟨hB9.out, hS8.out.below hb⟩; have bb9 : Hid (Below w.heap.size w w9) := bb8.out.trans (hb.mono bb8.out.size); clear hb  bb8; clear hk9 hB9 hS8; generalize w8.heap.size = m11 at *)
  | (go_at_call 38; refine (readnote_any q k hk0.out (by have := hk7.out; omega) Ab cb hkc0.out w9 (hRs.out w9 bb9.out)).mono ?_; rw [hq0.out]; rintro e w10 ⟨v10, rfl, hb, A10, c10, rfl, -, -, hS10, -⟩; rw [hm9.out] at hS10 ⊢; replace hS10 := Lib.hid hS10; have M10 := Lib.hid (M9.out.below hb); have bb10 : Hid (Below w.heap.size w w10) := bb9.out.trans (hb.mono bb9.out.size); clear hb M9 bb9)
  | ((with_reducible change wpList _ _ _ ({ dst := none, op := Op.store 39 (.tmp 25) (.tmp 111), type := _, pos := _, after := _, guard := _ } :: _) _ _); refine wpList_store_all (o := ⟨none, _, _, _, _, _⟩) rfl 39 (.tmp 25) (.tmp 111) rfl w10.heap.size (noteCells (decH q) (.slice A10 m9 c10)).toArray rfl rfl 39 Z99 (Blk.new w10 _ _) (zD.out _) (sD.out _) (oD.out _ _ _) ?_; intro w11 hB11 hk11; have hb := below_new hk11; have P11 : Hid (NoteAt w11 w10.heap.size (decH q) A10 m9 c10 (decS q)) := ⟨hB11.out, hS10.out.below hb⟩; have M11 := Lib.hid (M10.out.below hb); have bb11 : Hid (Below w.heap.size w w11) := bb10.out.trans (hb.mono bb10.out.size); clear hb M10 bb10; clear hk11 hB11 hS10; generalize w10.heap.size = m12 at *)
  | ((with_reducible change wpList _ _ _ (⟨some 118, _, _, _, _, _⟩ :: _) _ _); (with_reducible refine Veil.out ?_); refine wpList_rowW (o := ⟨some 118, _, _, _, _, _⟩) rfl 39 (.tmp 23) rfl (m11) rfl 39 ((noteCells (decH q) (.slice A8 m9 c8)).toArray) (0, 0) _ M11.out.blk Tryz.underlying39 rfl (zD.out _) ?_)
  | ((with_reducible change wpList _ _ _ (⟨some 119, _, _, _, _, _⟩ :: _) _ _); (with_reducible refine Veil.out ?_); refine wpList_rowW (o := ⟨some 119, _, _, _, _, _⟩) rfl 39 (.tmp 25) rfl (m12) rfl 39 ((noteCells (decH q) (.slice A10 m9 c10)).toArray) (0, 0) _ P11.out.blk Tryz.underlying39 rfl (zD.out _) ?_)
  | (go_at_call 19; refine (sameNotes_any (decH q) (decH_ok q) (decS q) m9 (by have := hm16.out; omega) A8 A10 c8 c10 w11 M11.out.sgs P11.out.sgs).mono ?_; rintro e w12 ⟨rfl, hb⟩; have bb12 : Hid (Below w.heap.size w w12) := bb11.out.trans (hb.mono bb11.out.size); clear hb  bb11))
  go_ret
  exact ⟨rfl, bb12.out⟩
 | false =>
  have hq0 := Lib.hid hq
  clear hq
  go_enter Tryz.func17, Tryz.ntmps17
  go_wp2_with (first
  | (go_at_call 34; refine (decnote_any q k hk0.out (by have := hk7.out; omega) Ab cb w0 (hRs.out w0 bb0.out) hkn0.out).mono ?_; rw [hq0.out]; rintro e w8 ⟨v8, rfl, hb, A8, c8, rfl, -, -, hS8, -⟩; rw [hm9.out] at hS8 ⊢; replace hS8 := Lib.hid hS8; have bb8 : Hid (Below w.heap.size w w8) := bb0.out.trans (hb.mono bb0.out.size); clear hb  bb0; clear hw0)
  | ((with_reducible change wpList _ _ _ ({ dst := none, op := Op.store 39 (.tmp 23) (.tmp 106), type := _, pos := _, after := _, guard := _ } :: _) _ _); refine wpList_store_all (o := ⟨none, _, _, _, _, _⟩) rfl 39 (.tmp 23) (.tmp 106) rfl w8.heap.size (noteCells (decH q) (.slice A8 m9 c8)).toArray rfl rfl 39 Z99 (Blk.new w8 _ _) (zD.out _) (sD.out _) (oD.out _ _ _) ?_; intro w9 hB9 hk9; have hb := below_new hk9; have M9 : Hid (NoteAt w9 w8.heap.size (decH q) A8 m9 c8 (decS q)) := ⟨hB9.out, hS8.out.below hb⟩; have bb9 : Hid (Below w.heap.size w w9) := bb8.out.trans (hb.mono bb8.out.size); clear hb  bb8; clear hk9 hB9 hS8; generalize w8.heap.size = m11 at *)
  | (go_at_call 38; refine (readnote_any q k hk0.out (by have := hk7.out; omega) Ab cb hkc0.out w9 (hRs.out w9 bb9.out)).mono ?_; rw [hq0.out]; rintro e w10 ⟨v10, rfl, hb, A10, c10, rfl, -, -, hS10, -⟩; rw [hm9.out] at hS10 ⊢; replace hS10 := Lib.hid hS10; have M10 := Lib.hid (M9.out.below hb); have bb10 : Hid (Below w.heap.size w w10) := bb9.out.trans (hb.mono bb9.out.size); clear hb M9 bb9)
  | ((with_reducible change wpList _ _ _ ({ dst := none, op := Op.store 39 (.tmp 25) (.tmp 111), type := _, pos := _, after := _, guard := _ } :: _) _ _); refine wpList_store_all (o := ⟨none, _, _, _, _, _⟩) rfl 39 (.tmp 25) (.tmp 111) rfl w10.heap.size (noteCells (decH q) (.slice A10 m9 c10)).toArray rfl rfl 39 Z99 (Blk.new w10 _ _) (zD.out _) (sD.out _) (oD.out _ _ _) ?_; intro w11 hB11 hk11; have hb := below_new hk11; have P11 : Hid (NoteAt w11 w10.heap.size (decH q) A10 m9 c10 (decS q)) := ⟨hB11.out, hS10.out.below hb⟩; have M11 := Lib.hid (M10.out.below hb); have bb11 : Hid (Below w.heap.size w w11) := bb10.out.trans (hb.mono bb10.out.size); clear hb M10 bb10; clear hk11 hB11 hS10; generalize w10.heap.size = m12 at *)
  | ((with_reducible change wpList _ _ _ (⟨some 118, _, _, _, _, _⟩ :: _) _ _); (with_reducible refine Veil.out ?_); refine wpList_rowW (o := ⟨some 118, _, _, _, _, _⟩) rfl 39 (.tmp 23) rfl (m11) rfl 39 ((noteCells (decH q) (.slice A8 m9 c8)).toArray) (0, 0) _ M11.out.blk Tryz.underlying39 rfl (zD.out _) ?_)
  | ((with_reducible change wpList _ _ _ (⟨some 119, _, _, _, _, _⟩ :: _) _ _); (with_reducible refine Veil.out ?_); refine wpList_rowW (o := ⟨some 119, _, _, _, _, _⟩) rfl 39 (.tmp 25) rfl (m12) rfl 39 ((noteCells (decH q) (.slice A10 m9 c10)).toArray) (0, 0) _ P11.out.blk Tryz.underlying39 rfl (zD.out _) ?_)
  | (go_at_call 19; refine (sameNotes_any (decH q) (decH_ok q) (decS q) m9 (by have := hm16.out; omega) A8 A10 c8 c10 w11 M11.out.sgs P11.out.sgs).mono ?_; rintro e w12 ⟨rfl, hb⟩; have bb12 : Hid (Below w.heap.size w w12) := bb11.out.trans (hb.mono bb11.out.size); clear hb  bb11))
  go_ret
  exact ⟨rfl, bb12.out⟩
end Go.Proofs.YtfbhjoejffagjaaGreatDoor.Plays1

namespace Go.Proofs.YtfbhjoejffagjaaGreatDoor.Plays2
open Go Go.RowKit Go.Proofs.YtfbhjoejffagjaaGreatDoor Mem Sha Bytes SortP NoteP QuietTail Grown Want Guard2 Go.Proofs.YtfbhjoejffagjaaGreatDoor.Append Own Rise SortM SgM HashMem HeadMem HeadID HeadLog HeadEnc RefHead HeadEq EncNoteP EncNote RowS NoteM RefNote SignEq CmpW SameSigns Kept16 HeadTake HeadTake2 Decode ReadHead DecNote ReadNote Sign Signs RefSigns Check RefCheck DigEq AddP Go.Proofs.YtfbhjoejffagjaaGreatDoor.Add RefAdd HeadAdds RingM RingS NewRing VerP Verify RingP RefRing RefVerify Asked Law16 Plays1

set_option maxRecDepth 100000 in
set_option maxHeartbeats 8000000 in
theorem plays_6 (cc : Array Value) (h : HeadD) (ok : h.Ok) (ss : List Text) (n : Nat) (hn100 : n ≤ 100) (A : Option Addr) (c : Nat) (hnil : A = none → n = 0 ∧ c = 0) (q : Text) (k : Nat) (hk : q.length = k) (hk47 : k < 140737488355228) (Ab : Option Addr) (cb : Nat) (hkc : k ≤ cb) (hkn : Ab = none → k = 0 ∧ cb = 0) (v3 : Value) (Ap : Option Addr) (N cp : Nat) (w : World) (hB : Base w) (hS : Sgs w A n ss) (hr : Reads w 1 Ab k (cells8 q)) (K0 : Int) (hK0 : K0 = 6) (hK : cc[0]? = some (.int .i64 K0)) :
  Calls Tryz.prog 17 #[.agg cc, .agg (noteCells h (.slice A n c)).toArray, .slice Ab k cb, v3, .slice Ap N cp] w fun e w' => e = .returned (.bool true) ∧ Below w.heap.size w w' := by
 obtain ⟨w0, hw0⟩ : ∃ w0, (w.alloc (.cells cc 58)).alloc (.cells (noteCells h (.slice A n c)).toArray 39) = w0 := ⟨_, rfl⟩
 have hz : (w.alloc (.cells cc 58)).heap.size = w.heap.size + 1 := by simp
 have C0 : Hid (Blk w0 w.heap.size 58 cc) := by show Blk _ _ _ _; rw [← hw0]; exact (Blk.new w _ _).alloc _
 have N0 : Hid (NoteAt w0 (w.heap.size + 1) h A n c ss) := by show NoteAt _ _ _ _ _ _ _; rw [← hw0, ← hz]; exact NoteAt.new (hS.below (Below.heap_below w _))
 have bb0 : Hid (Below w.heap.size w w0) := by show Below _ _ _; rw [← hw0]; exact (Below.heap_below w _).alloc (by rw [hz]; omega) _
 have hRs : Hid (∀ w', Below w.heap.size w w' → Reads w' 1 Ab k (cells8 q)) := fun w' hb => hr.below hb
 have hBs : Hid (∀ w', Below w.heap.size w w' → Base w') := fun w' hb => hB.below hb hB.1
 have zN := Lib.hid (fun v => note_size ok v)
 have oN := Lib.hid (fun A n c => note_one (h := h) A n c)
 have s0N := Lib.hid (fun v => note_zero ok v)
 have hsz : Hid ((Tryz.prog.info? 36).map (·.size) = some (headCells h).length) := by show _ = _; rw [headCells_len ok]; exact size98
 have hc0 : w0.cell? ⟨w.heap.size, 0, none⟩ = some (.int .i64 K0) := (C0.out.cell 0).trans hK
 have ok' := Lib.hid ok
 have hn0 := Lib.hid hn100
 have hnl := Lib.hid hnil
 have hk0 := Lib.hid hk
 have hk7 := Lib.hid hk47
 have hkc0 := Lib.hid hkc
 have hkn0 := Lib.hid hkn
 have hsns : Hid (Sns ss) := hS.all
 clear hz hB hS hr ok hn100 hnil hk hk47 hkc hkn hK
 subst hK0
 obtain ⟨sg, hsg⟩ : ∃ sg, Hid ((signAns h q).1 = sg) := ⟨_, Lib.hid rfl⟩
 obtain ⟨ks, hks⟩ : ∃ ks, Hid ((signAns h q).2 = ks) := ⟨_, Lib.hid rfl⟩
 have hsl : Hid (sg.length = 64) := by show _ = _; rw [← hsg.out]; exact signAns_len h q
 have f1 := Lib.hid (sign_size sg hsl.out)
 have f2 := Lib.hid (sign_zero sg hsl.out)
 have f3 := Lib.hid (sign_one sg)
 have heq : ∀ w', (binOp .eql 56 (.agg (cells8 sg).toArray) (.agg (cells8 sg).toArray)).run Tryz.prog w' = .ok (.bool true) w' := fun w' => eql_sign sg hsl.out w'
 go_enter Tryz.func17, Tryz.ntmps17
 go_wp2_with (first
  | (((with_reducible change wpList _ _ _ (⟨some 144, _, _, _, _, _⟩ :: _) _ _); refine wpList_load_part (o := ⟨some 144, _, _, _, _, _⟩) rfl 36 (.tmp 143) rfl ((w.heap.size + 1)) (0) rfl (headCells h) _ N0.out.head Tryz.underlying36 rfl hsz.out ?_))
  | (go_at_call 49; refine (headSign_any h ok'.out q k hk0.out Ab cb w0 (hBs.out w0 bb0.out) (hRs.out w0 bb0.out) hkc0.out hkn0.out).mono ?_; rw [hsg.out, hks.out]; rintro e w1 ⟨rfl, hb⟩; have N1 := Lib.hid (N0.out.below hb); have bb1 : Hid (Below w.heap.size w w1) := bb0.out.trans (hb.mono bb0.out.size); clear hb N0 bb0; clear hw0)
  | ((with_reducible change wpList _ _ _ ({ dst := none, op := Op.store 56 (.tmp 27) (.tmp 147), type := _, pos := _, after := _, guard := _ } :: _) _ _); refine wpList_store_all (o := ⟨none, _, _, _, _, _⟩) rfl 56 (.tmp 27) (.tmp 147) rfl w1.heap.size (cells8 sg).toArray rfl rfl 56 Z64 (Blk.new w1 _ _) f1.out f2.out f3.out ?_; intro w2 hB2 hk2; have hb := below_new hk2; have P2 : Hid (Blk w2 w1.heap.size 56 (cells8 sg).toArray) := hB2; have N2 := Lib.hid (N1.out.below hb); have bb2 : Hid (Below w.heap.size w w2) := bb1.out.trans (hb.mono bb1.out.size); clear hb N1 bb1; clear hk2 hB2; generalize w1.heap.size = g27 at *)
  | (((with_reducible change wpList _ _ _ (⟨some 151, _, _, _, _, _⟩ :: _) _ _); refine wpList_load_part (o := ⟨some 151, _, _, _, _, _⟩) rfl 36 (.tmp 150) rfl ((w.heap.size + 1)) (0) rfl (headCells h) _ N2.out.head Tryz.underlying36 rfl hsz.out ?_))
  | (go_at_call 50; refine (refSign_any h ok'.out q k hk0.out Ab cb w2 (hRs.out w2 bb2.out) hkc0.out hkn0.out).mono ?_; rw [hsg.out, hks.out]; rintro e w3 ⟨rfl, hb⟩; have P3 : Hid (Blk w3 g27 56 (cells8 sg).toArray) := (hb.block _ P2.out.lt).trans P2.out; have bb3 : Hid (Below w.heap.size w w3) := bb2.out.trans (hb.mono bb2.out.size); clear hb  bb2; clear P2)
  | ((with_reducible change wpList _ _ _ ({ dst := none, op := Op.store 56 (.tmp 29) (.tmp 154), type := _, pos := _, after := _, guard := _ } :: _) _ _); refine wpList_store_all (o := ⟨none, _, _, _, _, _⟩) rfl 56 (.tmp 29) (.tmp 154) rfl w3.heap.size (cells8 sg).toArray rfl rfl 56 Z64 (Blk.new w3 _ _) f1.out f2.out f3.out ?_; intro w4 hB4 hk4; have hb := below_new hk4; have Q4 : Hid (Blk w4 w3.heap.size 56 (cells8 sg).toArray) := hB4; have P4 : Hid (Blk w4 g27 56 (cells8 sg).toArray) := (hb.block _ P3.out.lt).trans P3.out; have bb4 : Hid (Below w.heap.size w w4) := bb3.out.trans (hb.mono bb3.out.size); clear hb  bb3; clear hk4 hB4 P3; generalize w3.heap.size = g29 at *)
  | ((with_reducible change wpList _ _ _ (⟨some 160, _, _, _, _, _⟩ :: _) _ _); (with_reducible refine Veil.out ?_); refine wpList_rowW (o := ⟨some 160, _, _, _, _, _⟩) rfl 56 (.tmp 27) rfl (g27) rfl 56 ((cells8 sg).toArray) (0, 0) _ P4.out Tryz.underlying56 rfl f1.out ?_)
  | ((with_reducible change wpList _ _ _ (⟨some 161, _, _, _, _, _⟩ :: _) _ _); (with_reducible refine Veil.out ?_); refine wpList_rowW (o := ⟨some 161, _, _, _, _, _⟩) rfl 56 (.tmp 29) rfl (g29) rfl 56 ((cells8 sg).toArray) (0, 0) _ Q4.out Tryz.underlying56 rfl f1.out ?_))
 go_ret
 exact ⟨rfl, bb4.out⟩
set_option maxRecDepth 100000 in
set_option maxHeartbeats 8000000 in
theorem plays_8 (cc : Array Value) (h : HeadD) (ok : h.Ok) (ss : List Text) (n : Nat) (hn100 : n ≤ 100) (A : Option Addr) (c : Nat) (hnil : A = none → n = 0 ∧ c = 0) (q : Text) (k : Nat) (hk : q.length = k) (hk47 : k < 140737488355228) (Ab : Option Addr) (cb : Nat) (hkc : k ≤ cb) (hkn : Ab = none → k = 0 ∧ cb = 0) (v3 : Value) (Ap : Option Addr) (N cp : Nat) (w : World) (hB : Base w) (hS : Sgs w A n ss) (hr : Reads w 1 Ab k (cells8 q)) (K0 : Int) (hK0 : K0 = 8) (hK : cc[0]? = some (.int .i64 K0)) :
  Calls Tryz.prog 17 #[.agg cc, .agg (noteCells h (.slice A n c)).toArray, .slice Ab k cb, v3, .slice Ap N cp] w fun e w' => e = .returned (.bool true) ∧ Below w.heap.size w w' := by
 obtain ⟨w0, hw0⟩ : ∃ w0, (w.alloc (.cells cc 58)).alloc (.cells (noteCells h (.slice A n c)).toArray 39) = w0 := ⟨_, rfl⟩
 have hz : (w.alloc (.cells cc 58)).heap.size = w.heap.size + 1 := by simp
 have C0 : Hid (Blk w0 w.heap.size 58 cc) := by show Blk _ _ _ _; rw [← hw0]; exact (Blk.new w _ _).alloc _
 have N0 : Hid (NoteAt w0 (w.heap.size + 1) h A n c ss) := by show NoteAt _ _ _ _ _ _ _; rw [← hw0, ← hz]; exact NoteAt.new (hS.below (Below.heap_below w _))
 have bb0 : Hid (Below w.heap.size w w0) := by show Below _ _ _; rw [← hw0]; exact (Below.heap_below w _).alloc (by rw [hz]; omega) _
 have hRs : Hid (∀ w', Below w.heap.size w w' → Reads w' 1 Ab k (cells8 q)) := fun w' hb => hr.below hb
 have hBs : Hid (∀ w', Below w.heap.size w w' → Base w') := fun w' hb => hB.below hb hB.1
 have zN := Lib.hid (fun v => note_size ok v)
 have oN := Lib.hid (fun A n c => note_one (h := h) A n c)
 have s0N := Lib.hid (fun v => note_zero ok v)
 have hsz : Hid ((Tryz.prog.info? 36).map (·.size) = some (headCells h).length) := by show _ = _; rw [headCells_len ok]; exact size98
 have hc0 : w0.cell? ⟨w.heap.size, 0, none⟩ = some (.int .i64 K0) := (C0.out.cell 0).trans hK
 have ok' := Lib.hid ok
 have hn0 := Lib.hid hn100
 have hnl := Lib.hid hnil
 have hk0 := Lib.hid hk
 have hk7 := Lib.hid hk47
 have hkc0 := Lib.hid hkc
 have hkn0 := Lib.hid hkn
 have hsns : Hid (Sns ss) := hS.all
 clear hz hB hS hr ok hn100 hnil hk hk47 hkc hkn hK
 subst hK0
 obtain ⟨o7, k7, ha7⟩ : ∃ o7 k7, Hid (addAns h ss q = (o7, k7)) := ⟨_, _, rfl⟩
 obtain ⟨H7, hH7⟩ : ∃ H7, Hid (addH h o7 = H7) := ⟨_, Lib.hid rfl⟩
 obtain ⟨r7, hr7⟩ : ∃ r7, Hid (o7.getD [] = r7) := ⟨_, Lib.hid rfl⟩
 obtain ⟨m7, hm7⟩ : ∃ m7, Hid (r7.length = m7) := ⟨_, Lib.hid rfl⟩
 have okH : Hid (H7.Ok) := by show HeadD.Ok _; rw [← hH7.out]; exact addH_ok ok'.out o7
 have hm16 : Hid (m7 ≤ 16) := by show _ ≤ _; rw [← hm7.out, ← hr7.out]; exact add_len ha7.out
 have zH := Lib.hid (fun v => note_size okH.out v)
 have oH := Lib.hid (fun A n c => note_one (h := H7) A n c)
 have sH := Lib.hid (fun v => note_zero okH.out v)
 go_enter Tryz.func17, Tryz.ntmps17
 go_wp2_with (first
  | (((with_reducible change wpList _ _ _ (⟨some 182, _, _, _, _, _⟩ :: _) _ _); refine wpList_load_row (o := ⟨some 182, _, _, _, _, _⟩) rfl 39 (.tmp 6) rfl ((w.heap.size + 1)) rfl 39 ((noteCells h (.slice A n c)).toArray) (0, 0) _ N0.out.blk Tryz.underlying39 rfl (zN.out _) ?_))
  | (go_at_call 40; refine (add_any h ok'.out ss n (by have := hn0.out; omega) A c hnl.out q k hk0.out Ab cb hkc0.out hkn0.out w0 (hBs.out w0 bb0.out) N0.out.sgs (hRs.out w0 bb0.out)).mono ?_; intro e w1 hAO; obtain ⟨A4, c4, rfl, hb, hO⟩ := out_note ha7.out hH7.out hr7.out hm7.out hAO; have hS1 := Lib.hid (own_sgs hO).1; have N1 := Lib.hid (N0.out.below hb); have bb1 : Hid (Below w.heap.size w w1) := bb0.out.trans (hb.mono bb0.out.size); clear hb N0 bb0; clear hAO hO hw0)
  | ((with_reducible change wpList _ _ _ ({ dst := none, op := Op.store 39 (.tmp 31) (.tmp 185), type := _, pos := _, after := _, guard := _ } :: _) _ _); refine wpList_store_all (o := ⟨none, _, _, _, _, _⟩) rfl 39 (.tmp 31) (.tmp 185) rfl w1.heap.size (noteCells H7 (.slice A4 m7 c4)).toArray rfl rfl 39 Z99 (Blk.new w1 _ _) (zH.out _) (sH.out _) (oH.out _ _ _) ?_; intro w2 hB2 hk2; have hb := below_new hk2; have P2 : Hid (NoteAt w2 w1.heap.size H7 A4 m7 c4 r7) := ⟨hB2.out, hS1.out.below hb⟩; have N2 := Lib.hid (N1.out.below hb); have bb2 : Hid (Below w.heap.size w w2) := bb1.out.trans (hb.mono bb1.out.size); clear hb N1 bb1; clear hk2 hB2 hS1; generalize w1.heap.size = g31 at *)
  | (((with_reducible change wpList _ _ _ (⟨some 188, _, _, _, _, _⟩ :: _) _ _); refine wpList_load_row (o := ⟨some 188, _, _, _, _, _⟩) rfl 39 (.tmp 6) rfl ((w.heap.size + 1)) rfl 39 ((noteCells h (.slice A n c)).toArray) (0, 0) _ N2.out.blk Tryz.underlying39 rfl (zN.out _) ?_))
  | (go_at_call 41; refine (refadd_any h ok'.out ss n (by have := hn0.out; omega) A c hnl.out q k hk0.out Ab cb hkc0.out hkn0.out w2 N2.out.sgs (hRs.out w2 bb2.out)).mono ?_; intro e w3 hAO; obtain ⟨A5, c5, rfl, hb, hO⟩ := out_note ha7.out hH7.out hr7.out hm7.out hAO; have hS3 := Lib.hid (own_sgs hO).1; have P3 := Lib.hid (P2.out.below hb); have bb3 : Hid (Below w.heap.size w w3) := bb2.out.trans (hb.mono bb2.out.size); clear hb P2 bb2; clear hAO hO)
  | ((with_reducible change wpList _ _ _ ({ dst := none, op := Op.store 39 (.tmp 33) (.tmp 191), type := _, pos := _, after := _, guard := _ } :: _) _ _); refine wpList_store_all (o := ⟨none, _, _, _, _, _⟩) rfl 39 (.tmp 33) (.tmp 191) rfl w3.heap.size (noteCells H7 (.slice A5 m7 c5)).toArray rfl rfl 39 Z99 (Blk.new w3 _ _) (zH.out _) (sH.out _) (oH.out _ _ _) ?_; intro w4 hB4 hk4; have hb := below_new hk4; have Q4 : Hid (NoteAt w4 w3.heap.size H7 A5 m7 c5 r7) := ⟨hB4.out, hS3.out.below hb⟩; have P4 := Lib.hid (P3.out.below hb); have bb4 : Hid (Below w.heap.size w w4) := bb3.out.trans (hb.mono bb3.out.size); clear hb P3 bb3; clear hk4 hB4 hS3; generalize w3.heap.size = g33 at *)
  | ((with_reducible change wpList _ _ _ (⟨some 197, _, _, _, _, _⟩ :: _) _ _); (with_reducible refine Veil.out ?_); refine wpList_rowW (o := ⟨some 197, _, _, _, _, _⟩) rfl 39 (.tmp 31) rfl (g31) rfl 39 ((noteCells H7 (.slice A4 m7 c4)).toArray) (0, 0) _ P4.out.blk Tryz.underlying39 rfl (zH.out _) ?_)
  | ((with_reducible change wpList _ _ _ (⟨some 198, _, _, _, _, _⟩ :: _) _ _); (with_reducible refine Veil.out ?_); refine wpList_rowW (o := ⟨some 198, _, _, _, _, _⟩) rfl 39 (.tmp 33) rfl (g33) rfl 39 ((noteCells H7 (.slice A5 m7 c5)).toArray) (0, 0) _ Q4.out.blk Tryz.underlying39 rfl (zH.out _) ?_)
  | (go_at_call 19; refine (sameNotes_any H7 okH.out r7 m7 (by have := hm16.out; omega) A4 A5 c4 c5 w4 P4.out.sgs Q4.out.sgs).mono ?_; rintro e w5 ⟨rfl, hb⟩; have bb5 : Hid (Below w.heap.size w w5) := bb4.out.trans (hb.mono bb4.out.size); clear hb  bb4))
 go_ret
 exact ⟨rfl, bb5.out⟩
end Go.Proofs.YtfbhjoejffagjaaGreatDoor.Plays2

namespace Go.Proofs.YtfbhjoejffagjaaGreatDoor.Plays3
open Go Go.RowKit Go.Proofs.YtfbhjoejffagjaaGreatDoor Mem Sha Bytes SortP NoteP QuietTail Grown Want Guard2 Go.Proofs.YtfbhjoejffagjaaGreatDoor.Append Own Rise SortM SgM HashMem HeadMem HeadID HeadLog HeadEnc RefHead HeadEq EncNoteP EncNote RowS NoteM RefNote SignEq CmpW SameSigns Kept16 HeadTake HeadTake2 Decode ReadHead DecNote ReadNote Sign Signs RefSigns Check RefCheck DigEq AddP Go.Proofs.YtfbhjoejffagjaaGreatDoor.Add RefAdd HeadAdds RingM RingS NewRing VerP Verify RingP RefRing RefVerify Asked Law16 Plays1 Plays2 DigestOf Digest DigestMem

set_option maxRecDepth 100000 in
set_option maxHeartbeats 8000000 in
theorem plays_5 (cc : Array Value) (h : HeadD) (ok : h.Ok) (ss : List Text) (n : Nat) (hn100 : n ≤ 100) (A : Option Addr) (c : Nat) (hnil : A = none → n = 0 ∧ c = 0) (q : Text) (k : Nat) (hk : q.length = k) (hk47 : k < 140737488355228) (Ab : Option Addr) (cb : Nat) (hkc : k ≤ cb) (hkn : Ab = none → k = 0 ∧ cb = 0) (v3 : Value) (Ap : Option Addr) (N cp : Nat) (w : World) (hB : Base w) (hS : Sgs w A n ss) (hr : Reads w 1 Ab k (cells8 q)) (K0 : Int) (hK0 : K0 = 5) (hK : cc[0]? = some (.int .i64 K0)) (nm : ByteArray) (hnm : nm.size < 9223372036854775807) (hnc : cc[103]? = some (.string nm)) :
  Calls Tryz.prog 17 #[.agg cc, .agg (noteCells h (.slice A n c)).toArray, .slice Ab k cb, v3, .slice Ap N cp] w fun e w' => e = .returned (.bool true) ∧ Below w.heap.size w w' := by
 obtain ⟨w0, hw0⟩ : ∃ w0, (w.alloc (.cells cc 58)).alloc (.cells (noteCells h (.slice A n c)).toArray 39) = w0 := ⟨_, rfl⟩
 have hz : (w.alloc (.cells cc 58)).heap.size = w.heap.size + 1 := by simp
 have C0 : Hid (Blk w0 w.heap.size 58 cc) := by show Blk _ _ _ _; rw [← hw0]; exact (Blk.new w _ _).alloc _
 have N0 : Hid (NoteAt w0 (w.heap.size + 1) h A n c ss) := by show NoteAt _ _ _ _ _ _ _; rw [← hw0, ← hz]; exact NoteAt.new (hS.below (Below.heap_below w _))
 have bb0 : Hid (Below w.heap.size w w0) := by show Below _ _ _; rw [← hw0]; exact (Below.heap_below w _).alloc (by rw [hz]; omega) _
 have hRs : Hid (∀ w', Below w.heap.size w w' → Reads w' 1 Ab k (cells8 q)) := fun w' hb => hr.below hb
 have hBs : Hid (∀ w', Below w.heap.size w w' → Base w') := fun w' hb => hB.below hb hB.1
 have zN := Lib.hid (fun v => note_size ok v)
 have oN := Lib.hid (fun A n c => note_one (h := h) A n c)
 have s0N := Lib.hid (fun v => note_zero ok v)
 have hsz : Hid ((Tryz.prog.info? 36).map (·.size) = some (headCells h).length) := by show _ = _; rw [headCells_len ok]; exact size98
 have hc0 : w0.cell? ⟨w.heap.size, 0, none⟩ = some (.int .i64 K0) := (C0.out.cell 0).trans hK
 have ok' := Lib.hid ok
 have hn0 := Lib.hid hn100
 have hnl := Lib.hid hnil
 have hk0 := Lib.hid hk
 have hk7 := Lib.hid hk47
 have hkc0 := Lib.hid hkc
 have hkn0 := Lib.hid hkn
 have hsns : Hid (Sns ss) := hS.all
 clear hz hB hS hr ok hn100 hnil hk hk47 hkc hkn hK
 subst hK0
 obtain ⟨d1, hd1⟩ : ∃ d, Hid (idOf q = d) := ⟨_, Lib.hid rfl⟩
 obtain ⟨dl, hdl⟩ : ∃ d, Hid (logOf nm q = d) := ⟨_, Lib.hid rfl⟩
 have h103 := Lib.hid hnc
 have hl1 : Hid (d1.length = 32) := by show _ = _; rw [← hd1.out]; exact idOf_len q
 have hl2 : Hid (dl.length = 32) := by show _ = _; rw [← hdl.out]; exact cutTo_len _ _ (sum_len _) (clampN_ok 32).2
 have hI1 : Hid (∀ w', Below w.heap.size w w' → Calls Tryz.prog 22 #[.slice Ab k cb] w' fun e w'' => e = .returned (.agg (cells8 d1).toArray) ∧ Below w'.heap.size w' w'') := fun w' hb => by
  have := id_any q k hk0.out Ab cb w' (hBs.out w' hb) (hRs.out w' hb) hkc0.out (by have := hk7.out; omega) hkn0.out
  rw [hd1.out] at this
  exact this
 have hI2 : Hid (∀ w', Below w.heap.size w w' → Calls Tryz.prog 26 #[.slice Ab k cb] w' fun e w'' => e = .returned (.agg (cells8 d1).toArray) ∧ Below w'.heap.size w' w'') := fun w' hb => by
  have := refid_any q k hk0.out Ab cb w' (hRs.out w' hb) hkc0.out (by have := hk7.out; omega) hkn0.out
  rw [hd1.out] at this
  exact this
 have hL1 : Hid (∀ w', Below w.heap.size w w' → Calls Tryz.prog 47 #[.string nm, .slice Ab k cb] w' fun e w'' => e = .returned (.agg (cells8 dl).toArray) ∧ Below w'.heap.size w' w'') := fun w' hb => by
  have := log_any nm hnm q k hk0.out Ab cb w' (hBs.out w' hb) (hRs.out w' hb) hkc0.out (by have := hk7.out; omega) hkn0.out
  rw [hdl.out] at this
  exact this
 have hL2 : Hid (∀ w', Below w.heap.size w w' → Calls Tryz.prog 48 #[.string nm, .slice Ab k cb] w' fun e w'' => e = .returned (.agg (cells8 dl).toArray) ∧ Below w'.heap.size w' w'') := fun w' hb => by
  have := reflog_any nm hnm q k hk0.out Ab cb w' (hRs.out w' hb) hkc0.out (by have := hk7.out; omega) hkn0.out
  rw [hdl.out] at this
  exact this
 have hq1 : Hid (∀ w', (binOp .eql 34 (.agg (cells8 d1).toArray) (.agg (cells8 d1).toArray)).run Tryz.prog w' = .ok (.bool true) w') := fun w' => by rw [eql_dig _ _ hl1.out hl1.out]; simp
 have hq2 : Hid (∀ w', (binOp .eql 34 (.agg (cells8 dl).toArray) (.agg (cells8 dl).toArray)).run Tryz.prog w' = .ok (.bool true) w') := fun w' => by rw [eql_dig _ _ hl2.out hl2.out]; simp
 clear hd1 hdl hnm hnc
 go_enter Tryz.func17, Tryz.ntmps17
 go_upto_region 19 with fail
 clear hw0
 refine q_region (Class w0) (by kernel_rfl) (by kernel_rfl) (Class.mk_ ((Below.refl _ _).drew)) ?_
 refine q_move rfl (.tmp 2) rfl ?_
 (intro K k; go_simp; apply k; clear k K)
 refine q_fn (v := .agg (cells8 d1).toArray) (args := #[.slice Ab k cb]) rfl _ _ rfl rfl Tryz.func22 (by kernel_rfl) (by kernel_rfl) (fun w' hw' => ((hI1.out w' (bb0.out.trans (hw'.below.mono bb0.out.size))).mono fun e w'' ⟨he, hb⟩ => ⟨he, hw'.next hb⟩)) ?_
 (intro K k; go_simp; apply k; clear k K)
 refine q_move rfl (.tmp 2) rfl ?_
 (intro K k; go_simp; apply k; clear k K)
 refine q_fn (v := .agg (cells8 d1).toArray) (args := #[.slice Ab k cb]) rfl _ _ rfl rfl Tryz.func26 (by kernel_rfl) (by kernel_rfl) (fun w' hw' => ((hI2.out w' (bb0.out.trans (hw'.below.mono bb0.out.size))).mono fun e w'' ⟨he, hb⟩ => ⟨he, hw'.next hb⟩)) ?_
 (intro K k; go_simp; apply k; clear k K)
 refine q_val (v := .bool true) rfl (fun w' hw' => run_cmp rfl rfl rfl RefRing.qDR (hq1.out w')) ?_
 (intro K k; go_simp; apply k; clear k K)
 refine Want.qv0 (.bool true) ?_
 (intro K k; go_simp; apply k; clear k K)
 refine Want.qv0 (.pointer (some ⟨w.heap.size, 103, none⟩)) ?_
 (intro K k; go_simp; apply k; clear k K)
 refine q_val (v := .string nm) rfl (fun w' hw' => by have hc : w'.cell? ⟨w.heap.size, 103, none⟩ = some (.string nm) := ((show Blk w' w.heap.size 58 cc from (hw'.below.block _ C0.out.lt).trans C0.out).cell 103).trans h103.out; go_simp) ?_
 (intro K k; go_simp; apply k; clear k K)
 refine q_move rfl (.tmp 2) rfl ?_
 (intro K k; go_simp; apply k; clear k K)
 refine q_fn (v := .agg (cells8 dl).toArray) (args := #[.string nm, .slice Ab k cb]) rfl _ _ rfl rfl Tryz.func47 (by kernel_rfl) (by kernel_rfl) (fun w' hw' => ((hL1.out w' (bb0.out.trans (hw'.below.mono bb0.out.size))).mono fun e w'' ⟨he, hb⟩ => ⟨he, hw'.next hb⟩)) ?_
 (intro K k; go_simp; apply k; clear k K)
 refine Want.qv0 (.pointer (some ⟨w.heap.size, 103, none⟩)) ?_
 (intro K k; go_simp; apply k; clear k K)
 refine q_val (v := .string nm) rfl (fun w' hw' => by have hc : w'.cell? ⟨w.heap.size, 103, none⟩ = some (.string nm) := ((show Blk w' w.heap.size 58 cc from (hw'.below.block _ C0.out.lt).trans C0.out).cell 103).trans h103.out; go_simp) ?_
 (intro K k; go_simp; apply k; clear k K)
 refine q_move rfl (.tmp 2) rfl ?_
 (intro K k; go_simp; apply k; clear k K)
 refine q_fn (v := .agg (cells8 dl).toArray) (args := #[.string nm, .slice Ab k cb]) rfl _ _ rfl rfl Tryz.func48 (by kernel_rfl) (by kernel_rfl) (fun w' hw' => ((hL2.out w' (bb0.out.trans (hw'.below.mono bb0.out.size))).mono fun e w'' ⟨he, hb⟩ => ⟨he, hw'.next hb⟩)) ?_
 (intro K k; go_simp; apply k; clear k K)
 refine q_val (v := .bool true) rfl (fun w' hw' => run_cmp rfl rfl rfl RefRing.qDR (hq2.out w')) ?_
 (intro K k; go_simp; apply k; clear k K)
 refine Want.qv0 (.bool true) ?_
 (intro K k; go_simp; apply k; clear k K)
 refine Want.qv0 (.bool true) ?_
 (intro K k; go_simp; apply k; clear k K)
 refine q_nil ?_
 intro w7 hw7
 have bb7 : Hid (Below w.heap.size w w7) := bb0.out.trans (hw7.below.mono bb0.out.size)
 clear hw7
 go_wp2_with fail
 go_ret
 exact ⟨rfl, bb7.out⟩
set_option maxRecDepth 100000 in
set_option maxHeartbeats 8000000 in
theorem plays_7 (cc : Array Value) (h : HeadD) (ok : h.Ok) (ss : List Text) (n : Nat) (hn100 : n ≤ 100) (A : Option Addr) (c : Nat) (hnil : A = none → n = 0 ∧ c = 0) (q : Text) (k : Nat) (hk : q.length = k) (hk47 : k < 140737488355228) (Ab : Option Addr) (cb : Nat) (hkc : k ≤ cb) (hkn : Ab = none → k = 0 ∧ cb = 0) (v3 : Value) (Ap : Option Addr) (N cp : Nat) (w : World) (hB : Base w) (hS : Sgs w A n ss) (hr : Reads w 1 Ab k (cells8 q)) (K0 : Int) (hK0 : K0 = 7) (hK : cc[0]? = some (.int .i64 K0)) (s : Text) (hs : s.length = 64) (hsc : ∀ (j : Nat) (u : Value), (cells8 s)[j]? = some u → cc[104 + j]? = some u) :
  Calls Tryz.prog 17 #[.agg cc, .agg (noteCells h (.slice A n c)).toArray, .slice Ab k cb, v3, .slice Ap N cp] w fun e w' => e = .returned (.bool true) ∧ Below w.heap.size w w' := by
 obtain ⟨w0, hw0⟩ : ∃ w0, (w.alloc (.cells cc 58)).alloc (.cells (noteCells h (.slice A n c)).toArray 39) = w0 := ⟨_, rfl⟩
 have hz : (w.alloc (.cells cc 58)).heap.size = w.heap.size + 1 := by simp
 have C0 : Hid (Blk w0 w.heap.size 58 cc) := by show Blk _ _ _ _; rw [← hw0]; exact (Blk.new w _ _).alloc _
 have N0 : Hid (NoteAt w0 (w.heap.size + 1) h A n c ss) := by show NoteAt _ _ _ _ _ _ _; rw [← hw0, ← hz]; exact NoteAt.new (hS.below (Below.heap_below w _))
 have bb0 : Hid (Below w.heap.size w w0) := by show Below _ _ _; rw [← hw0]; exact (Below.heap_below w _).alloc (by rw [hz]; omega) _
 have hRs : Hid (∀ w', Below w.heap.size w w' → Reads w' 1 Ab k (cells8 q)) := fun w' hb => hr.below hb
 have hBs : Hid (∀ w', Below w.heap.size w w' → Base w') := fun w' hb => hB.below hb hB.1
 have zN := Lib.hid (fun v => note_size ok v)
 have oN := Lib.hid (fun A n c => note_one (h := h) A n c)
 have s0N := Lib.hid (fun v => note_zero ok v)
 have hsz : Hid ((Tryz.prog.info? 36).map (·.size) = some (headCells h).length) := by show _ = _; rw [headCells_len ok]; exact size98
 have hc0 : w0.cell? ⟨w.heap.size, 0, none⟩ = some (.int .i64 K0) := (C0.out.cell 0).trans hK
 have ok' := Lib.hid ok
 have hn0 := Lib.hid hn100
 have hnl := Lib.hid hnil
 have hk0 := Lib.hid hk
 have hk7 := Lib.hid hk47
 have hkc0 := Lib.hid hkc
 have hkn0 := Lib.hid hkn
 have hsns : Hid (Sns ss) := hS.all
 clear hz hB hS hr ok hn100 hnil hk hk47 hkc hkn hK
 subst hK0
 obtain ⟨ck, hck⟩ : ∃ d, Hid (checkAns h s q = d) := ⟨_, Lib.hid rfl⟩
 have h104 := Lib.hid hsc
 have hsl := Lib.hid hs
 have s64 : Hid ((Tryz.prog.info? 56).map (·.size) = some (cells8 s).length) := by show _ = _; rw [cells8_len, hsl.out]; exact Sign.size64
 have hC1 : Hid (∀ w', Below w.heap.size w w' → Calls Tryz.prog 51 #[.agg (headCells h).toArray, .agg (cells8 s).toArray, .slice Ab k cb] w' fun e w'' => e = .returned (.int .i64 ck) ∧ Below w'.heap.size w' w'') := fun w' hb => by
  have := check_any h ok'.out s hsl.out q k hk0.out Ab cb w' (hBs.out w' hb) (hRs.out w' hb) hkc0.out hkn0.out
  rw [hck.out] at this
  exact this
 have hC2 : Hid (∀ w', Below w.heap.size w w' → Calls Tryz.prog 52 #[.agg (headCells h).toArray, .agg (cells8 s).toArray, .slice Ab k cb] w' fun e w'' => e = .returned (.int .i64 ck) ∧ Below w'.heap.size w' w'') := fun w' hb => by
  have := refCheck_any h ok'.out s hsl.out q k hk0.out Ab cb w' (hRs.out w' hb) hkc0.out hkn0.out
  rw [hck.out] at this
  exact this
 clear hsc hs hck
 go_enter Tryz.func17, Tryz.ntmps17
 go_upto_region 25 with fail
 clear hw0
 refine q_region (Class w0) (by kernel_rfl) (by kernel_rfl) (Class.mk_ ((Below.refl _ _).drew)) ?_
 refine Want.qv0 (.pointer (some ⟨w.heap.size + 1, 0, none⟩)) ?_
 (intro K k; go_simp; apply k; clear k K)
 refine q_part rfl 36 (.tmp 166) rfl (w.heap.size + 1) (0) rfl (headCells h) _ (fun w' hw' => (N0.out.below hw'.below).head) Tryz.underlying36 rfl hsz.out ?_
 (intro K k; go_simp; apply k; clear k K)
 refine Want.qv0 (.pointer (some ⟨w.heap.size, 104, none⟩)) ?_
 (intro K k; go_simp; apply k; clear k K)
 refine q_part rfl 56 (.tmp 168) rfl w.heap.size (104) rfl (cells8 s) _ (fun w' hw' => (fun j u hu => ((show Blk w' w.heap.size 58 cc from (hw'.below.block _ C0.out.lt).trans C0.out).cell (104 + j)).trans (h104.out j u hu))) Tryz.underlying56 rfl s64.out ?_
 (intro K k; go_simp; apply k; clear k K)
 refine q_move rfl (.tmp 2) rfl ?_
 (intro K k; go_simp; apply k; clear k K)
 refine q_fn (v := .int .i64 ck) (args := #[.agg (headCells h).toArray, .agg (cells8 s).toArray, .slice Ab k cb]) rfl _ _ rfl rfl Tryz.func51 (by kernel_rfl) (by kernel_rfl) (fun w' hw' => ((hC1.out w' (bb0.out.trans (hw'.below.mono bb0.out.size))).mono fun e w'' ⟨he, hb⟩ => ⟨he, hw'.next hb⟩)) ?_
 (intro K k; go_simp; apply k; clear k K)
 refine Want.qv0 (.pointer (some ⟨w.heap.size + 1, 0, none⟩)) ?_
 (intro K k; go_simp; apply k; clear k K)
 refine q_part rfl 36 (.tmp 172) rfl (w.heap.size + 1) (0) rfl (headCells h) _ (fun w' hw' => (N0.out.below hw'.below).head) Tryz.underlying36 rfl hsz.out ?_
 (intro K k; go_simp; apply k; clear k K)
 refine Want.qv0 (.pointer (some ⟨w.heap.size, 104, none⟩)) ?_
 (intro K k; go_simp; apply k; clear k K)
 refine q_part rfl 56 (.tmp 174) rfl w.heap.size (104) rfl (cells8 s) _ (fun w' hw' => (fun j u hu => ((show Blk w' w.heap.size 58 cc from (hw'.below.block _ C0.out.lt).trans C0.out).cell (104 + j)).trans (h104.out j u hu))) Tryz.underlying56 rfl s64.out ?_
 (intro K k; go_simp; apply k; clear k K)
 refine q_move rfl (.tmp 2) rfl ?_
 (intro K k; go_simp; apply k; clear k K)
 refine q_fn (v := .int .i64 ck) (args := #[.agg (headCells h).toArray, .agg (cells8 s).toArray, .slice Ab k cb]) rfl _ _ rfl rfl Tryz.func52 (by kernel_rfl) (by kernel_rfl) (fun w' hw' => ((hC2.out w' (bb0.out.trans (hw'.below.mono bb0.out.size))).mono fun e w'' ⟨he, hb⟩ => ⟨he, hw'.next hb⟩)) ?_
 (intro K k; go_simp; apply k; clear k K)
 refine Want.qv0 (.bool true) ?_
 (intro K k; go_simp; apply k; clear k K)
 refine Want.qv0 (.bool true) ?_
 (intro K k; go_simp; apply k; clear k K)
 refine q_nil ?_
 intro w7 hw7
 have bb7 : Hid (Below w.heap.size w w7) := bb0.out.trans (hw7.below.mono bb0.out.size)
 clear hw7
 go_wp2_with fail
 go_ret
 exact ⟨rfl, bb7.out⟩
set_option maxRecDepth 100000 in
set_option maxHeartbeats 8000000 in
theorem plays_9n (cc : Array Value) (h : HeadD) (ok : h.Ok) (ss : List Text) (n : Nat) (hn100 : n ≤ 100) (A : Option Addr) (c : Nat) (hnil : A = none → n = 0 ∧ c = 0) (q : Text) (k : Nat) (hk : q.length = k) (hk47 : k < 140737488355228) (Ab : Option Addr) (cb : Nat) (hkc : k ≤ cb) (hkn : Ab = none → k = 0 ∧ cb = 0) (v3 : Value) (Ap : Option Addr) (N cp : Nat) (w : World) (hB : Base w) (hS : Sgs w A n ss) (hr : Reads w 1 Ab k (cells8 q)) (K0 : Int) (hK0 : K0 = 9) (hK : cc[0]? = some (.int .i64 K0)) (hv : v3 = .pointer none) :
  Calls Tryz.prog 17 #[.agg cc, .agg (noteCells h (.slice A n c)).toArray, .slice Ab k cb, v3, .slice Ap N cp] w fun e w' => e = .returned (.bool true) ∧ Below w.heap.size w w' := by
 obtain ⟨w0, hw0⟩ : ∃ w0, (w.alloc (.cells cc 58)).alloc (.cells (noteCells h (.slice A n c)).toArray 39) = w0 := ⟨_, rfl⟩
 have hz : (w.alloc (.cells cc 58)).heap.size = w.heap.size + 1 := by simp
 have C0 : Hid (Blk w0 w.heap.size 58 cc) := by show Blk _ _ _ _; rw [← hw0]; exact (Blk.new w _ _).alloc _
 have N0 : Hid (NoteAt w0 (w.heap.size + 1) h A n c ss) := by show NoteAt _ _ _ _ _ _ _; rw [← hw0, ← hz]; exact NoteAt.new (hS.below (Below.heap_below w _))
 have bb0 : Hid (Below w.heap.size w w0) := by show Below _ _ _; rw [← hw0]; exact (Below.heap_below w _).alloc (by rw [hz]; omega) _
 have hRs : Hid (∀ w', Below w.heap.size w w' → Reads w' 1 Ab k (cells8 q)) := fun w' hb => hr.below hb
 have hBs : Hid (∀ w', Below w.heap.size w w' → Base w') := fun w' hb => hB.below hb hB.1
 have zN := Lib.hid (fun v => note_size ok v)
 have oN := Lib.hid (fun A n c => note_one (h := h) A n c)
 have s0N := Lib.hid (fun v => note_zero ok v)
 have hsz : Hid ((Tryz.prog.info? 36).map (·.size) = some (headCells h).length) := by show _ = _; rw [headCells_len ok]; exact size98
 have hc0 : w0.cell? ⟨w.heap.size, 0, none⟩ = some (.int .i64 K0) := (C0.out.cell 0).trans hK
 have ok' := Lib.hid ok
 have hn0 := Lib.hid hn100
 have hnl := Lib.hid hnil
 have hk0 := Lib.hid hk
 have hk7 := Lib.hid hk47
 have hkc0 := Lib.hid hkc
 have hkn0 := Lib.hid hkn
 have hsns : Hid (Sns ss) := hS.all
 clear hz hB hS hr ok hn100 hnil hk hk47 hkc hkn hK
 subst hK0 hv
 go_enter Tryz.func17, Tryz.ntmps17
 go_wp2_with fail
 go_ret
 exact ⟨rfl, bb0.out⟩
set_option maxRecDepth 100000 in
set_option maxHeartbeats 8000000 in
theorem plays_9 (cc : Array Value) (h : HeadD) (ok : h.Ok) (ss : List Text) (n : Nat) (hn100 : n ≤ 100) (A : Option Addr) (c : Nat) (hnil : A = none → n = 0 ∧ c = 0) (q : Text) (k : Nat) (hk : q.length = k) (hk47 : k < 140737488355228) (Ab : Option Addr) (cb : Nat) (hkc : k ≤ cb) (hkn : Ab = none → k = 0 ∧ cb = 0) (v3 : Value) (Ap : Option Addr) (N cp : Nat) (w : World) (hB : Base w) (hS : Sgs w A n ss) (hr : Reads w 1 Ab k (cells8 q)) (K0 : Int) (hK0 : K0 = 9) (hK : cc[0]? = some (.int .i64 K0)) (least : Int) (hL : cc[1]? = some (.int .i64 least)) (R : Nat) (hv : v3 = .pointer (some ⟨R, 0, none⟩)) (hA : ∀ w', Below w.heap.size w w' → ∀ (h : HeadD), h.Ok → ∀ (ss : List Text) (n : Nat), n ≤ 100 → ∀ (A : Option Addr) (c : Nat) (least : Int), Sgs w' A n ss → Calls Tryz.prog 12 #[.pointer (some ⟨R, 0, none⟩), .slice Ap N cp, .agg (noteCells h (.slice A n c)).toArray, .int .i64 least] w' fun e w'' => e = .returned (.bool true) ∧ Below w'.heap.size w' w'') :
  Calls Tryz.prog 17 #[.agg cc, .agg (noteCells h (.slice A n c)).toArray, .slice Ab k cb, v3, .slice Ap N cp] w fun e w' => e = .returned (.bool true) ∧ Below w.heap.size w w' := by
 obtain ⟨w0, hw0⟩ : ∃ w0, (w.alloc (.cells cc 58)).alloc (.cells (noteCells h (.slice A n c)).toArray 39) = w0 := ⟨_, rfl⟩
 have hz : (w.alloc (.cells cc 58)).heap.size = w.heap.size + 1 := by simp
 have C0 : Hid (Blk w0 w.heap.size 58 cc) := by show Blk _ _ _ _; rw [← hw0]; exact (Blk.new w _ _).alloc _
 have N0 : Hid (NoteAt w0 (w.heap.size + 1) h A n c ss) := by show NoteAt _ _ _ _ _ _ _; rw [← hw0, ← hz]; exact NoteAt.new (hS.below (Below.heap_below w _))
 have bb0 : Hid (Below w.heap.size w w0) := by show Below _ _ _; rw [← hw0]; exact (Below.heap_below w _).alloc (by rw [hz]; omega) _
 have hRs : Hid (∀ w', Below w.heap.size w w' → Reads w' 1 Ab k (cells8 q)) := fun w' hb => hr.below hb
 have hBs : Hid (∀ w', Below w.heap.size w w' → Base w') := fun w' hb => hB.below hb hB.1
 have zN := Lib.hid (fun v => note_size ok v)
 have oN := Lib.hid (fun A n c => note_one (h := h) A n c)
 have s0N := Lib.hid (fun v => note_zero ok v)
 have hsz : Hid ((Tryz.prog.info? 36).map (·.size) = some (headCells h).length) := by show _ = _; rw [headCells_len ok]; exact size98
 have hc0 : w0.cell? ⟨w.heap.size, 0, none⟩ = some (.int .i64 K0) := (C0.out.cell 0).trans hK
 have ok' := Lib.hid ok
 have hn0 := Lib.hid hn100
 have hnl := Lib.hid hnil
 have hk0 := Lib.hid hk
 have hk7 := Lib.hid hk47
 have hkc0 := Lib.hid hkc
 have hkn0 := Lib.hid hkn
 have hsns : Hid (Sns ss) := hS.all
 clear hz hB hS hr ok hn100 hnil hk hk47 hkc hkn hK
 subst hK0 hv
 have h1c : w0.cell? ⟨w.heap.size, 1, none⟩ = some (.int .i64 least) := (C0.out.cell 1).trans hL
 have hAsk : Hid (Calls Tryz.prog 12 #[.pointer (some ⟨R, 0, none⟩), .slice Ap N cp, .agg (noteCells h (.slice A n c)).toArray, .int .i64 least] w0 fun e w' => e = .returned (.bool true) ∧ Below w0.heap.size w0 w') := hA w0 bb0.out h ok'.out ss n hn0.out A c least N0.out.sgs
 clear hA hL
 go_enter Tryz.func17, Tryz.ntmps17
 go_wp2_with (first
  | ((with_reducible change wpList _ _ _ (⟨some 208, _, _, _, _, _⟩ :: _) _ _); (with_reducible refine Veil.out ?_); refine wpList_rowW (o := ⟨some 208, _, _, _, _, _⟩) rfl 39 (.tmp 6) rfl ((w.heap.size + 1)) rfl 39 ((noteCells h (.slice A n c)).toArray) (0, 0) _ N0.out.blk Tryz.underlying39 rfl (zN.out _) ?_)
  | (go_at_call 12; refine hAsk.out.mono ?_; rintro e w1 ⟨rfl, hb⟩; have bb1 : Hid (Below w.heap.size w w1) := bb0.out.trans (hb.mono bb0.out.size); clear hb hw0))
 go_ret
 exact ⟨rfl, bb1.out⟩
set_option maxRecDepth 100000 in
set_option maxHeartbeats 8000000 in
theorem plays_0 (cc : Array Value) (h : HeadD) (ok : h.Ok) (ss : List Text) (n : Nat) (hn100 : n ≤ 100) (A : Option Addr) (c : Nat) (hnil : A = none → n = 0 ∧ c = 0) (q : Text) (k : Nat) (hk : q.length = k) (hk47 : k < 140737488355228) (Ab : Option Addr) (cb : Nat) (hkc : k ≤ cb) (hkn : Ab = none → k = 0 ∧ cb = 0) (v3 : Value) (Ap : Option Addr) (N cp : Nat) (w : World) (hB : Base w) (hS : Sgs w A n ss) (hr : Reads w 1 Ab k (cells8 q)) (K0 : Int) (hno : ¬ (1 ≤ K0 ∧ K0 ≤ 9)) (hK : cc[0]? = some (.int .i64 K0)) :
  Calls Tryz.prog 17 #[.agg cc, .agg (noteCells h (.slice A n c)).toArray, .slice Ab k cb, v3, .slice Ap N cp] w fun e w' => e = .returned (.bool true) ∧ Below w.heap.size w w' := by
 obtain ⟨w0, hw0⟩ : ∃ w0, (w.alloc (.cells cc 58)).alloc (.cells (noteCells h (.slice A n c)).toArray 39) = w0 := ⟨_, rfl⟩
 have hz : (w.alloc (.cells cc 58)).heap.size = w.heap.size + 1 := by simp
 have C0 : Hid (Blk w0 w.heap.size 58 cc) := by show Blk _ _ _ _; rw [← hw0]; exact (Blk.new w _ _).alloc _
 have N0 : Hid (NoteAt w0 (w.heap.size + 1) h A n c ss) := by show NoteAt _ _ _ _ _ _ _; rw [← hw0, ← hz]; exact NoteAt.new (hS.below (Below.heap_below w _))
 have bb0 : Hid (Below w.heap.size w w0) := by show Below _ _ _; rw [← hw0]; exact (Below.heap_below w _).alloc (by rw [hz]; omega) _
 have hRs : Hid (∀ w', Below w.heap.size w w' → Reads w' 1 Ab k (cells8 q)) := fun w' hb => hr.below hb
 have hBs : Hid (∀ w', Below w.heap.size w w' → Base w') := fun w' hb => hB.below hb hB.1
 have zN := Lib.hid (fun v => note_size ok v)
 have oN := Lib.hid (fun A n c => note_one (h := h) A n c)
 have s0N := Lib.hid (fun v => note_zero ok v)
 have hsz : Hid ((Tryz.prog.info? 36).map (·.size) = some (headCells h).length) := by show _ = _; rw [headCells_len ok]; exact size98
 have hc0 : w0.cell? ⟨w.heap.size, 0, none⟩ = some (.int .i64 K0) := (C0.out.cell 0).trans hK
 have ok' := Lib.hid ok
 have hn0 := Lib.hid hn100
 have hnl := Lib.hid hnil
 have hk0 := Lib.hid hk
 have hk7 := Lib.hid hk47
 have hkc0 := Lib.hid hkc
 have hkn0 := Lib.hid hkn
 have hsns : Hid (Sns ss) := hS.all
 clear hz hB hS hr ok hn100 hnil hk hk47 hkc hkn hK
 have x1 : (K0 == 1) = false := beq_eq_false_iff_ne.2 (fun e => hno (by omega))
 have y1 : ¬ (K0 = 1) := fun e => hno (by omega)
 have x2 : (K0 == 2) = false := beq_eq_false_iff_ne.2 (fun e => hno (by omega))
 have y2 : ¬ (K0 = 2) := fun e => hno (by omega)
 have x3 : (K0 == 3) = false := beq_eq_false_iff_ne.2 (fun e => hno (by omega))
 have y3 : ¬ (K0 = 3) := fun e => hno (by omega)
 have x4 : (K0 == 4) = false := beq_eq_false_iff_ne.2 (fun e => hno (by omega))
 have y4 : ¬ (K0 = 4) := fun e => hno (by omega)
 have x5 : (K0 == 5) = false := beq_eq_false_iff_ne.2 (fun e => hno (by omega))
 have y5 : ¬ (K0 = 5) := fun e => hno (by omega)
 have x6 : (K0 == 6) = false := beq_eq_false_iff_ne.2 (fun e => hno (by omega))
 have y6 : ¬ (K0 = 6) := fun e => hno (by omega)
 have x7 : (K0 == 7) = false := beq_eq_false_iff_ne.2 (fun e => hno (by omega))
 have y7 : ¬ (K0 = 7) := fun e => hno (by omega)
 have x8 : (K0 == 8) = false := beq_eq_false_iff_ne.2 (fun e => hno (by omega))
 have y8 : ¬ (K0 = 8) := fun e => hno (by omega)
 have x9 : (K0 == 9) = false := beq_eq_false_iff_ne.2 (fun e => hno (by omega))
 have y9 : ¬ (K0 = 9) := fun e => hno (by omega)
 clear hno
 go_enter Tryz.func17, Tryz.ntmps17
 go_wp2_with fail
 go_ret
 exact ⟨rfl, bb0.out⟩
theorem plays_any (cc : Array Value) (h : HeadD) (ok : h.Ok) (ss : List Text) (n : Nat) (hn100 : n ≤ 100) (A : Option Addr) (c : Nat) (hnil : A = none → n = 0 ∧ c = 0) (q : Text) (k : Nat) (hk : q.length = k) (hk47 : k < 140737488355228) (Ab : Option Addr) (cb : Nat) (hkc : k ≤ cb) (hkn : Ab = none → k = 0 ∧ cb = 0) (v3 : Value) (Ap : Option Addr) (N cp : Nat) (w : World) (hB : Base w) (hS : Sgs w A n ss) (hr : Reads w 1 Ab k (cells8 q)) (K0 least : Int) (nm : ByteArray) (hnm : nm.size < 9223372036854775807) (s : Text) (hs : s.length = 64) (hK : cc[0]? = some (.int .i64 K0)) (hL : cc[1]? = some (.int .i64 least)) (hnc : cc[103]? = some (.string nm)) (hsc : ∀ (j : Nat) (u : Value), (cells8 s)[j]? = some u → cc[104 + j]? = some u)
  (hv : v3 = .pointer none ∨ ∃ R, v3 = .pointer (some ⟨R, 0, none⟩) ∧ ∀ w', Below w.heap.size w w' → ∀ (h : HeadD), h.Ok → ∀ (ss : List Text) (n : Nat), n ≤ 100 → ∀ (A : Option Addr) (c : Nat) (least : Int), Sgs w' A n ss → Calls Tryz.prog 12 #[.pointer (some ⟨R, 0, none⟩), .slice Ap N cp, .agg (noteCells h (.slice A n c)).toArray, .int .i64 least] w' fun e w'' => e = .returned (.bool true) ∧ Below w'.heap.size w' w'') :
  Calls Tryz.prog 17 #[.agg cc, .agg (noteCells h (.slice A n c)).toArray, .slice Ab k cb, v3, .slice Ap N cp] w fun e w' => e = .returned (.bool true) ∧ Below w.heap.size w w' := by
 by_cases e1 : K0 = 1
 ·exact plays_1 cc h ok ss n hn100 A c hnil q k hk hk47 Ab cb hkc hkn v3 Ap N cp w hB hS hr K0 e1 hK
 by_cases e2 : K0 = 2
 ·exact plays_2 cc h ok ss n hn100 A c hnil q k hk hk47 Ab cb hkc hkn v3 Ap N cp w hB hS hr K0 e2 hK
 by_cases e3 : K0 = 3
 ·exact plays_3 cc h ok ss n hn100 A c hnil q k hk hk47 Ab cb hkc hkn v3 Ap N cp w hB hS hr K0 e3 hK
 by_cases e4 : K0 = 4
 ·exact plays_4 cc h ok ss n hn100 A c hnil q k hk hk47 Ab cb hkc hkn v3 Ap N cp w hB hS hr K0 e4 hK
 by_cases e6 : K0 = 6
 ·exact plays_6 cc h ok ss n hn100 A c hnil q k hk hk47 Ab cb hkc hkn v3 Ap N cp w hB hS hr K0 e6 hK
 by_cases e8 : K0 = 8
 ·exact plays_8 cc h ok ss n hn100 A c hnil q k hk hk47 Ab cb hkc hkn v3 Ap N cp w hB hS hr K0 e8 hK
 by_cases e5 : K0 = 5
 ·exact plays_5 cc h ok ss n hn100 A c hnil q k hk hk47 Ab cb hkc hkn v3 Ap N cp w hB hS hr K0 e5 hK nm hnm hnc
 by_cases e7 : K0 = 7
 ·exact plays_7 cc h ok ss n hn100 A c hnil q k hk hk47 Ab cb hkc hkn v3 Ap N cp w hB hS hr K0 e7 hK s hs hsc
 by_cases e9 : K0 = 9
 ·rcases hv with hv | ⟨R, hv, hA⟩
  ·exact plays_9n cc h ok ss n hn100 A c hnil q k hk hk47 Ab cb hkc hkn v3 Ap N cp w hB hS hr K0 e9 hK hv
  ·exact plays_9 cc h ok ss n hn100 A c hnil q k hk hk47 Ab cb hkc hkn v3 Ap N cp w hB hS hr K0 e9 hK least hL R hv hA
 exact plays_0 cc h ok ss n hn100 A c hnil q k hk hk47 Ab cb hkc hkn v3 Ap N cp w hB hS hr K0 (by omega) hK
end Go.Proofs.YtfbhjoejffagjaaGreatDoor.Plays3

namespace Go.Proofs.YtfbhjoejffagjaaGreatDoor.HeadAgain
open Go Go.RowKit Go.Proofs.YtfbhjoejffagjaaGreatDoor Mem Sha Bytes SortP NoteP QuietTail Grown Want Guard2 Go.Proofs.YtfbhjoejffagjaaGreatDoor.Append Own Rise SortM SgM HashMem HeadMem EncNoteP EncNote RowS NoteM CmpW SameSigns Fill Held Kept16 HeadTake HeadTake2 Decode Signs RingM RingS NewRing VerP Verify RingP RefRing RefVerify Asked Law16 HeadRings Plays3 Spoil Lists AddP HeadAdds

structure CallD where
 kind : Int
 least : Int
 h : HeadD
 A : Option Addr
 n : Nat
 c : Nat
 ss : List Text
 key : Text
 keyA : Option Addr
 keyC : Nat
 raw : Text
 rawA : Option Addr
 rawC : Nat
 nm : ByteArray
 s : Text
def callC (x : CallD) : List Value := [.int .i64 x.kind, .int .i64 x.least] ++ (noteCells x.h (.slice x.A x.n x.c) ++ ([.slice x.keyA x.key.length x.keyC, .slice x.rawA x.raw.length x.rawC, .string x.nm] ++ cells8 x.s))
structure CallOk (w : World) (x : CallD) : Prop where
 ok : x.h.Ok
 nc : x.n ≤ x.c
 sgs : Sgs w x.A x.n x.ss
 kr : Reads w 1 x.keyA x.key.length (cells8 x.key)
 kc : x.key.length ≤ x.keyC
 kb : x.key.length < 140737488355328
 rr : Reads w 1 x.rawA x.raw.length (cells8 x.raw)
 rc : x.raw.length ≤ x.rawC
 rb : x.raw.length < 140737488355328
 nm : x.nm.size < 9223372036854775807
 sl : x.s.length = 64
theorem CallOk.below {w w' : World} {x : CallD} (h : CallOk w x) (hb : Below w.heap.size w w') : CallOk w' x := ⟨h.ok, h.nc, h.sgs.below hb, h.kr.below hb, h.kc, h.kb, h.rr.below hb, h.rc, h.rb, h.nm, h.sl⟩
structure CallsAt (w : World) (A : Option Addr) (n : Nat) (l : List CallD) : Prop where
 len : l.length = n
 ok : ∀ x ∈ l, CallOk w x
 rd : Reads w 168 A n (l.flatMap callC)
theorem CallsAt.below {w w' : World} {A : Option Addr} {n : Nat} {l : List CallD} (h : CallsAt w A n l) (hb : Below w.heap.size w w') : CallsAt w' A n l := ⟨h.len, fun x hx => (h.ok x hx).below hb, h.rd.below hb⟩
theorem callC_len {w : World} {x : CallD} (ok : CallOk w x) : (callC x).length = 168 := by
 unfold callC
 simp only [List.length_append, noteCells_len ok.ok, cells8_len, ok.sl, List.length_cons, List.length_nil]
theorem callC_one {x : CallD} : ∀ v ∈ callC x, v.oneCell' = true := by
 intro v hv
 unfold callC at hv
 rcases List.mem_append.1 hv with hv | hv
 ·simp only [List.mem_cons, List.not_mem_nil, or_false] at hv
  rcases hv with rfl | rfl <;> rfl
 ·rcases List.mem_append.1 hv with hv | hv
  ·have := note_one (h := x.h) x.A x.n x.c
   rw [List.all_toArray] at this
   exact List.all_eq_true.1 this v hv
  ·rcases List.mem_append.1 hv with hv | hv
   ·simp only [List.mem_cons, List.not_mem_nil, or_false] at hv
    rcases hv with rfl | rfl | rfl <;> rfl
   ·exact cells8_one _ v hv
theorem callC_note {x : CallD} {j : Nat} {u : Value} (hu : (noteCells x.h (.slice x.A x.n x.c))[j]? = some u) : (callC x)[2 + j]? = some u := by
 unfold callC
 have hj := (List.getElem?_eq_some_iff.1 hu).1
 rw [List.getElem?_append_right (by simp), show 2 + j - [Value.int .i64 x.kind, .int .i64 x.least].length = j by simp, List.getElem?_append_left hj]
 exact hu
theorem callC_tail {w : World} {x : CallD} (ok : CallOk w x) (j : Nat) : (callC x)[101 + j]? = ([.slice x.keyA x.key.length x.keyC, .slice x.rawA x.raw.length x.rawC, .string x.nm] ++ cells8 x.s)[j]? := by
 unfold callC
 rw [List.getElem?_append_right (by simp; omega), List.getElem?_append_right (by rw [noteCells_len ok.ok]; simp; omega), noteCells_len ok.ok]
 congr 1
 simp
 omega
theorem callC_sign {w : World} {x : CallD} (ok : CallOk w x) (j : Nat) (u : Value) (hu : (cells8 x.s)[j]? = some u) : (callC x)[104 + j]? = some u := by
 rw [show 104 + j = 101 + (3 + j) by omega, callC_tail ok, List.getElem?_append_right (by simp)]
 simpa using hu
theorem flat_at168 {w : World} : ∀ (l : List CallD), (∀ x ∈ l, CallOk w x) → ∀ (i : Nat) (x : CallD) (j : Nat), l[i]? = some x → j < 168 → (l.flatMap callC)[i * 168 + j]? = (callC x)[j]?
 | [], _, i, x, j, h, _ => by cases h
 | s :: l, hl, i, x, j, h, hj => by
  have hs : (callC s).length = 168 := callC_len (hl s (by simp))
  rw [List.flatMap_cons]
  cases i with
  | zero =>
   obtain rfl : s = x := Option.some.inj h
   rw [Nat.zero_mul, Nat.zero_add, List.getElem?_append_left (by omega)]
  | succ i =>
   rw [List.getElem?_append_right (by omega), hs, show (i + 1) * 168 + j - 168 = i * 168 + j by omega]
   exact flat_at168 l (fun t ht => hl t (by simp [ht])) i x j h hj
theorem CallsAt.at_ {w : World} {A : Option Addr} {n i : Nat} {l : List CallD} {x : CallD} (h : CallsAt w A n l) (hx : l[i]? = some x) : ∃ b o, A = some ⟨b, o, none⟩ ∧ b < w.heap.size ∧ ∀ (j : Nat) (u : Value), (callC x)[j]? = some u → w.cell? ⟨b, o + i * 168 + j, none⟩ = some u := by
 have hi : i < l.length := (List.getElem?_eq_some_iff.1 hx).1
 obtain ⟨b, o, e, hb, hc⟩ := h.rd.2 (by have := h.len; omega)
 refine ⟨b, o, e, hb, fun j u hu => ?_⟩
 have hj : j < 168 := by have := (List.getElem?_eq_some_iff.1 hu).1; have := callC_len (h.ok x (List.mem_of_getElem? hx)); omega
 rw [Nat.add_assoc]
 exact hc _ u ((flat_at168 l h.ok i x j hx hj).trans hu)
theorem over_reads {w : World} {g size n : Nat} {t : TypeId} {cur : Array Value} {cs : List Value} (h : Blk w g t (cur.toList.take 0 ++ cs ++ cur.toList.drop (0 + cs.length)).toArray) (hn : cs.length = n * size) : Reads w size (some ⟨g, 0, none⟩) n cs :=
 Blk.reads h 0 _ hn (fun j u hu => by
  simp only [Nat.zero_add, List.take_zero, List.nil_append, List.getElem?_toArray]
  rw [List.getElem?_append_left (List.getElem?_eq_some_iff.1 hu).1]
  exact hu)
theorem over_size {cur : Array Value} {cs : List Value} (h : cs.length ≤ cur.size) : (cur.toList.take 0 ++ cs ++ cur.toList.drop (0 + cs.length)).toArray.size = cur.size := by
 simp only [List.size_toArray, List.take_zero, List.nil_append, List.length_append, List.length_drop, Array.length_toList, Nat.zero_add]
 omega
theorem size168 : (Tryz.prog.info? 58).map (·.size) = some 168 := by kernel_rfl
theorem zc_size : (Tryz.zeroCells58 : Array Value).size = 168 := by kernel_rfl
theorem made_size {w : World} {base e g n sz : Nat} {xs : List Value} (h : w.ownsRow base e sz (.slice (some ⟨g, 0, none⟩) n n) n xs) : ∃ cur, Blk w g e cur ∧ cur.size = n * sz := ⟨_, ownBlkS h, by rw [List.size_toArray]; exact h.1⟩
set_option maxRecDepth 100000 in
theorem run_front8 {A : Option Addr} {n c m : Nat} (hm : m ≤ c) (x : Int) (hx : x = m) (w : World) : (Instr.sliceAt 31 (.slice A n c) none (some (.int .i64 x)) none).run Tryz.prog w = .ok (.slice A m c) w := run_headOf Tryz.underlying31 (fun _ => rfl) hm x hx w
set_option maxRecDepth 100000 in
set_option maxHeartbeats 16000000 in
theorem headAgain_any (es : List Text) (p : Nat) (hp : es.length = p) (Ap : Option Addr) (cp : Nat) (hpc : p ≤ cp) (l : List CallD) (na : Nat) (hna : na ≤ 140737488355328) (Aa : Option Addr) (ca : Nat) (w : World) (hB : Base w) (hP : Pieces w Ap es) (hsh : ∀ q ∈ es, q.length < 140737488355228) (hA : CallsAt w Aa na l) :
    Calls Tryz.prog 5 #[.slice Ap p cp, .slice Aa na ca] w fun e w' => e = .returned (.bool true) ∧ Below w.heap.size w w' := by
  have hPs : Hid (∀ w', Below w.heap.size w w' → Pieces w' Ap es) := fun w' hb => hP.below hb
  have hAs : Hid (∀ w', Below w.heap.size w w' → CallsAt w' Aa na l) := fun w' hb => hA.below hb
  have hBs : Hid (∀ w', Below w.heap.size w w' → Base w') := fun w' hb => hB.below hb hB.1
  have hsh0 := Lib.hid hsh
  have hp0 := Lib.hid hp
  have hpc0 := Lib.hid hpc
  have hna0 := Lib.hid hna
  have hA0 := Lib.hid hA
  clear hB hP hsh hp hpc hna hA
  go_enter Tryz.func5, Tryz.ntmps5
  go_upto_if 16 with fail
  go_cut [0] from 14 to 19 (fun v wr => ∃ N : Nat, v = .slice Ap N cp ∧ Hid (N ≤ 64 ∧ (es.take 64).length = N) ∧ Hid (w = wr))
  case first =>
    by_cases h16 : 64 < p
    · have x1 : (64 : Int) < (p : Int) := by omega
      have hT := run_frontR (A := Ap) (n := p) (c := cp) (m := 64) (by have := hpc0.out; omega) 64 rfl
      have hl : Hid ((64 : Nat) ≤ 64 ∧ (es.take 64).length = 64) := ⟨Nat.le_refl _, by rw [List.length_take, hp0.out]; omega⟩
      clear h16
      go_wp2_with fail
      go_meet
      case rel => exact ⟨64, rfl, hl.out, rfl⟩
    · have x1 : ¬ ((64 : Int) < (p : Int)) := by omega
      have hl : Hid (p ≤ 64 ∧ (es.take 64).length = p) := ⟨by omega, by rw [List.length_take, hp0.out]; omega⟩
      clear h16
      go_wp2_with fail
      go_meet
      case rel => exact ⟨p, rfl, hl.out, rfl⟩
  case rest =>
    obtain ⟨N, rfl, hN, hwc⟩ := hcut
    obtain rfl := hwc.out
    clear hwc
    obtain ⟨ks, hks⟩ : ∃ ks, Hid (es.take 64 = ks) := ⟨_, Lib.hid rfl⟩
    rw [hks.out] at hN
    have hPk : Hid (∀ w', Below w.heap.size w w' → Pieces w' Ap ks) := fun w' hb => by rw [← hks.out]; exact pieces_take16 (hPs.out w' hb) 64
    have hshk : Hid (∀ q ∈ ks, q.length < 140737488355228) := fun q hq => hsh0.out q (by rw [← hks.out] at hq; exact List.mem_of_mem_take hq)
    have hN6 : (N : Int) ≤ 64 := by have := hN.out.1; omega
    clear hPs hsh0 hp0 hpc0 hks
    go_upto_region 4 with (go_at_call 7; refine (newRing_any ks N hN.out.2 (by have := hN.out.1; omega) Ap cp w (hBs.out w (Below.refl _ _)) (hPk.out w (Below.refl _ _)) hshk.out).mono ?_; intro e w1 hNO; obtain ⟨v5, k5, rfl, hb, hk5, hb1, hg1⟩ := hNO; replace hk5 := Lib.hid hk5; have hbad := Lib.hid hb1; have F1 : Hid (RingFact w1 k5 v5 w.heap.size ks) := hg1; have bb1 : Hid (Below w.heap.size w w1) := hb; clear hb hb1 hg1)
    go_cut [34] from 24 to 34 (fun v wr => v = .bool false ∧ Hid (Below w1.heap.size w1 wr))
    case first =>
      by_cases h5 : k5 = 0
      · obtain ⟨l1, e5, -⟩ := F1.out h5
        subst h5 e5
        go_wp2_with (go_at_call 8; refine (refring_any ks N hN.out.2 (by have := hN.out.1; omega) Ap cp w1 (hPk.out w1 bb1.out) hshk.out).mono ?_; rw [← hk5.out]; rintro e w2 ⟨rfl, hb⟩; have b12 : Hid (Below w1.heap.size w1 w2) := hb; clear hb)
        go_meet
        case rel => exact ⟨rfl, b12.out⟩
      · have e5 := hbad.out h5
        subst e5
        have y1 : (k5 == 0) = false := by simpa using h5
        go_wp2_with (go_at_call 8; refine (refring_any ks N hN.out.2 (by have := hN.out.1; omega) Ap cp w1 (hPk.out w1 bb1.out) hshk.out).mono ?_; rw [← hk5.out]; rintro e w2 ⟨rfl, hb⟩; have b12 : Hid (Below w1.heap.size w1 w2) := hb; clear hb)
        go_meet
        case rel => exact ⟨rfl, b12.out⟩
    case rest =>
      obtain ⟨rfl, hcb⟩ := hcut
      obtain ⟨w3, rfl⟩ : ∃ w3, w3 = wc := ⟨_, rfl⟩
      have F3 := Lib.hid (F1.out.below hcb.out)
      have bb3 : Hid (Below w.heap.size w w3) := bb1.out.trans (hcb.out.mono bb1.out.size)
      have hvr : Hid (v5 = .pointer none ∨ ∃ R, v5 = .pointer (some ⟨R, 0, none⟩) ∧ ∀ w', Below w3.heap.size w3 w' → ∀ (h : HeadD), h.Ok → ∀ (ss : List Text) (n : Nat), n ≤ 100 → ∀ (A : Option Addr) (c : Nat) (least : Int), Sgs w' A n ss → Calls Tryz.prog 12 #[.pointer (some ⟨R, 0, none⟩), .slice Ap N cp, .agg (noteCells h (.slice A n c)).toArray, .int .i64 least] w' fun e w'' => e = .returned (.bool true) ∧ Below w'.heap.size w' w'') := by
        by_cases h5 : k5 = 0
        · obtain ⟨l1, e5, hR, hpm, hst⟩ := F3.out h5
          obtain ⟨h64, hkb, hap⟩ := ring_ok2 hk5.out h5
          refine .inr ⟨_, e5, fun w' hb h hok ss n hn A c least hS => ?_⟩
          have hbw := bb3.out.trans (hb.mono bb3.out.size)
          exact asked_any ks N hN.out.2 (by have := hN.out.1; omega) hap Ap cp l1 hpm hst (by have h1 := hpm.length_eq; rw [List.length_map] at h1; omega) (fun x hx => List.all_eq_true.1 hkb x.q (hpm.mem_iff.1 (List.mem_map.2 ⟨x, hx, rfl⟩))) _ h hok ss n hn A c least w' (hBs.out w' hbw) (hR.at_.below hb) hS (hPk.out w' hbw) hshk.out
        · exact .inl (hbad.out h5)
      obtain ⟨i0, ii, iz0, iz1, iz2⟩ := SgM.info_partsN info1
      obtain ⟨j0, jj, jz0, jz1, jz2⟩ := SgM.info_partsN info64
      have mb1 : Hid (i0.bytes * 4096 ≤ 281474976710656) := by show _ ≤ _; rw [iz2]; omega
      have mb2 : Hid (4096 ≤ maxLen) := by show _ ≤ _; unfold maxLen; omega
      have mb3 : Hid (j0.bytes * 100 ≤ 281474976710656) := by show _ ≤ _; rw [jz2]; omega
      have mb4 : Hid (100 ≤ maxLen) := by show _ ≤ _; unfold maxLen; omega
      clear hcb F1 F3 bb1 hbad
      have tok6 := Lib.hid True.intro
      go_wp2_with (first
    | (at_make; clear tok6; refine wpList_make_full _ rfl (.const (.int .i64 4096)) (.const (.int .i64 4096)) 31 rfl w3.heap.size 5 i0 (.int .u8 0) 1 Tryz.underlying31 ii iz0 iz1 .i64 .i64 4096 4096 4096 rfl rfl (by omega) (by omega) mb1.out mb2.out (Nat.le_refl _) ?_; intro w4 hown hgrow; obtain ⟨cb4, hcb4, hcs4⟩ := made_size hown; have B4 : Hid (∃ cur, Blk w4 w3.heap.size 5 cur ∧ cur.size = 4096) := ⟨cb4, hcb4, hcs4⟩; have b34 : Hid (Below w3.heap.size w3 w4) := (Below.refl _ _).grown hgrow (Nat.le_refl _) (fun _ e => by cases e); clear hown hgrow hcb4 hcs4)
    | (at_make; refine wpList_make_full _ rfl (.const (.int .i64 100)) (.const (.int .i64 100)) 37 rfl w4.heap.size 56 j0 (.agg Z64) 64 Tryz.underlying37 jj jz0 jz1 .i64 .i64 100 100 100 rfl rfl (by omega) (by omega) mb3.out mb4.out (Nat.le_refl _) ?_; intro w5 hown hgrow; obtain ⟨cb5, hcb5, hcs5⟩ := made_size hown; have S5 : Hid (∃ cur, Blk w5 w4.heap.size 56 cur ∧ cur.size = 6400) := ⟨cb5, hcb5, hcs5⟩; have b45 : Below w4.heap.size w4 w5 := (Below.refl _ _).grown hgrow (Nat.le_refl _) (fun _ e => by cases e); have B5 : Hid (∃ cur, Blk w5 w3.heap.size 5 cur ∧ cur.size = 4096) := (by obtain ⟨cur, h1, h2⟩ := B4.out; exact ⟨cur, (b45.block _ h1.lt).trans h1, h2⟩); have b35 : Hid (Below w3.heap.size w3 w5) := b34.out.trans (b45.mono b34.out.size); have hg34 : Hid (w3.heap.size < w4.heap.size) := (by obtain ⟨cur, h1, h2⟩ := B4.out; exact h1.lt); clear hown hgrow hcb5 hcs5 B4 b34 b45))
      go_loopw [9] (fun v wr => ∃ i : Nat, v = .int .i64 (i : Int) ∧ Hid (i ≤ na) ∧ Hid (Below w3.heap.size w3 wr) ∧ Hid (∃ cur, Blk wr w3.heap.size 5 cur ∧ cur.size = 4096) ∧ Hid (∃ cur, Blk wr w4.heap.size 56 cur ∧ cur.size = 6400)) (fun v _ => na - (intOf v).toNat)
      case atStart => exact ⟨0, rfl, Nat.zero_le _, b35.out, B5.out, S5.out⟩
      case round =>
        clear b35 B5 S5
        obtain ⟨i, rfl, hin, hbe, Br, Sr⟩ := hrel
        have hi6 : (i : Int) ≤ 140737488355328 := by have := hin.out; have := hna0.out; omega
        have hi0 : (0 : Int) ≤ (i : Int) := by omega
        have bbr : Hid (Below w.heap.size w wr) := bb3.out.trans (hbe.out.mono bb3.out.size)
        by_cases hlt : i < na
        · have hz : (i : Int) < (na : Int) := by omega
          by_cases hl1 : i < 100
          · have hz1 : (i : Int) < 100 := by omega
            have hlt' := Lib.hid hlt
            obtain ⟨x, hx⟩ : ∃ x, Hid (l[i]? = some x) := ⟨_, List.getElem?_eq_getElem (by rw [hA0.out.len]; exact hlt)⟩
            have hxo := Lib.hid (hA0.out.ok x (List.mem_of_getElem? hx.out))
            obtain ⟨b, o, hAa, hbl, hcx⟩ := hA0.out.at_ hx.out
            subst hAa
            obtain ⟨X, hX⟩ : ∃ X, Hid (callC x = X) := ⟨_, Lib.hid rfl⟩
            rw [hX.out] at hcx
            have hfx : Hid (∀ w', Below w.heap.size w w' → ∀ (j : Nat) (u : Value), X[j]? = some u → w'.cell? ⟨b, o + i * 168 + j, none⟩ = some u) := fun w' hb' j u hu => (hb'.cell (p := ⟨b, o + i * 168 + j, none⟩) hbl).trans (hcx j u hu)
            have hXl : Hid (X.length = 168) := by show _ = _; rw [← hX.out]; exact callC_len hxo.out
            have zL : Hid ((Tryz.prog.info? 58).map (·.size) = some X.length) := by show _ = _; rw [hXl.out]; exact size168
            have z1 : Hid ((Tryz.prog.info? 58).map (·.size) = some X.toArray.size) := by show _ = _; rw [List.size_toArray, hXl.out]; exact size168
            have z2 : Hid (X.toArray.all (fun v => v.oneCell') = true) := by show _ = _; rw [List.all_toArray, ← hX.out]; exact List.all_eq_true.2 callC_one
            have x0 : Hid (X[0]? = some (.int .i64 x.kind)) := by show _ = _; rw [← hX.out]; rfl
            have x1 : Hid (X[1]? = some (.int .i64 x.least)) := by show _ = _; rw [← hX.out]; rfl
            have x101 : Hid (X[101]? = some (.slice x.keyA x.key.length x.keyC)) := by show _ = _; rw [← hX.out]; exact callC_tail hxo.out 0
            have x102 : Hid (X[102]? = some (.slice x.rawA x.raw.length x.rawC)) := by show _ = _; rw [← hX.out]; exact callC_tail hxo.out 1
            have x103 : Hid (X[103]? = some (.string x.nm)) := by show _ = _; rw [← hX.out]; exact callC_tail hxo.out 2
            have x104 : Hid (∀ (j : Nat) (u : Value), (cells8 x.s)[j]? = some u → X[104 + j]? = some u) := by show ∀ _ _, _ → _; rw [← hX.out]; exact callC_sign hxo.out
            have x2 : Hid (∀ (j : Nat) (u : Value), (noteCells x.h (.slice x.A x.n x.c))[j]? = some u → X[2 + j]? = some u) := by show ∀ _ _, _ → _; rw [← hX.out]; exact fun j u => callC_note
            have ok' : Hid (x.h.Ok) := hxo.out.ok
            have zN := Lib.hid (fun v => note_size ok'.out v)
            have zNL : Hid ((Tryz.prog.info? 39).map (·.size) = some (noteCells x.h (.slice x.A x.n x.c)).length) := by have := zN.out (.slice x.A x.n x.c); rw [List.size_toArray] at this; exact this
            have oN := Lib.hid (fun A n c => note_one (h := x.h) A n c)
            have s0N := Lib.hid (fun v => note_zero ok'.out v)
            have hsz : Hid ((Tryz.prog.info? 36).map (·.size) = some (headCells x.h).length) := by show _ = _; rw [headCells_len ok'.out]; exact size98
            have hl10 : Hid (w4.heap.size < wr.heap.size) := by obtain ⟨cur, h1, h2⟩ := Sr.out; exact h1.lt
            clear hlt hl1 hcx hX hx
            go_upto_if 55 with (first
    | (((with_reducible change wpList _ _ _ (⟨some 50, _, _, _, _, _⟩ :: _) _ _); refine wpList_load_part (o := ⟨some 50, _, _, _, _, _⟩) rfl 58 (.tmp 49) rfl (b) ((o + i * 168)) rfl (X) _ (hfx.out wr bbr.out) Tryz.underlying58 rfl zL.out ?_))
    | ((with_reducible change wpList _ _ _ ({ dst := none, op := Op.store 58 (.tmp 10) (.tmp 50), type := _, pos := _, after := _, guard := _ } :: _) _ _); refine wpList_store_all (o := ⟨none, _, _, _, _, _⟩) rfl 58 (.tmp 10) (.tmp 50) rfl wr.heap.size X.toArray rfl rfl 58 Tryz.zeroCells58 (Blk.new wr _ _) z1.out (zc_size.trans (by rw [List.size_toArray, hXl.out])) z2.out ?_; intro w6 hB6 hk6; have hb := below_new hk6; have b3r := hbe; have B6 : Hid (∃ cur, Blk w6 w3.heap.size 5 cur ∧ cur.size = 4096) := (by obtain ⟨cur, h1, h2⟩ := Br.out; exact ⟨cur, (hb.block _ h1.lt).trans h1, h2⟩); have S6 : Hid (∃ cur, Blk w6 w4.heap.size 56 cur ∧ cur.size = 6400) := (by obtain ⟨cur, h1, h2⟩ := Sr.out; exact ⟨cur, (hb.block _ h1.lt).trans h1, h2⟩); have bb6 : Hid (Below w.heap.size w w6) := bbr.out.trans (hb.mono bbr.out.size); have b36 : Hid (Below w3.heap.size w3 w6) := b3r.out.trans (hb.mono b3r.out.size); have C6 : Hid (Blk w6 wr.heap.size 58 X.toArray) := hB6; have c0 : w6.cell? ⟨wr.heap.size, 0, none⟩ = some (.int .i64 x.kind) := (C6.out.cell 0).trans (by rw [List.getElem?_toArray]; exact x0.out); have c101 : w6.cell? ⟨wr.heap.size, 101, none⟩ = some (.slice x.keyA x.key.length x.keyC) := (C6.out.cell 101).trans (by rw [List.getElem?_toArray]; exact x101.out); have c102 : w6.cell? ⟨wr.heap.size, 102, none⟩ = some (.slice x.rawA x.raw.length x.rawC) := (C6.out.cell 102).trans (by rw [List.getElem?_toArray]; exact x102.out); clear hB6 hk6 hb Br Sr bbr hbe b3r; generalize wr.heap.size = g10 at *))

            go_cut [11] from 53 to 58 (fun v wx => ∃ (q : Text) (Aq : Option Addr) (cq : Nat), v = .slice Aq q.length cq ∧ Hid (q.length ≤ cq ∧ q.length < 140737488355328) ∧ Hid (∀ w', Below w.heap.size w w' → Reads w' 1 Aq q.length (cells8 q)) ∧ Hid (w6 = wx))
            case first =>
              by_cases h4 : 4 < x.kind
              · have y4 : (4 : Int) < x.kind := h4
                go_wp2_with fail
                go_meet
                case rel => exact ⟨x.key, x.keyA, x.keyC, rfl, ⟨hxo.out.kc, hxo.out.kb⟩, fun w' hb => hxo.out.kr.below hb, rfl⟩
              · have y4 : ¬ ((4 : Int) < x.kind) := h4
                go_wp2_with fail
                go_meet
                case rel => exact ⟨x.raw, x.rawA, x.rawC, rfl, ⟨hxo.out.rc, hxo.out.rb⟩, fun w' hb => hxo.out.rr.below hb, rfl⟩
            case rest =>
            obtain ⟨q0, Aq, cq, rfl, hq1, hq2, hwc⟩ := hcut
            obtain rfl := hwc.out
            clear hwc c101 c102 c0
            obtain ⟨k0, hk0⟩ : ∃ k0, Hid (q0.length = k0) := ⟨_, Lib.hid rfl⟩
            rw [hk0.out] at hq1 hq2 ⊢
            go_upto_if 60 with fail
            go_cut [11] from 58 to 63 (fun v wx => ∃ (q : Text) (k : Nat), v = .slice Aq k cq ∧ Hid (q.length = k) ∧ Hid (k ≤ 4096 ∧ k ≤ cq) ∧ Hid (∀ w', Below w.heap.size w w' → Reads w' 1 Aq k (cells8 q)) ∧ Hid (w6 = wx))
            case first =>
              by_cases h4 : 4096 < k0
              · have y4b : decide ((4096 : Int) < (k0 : Int)) = true := decide_eq_true (by omega)
                rw [y4b]
                clear y4b
                have hT := run_front8 (A := Aq) (n := k0) (c := cq) (m := 4096) (by have := hq1.out.1; omega) 4096 rfl
                have hR : Hid (∀ w', Below w.heap.size w w' → Reads w' 1 Aq 4096 (cells8 (q0.take 4096))) := fun w' hb => by
                  obtain ⟨r1, r2⟩ := hq2.out w' hb
                  refine ⟨by rw [cells8_len, List.length_take, hk0.out]; omega, fun _ => ?_⟩
                  obtain ⟨b9, o9, e9, hb9, hc9⟩ := r2 (by omega)
                  refine ⟨b9, o9, e9, hb9, fun j u hu => hc9 j u ?_⟩
                  have e : cells8 (q0.take 4096) = (cells8 q0).take 4096 := by simp [cells8]
                  rw [e, List.getElem?_take] at hu
                  split at hu
                  · exact hu
                  · cases hu
                have hl : Hid ((q0.take 4096).length = 4096) := by show _ = _; rw [List.length_take, hk0.out]; omega
                have hle : Hid (4096 ≤ 4096 ∧ 4096 ≤ cq) := ⟨Nat.le_refl _, by have := hq1.out.1; omega⟩
                clear h4
                go_wp2_with fail
                go_meet
                case rel => exact ⟨q0.take 4096, 4096, rfl, hl.out, hle.out, hR.out, rfl⟩
              · have y4b : decide ((4096 : Int) < (k0 : Int)) = false := decide_eq_false (by omega)
                rw [y4b]
                clear y4b
                have hle : Hid (k0 ≤ 4096 ∧ k0 ≤ cq) := ⟨by omega, hq1.out.1⟩
                clear h4
                go_wp2_with fail
                go_meet
                case rel => exact ⟨q0, k0, rfl, hk0.out, hle.out, hq2.out, rfl⟩
            case rest =>
            obtain ⟨q, k, rfl, hk, hkl, hRq, hwc⟩ := hcut
            obtain rfl := hwc.out
            obtain ⟨wA, rfl⟩ : ∃ wA, wA = w6 := ⟨_, rfl⟩
            clear hwc hk0 hq1 hq2
            have hk6 : (k : Int) ≤ 4096 := by have := hkl.out.1; omega
            have hk06 : (0 : Int) ≤ (k : Int) := by omega
            have hmn : Hid (Nat.min k 4096 = k) := Nat.min_eq_left hkl.out.1
            have hc8 : Hid ((cells8 q).length = k * 1) := by show _ = _; rw [cells8_len, hk.out, Nat.mul_one]
            have tok7 := Lib.hid True.intro
            go_upto_region 20 with (first
    | (((with_reducible change wpList _ _ _ (⟨some 64, _, _, _, _, _⟩ :: _) _ _); refine wpList_load_part (o := ⟨some 64, _, _, _, _, _⟩) rfl 39 (.tmp 63) rfl (g10) (2) rfl (noteCells x.h (.slice x.A x.n x.c)) _ (fun j u hu => (C6.out.cell (2 + j)).trans (by rw [List.getElem?_toArray]; exact x2.out j u hu)) Tryz.underlying39 rfl zNL.out ?_))
    | (go_at_call 11; clear tok7; refine (short_any x.h ok'.out x.ss x.n x.A x.c hxo.out.nc wA (hxo.out.sgs.below bb6.out)).mono ?_; rintro e w7 ⟨m, hm, rfl, -, hb⟩; replace hm := Lib.hid hm; have C7 : Hid (Blk w7 g10 58 X.toArray) := (hb.block _ C6.out.lt).trans C6.out; have hg7 : Hid (w4.heap.size < w7.heap.size) := (by have := hb.size; have := C6.out.lt; have := hl10.out; show _ < _; omega); have B7 : Hid (∃ cur, Blk w7 w3.heap.size 5 cur ∧ cur.size = 4096) := (by obtain ⟨cur, h1, h2⟩ := B6.out; exact ⟨cur, (hb.block _ h1.lt).trans h1, h2⟩); have S7 : Hid (∃ cur, Blk w7 w4.heap.size 56 cur ∧ cur.size = 6400) := (by obtain ⟨cur, h1, h2⟩ := S6.out; exact ⟨cur, (hb.block _ h1.lt).trans h1, h2⟩); have bb7 : Hid (Below w.heap.size w w7) := bb6.out.trans (hb.mono bb6.out.size); have b37 : Hid (Below w3.heap.size w3 w7) := b36.out.trans (hb.mono b36.out.size); clear hb C6 B6 S6 bb6 b36)
    | ((with_reducible change wpList _ _ _ ({ dst := none, op := Op.store 39 (.tmp 12) (.tmp 65), type := _, pos := _, after := _, guard := _ } :: _) _ _); refine wpList_store_all (o := ⟨none, _, _, _, _, _⟩) rfl 39 (.tmp 12) (.tmp 65) rfl w7.heap.size (noteCells x.h (.slice x.A m x.c)).toArray rfl rfl 39 Z99 (Blk.new w7 _ _) (zN.out _) (s0N.out _) (oN.out _ _ _) ?_; intro w8 hB8 hk8; have hb := below_new hk8; have C8 : Hid (Blk w8 g10 58 X.toArray) := (hb.block _ C7.out.lt).trans C7.out; have P8 : Hid (Blk w8 w7.heap.size 39 (noteCells x.h (.slice x.A m x.c)).toArray) := hB8; have B8 : Hid (∃ cur, Blk w8 w3.heap.size 5 cur ∧ cur.size = 4096) := (by obtain ⟨cur, h1, h2⟩ := B7.out; exact ⟨cur, (hb.block _ h1.lt).trans h1, h2⟩); have S8 : Hid (∃ cur, Blk w8 w4.heap.size 56 cur ∧ cur.size = 6400) := (by obtain ⟨cur, h1, h2⟩ := S7.out; exact ⟨cur, (hb.block _ h1.lt).trans h1, h2⟩); have bb8 : Hid (Below w.heap.size w w8) := bb7.out.trans (hb.mono bb7.out.size); have b38 : Hid (Below w3.heap.size w3 w8) := b37.out.trans (hb.mono b37.out.size); clear hb hk8 hB8 C7 B7 S7 bb7 b37; generalize w7.heap.size = g12 at *)
    | ((with_reducible change wpList _ _ _ (⟨some 68, _, _, _, _, _⟩ :: _) _ _); obtain ⟨cur, hcur, hcs⟩ := B8.out; refine Book.wpList_copy_intoN (o := ⟨some 68, _, _, _, _, _⟩) rfl (.tmp 66) (.tmp 67) 31 31 rfl 5 1 Tryz.underlying31 size1u Aq 4096 4096 k cq w3.heap.size 0 rfl rfl cur 5 hcur k hmn.out (cells8 q) hc8.out (hRq.out w8 bb8.out) rfl (by decide) (by rw [hc8.out]; have := hkl.out.1; omega) (cells8_one _) ?_; intro w9 hG9 hk9; obtain ⟨X9, hX9⟩ : ∃ X9, X9 = (cur.toList.take 0 ++ cells8 q ++ cur.toList.drop (0 + (cells8 q).length)).toArray := ⟨_, rfl⟩; have X9' : Hid (Blk w9 w3.heap.size 5 X9) := (by show Blk _ _ _ _; rw [hX9]; exact hG9.out); have hRX : Hid (∀ w', Blk w' w3.heap.size 5 X9 → Reads w' 1 (some ⟨w3.heap.size, 0, none⟩) k (cells8 q)) := (fun w' hb => by rw [hX9] at hb; exact over_reads hb hc8.out); have hXs : Hid (X9.size = 4096) := (by show _ = _; rw [hX9]; exact (over_size (by rw [hc8.out]; have := hkl.out.1; omega)).trans hcs); have bb9 : Hid (Below w.heap.size w w9) := bb8.out.trans (Kept.below_of hk9 bb3.out.size bb8.out.size); have b39 : Hid (Below w3.heap.size w3 w9) := b38.out.trans (Kept.below_of hk9 (Nat.le_refl _) b38.out.size); have C9 : Hid (Blk w9 g10 58 X.toArray) := Blk.kept C8.out hk9 (fun e => by have := hl10.out; have := hg34.out; omega); have P9 : Hid (Blk w9 g12 39 (noteCells x.h (.slice x.A m x.c)).toArray) := Blk.kept P8.out hk9 (fun e => by have := hg7.out; have := hg34.out; omega); have N9 : Hid (NoteAt w9 g12 x.h x.A m x.c (x.ss.take m)) := ⟨P9.out, (hxo.out.sgs.below bb9.out).take_ m hm.out.2⟩; have r9 := N9.out.row ok'.out; have S9 : Hid (∃ cur, Blk w9 w4.heap.size 56 cur ∧ cur.size = 6400) := (by obtain ⟨cu, h1, h2⟩ := S8.out; exact ⟨cu, Blk.kept h1 hk9 (fun e => by have := hg34.out; omega), h2⟩); clear hcur hcs hG9 hk9 hX9 C8 P8 P9 B8 S8 bb8 b38)
    | ((with_reducible change wpList _ _ _ (⟨some 72, _, _, _, _, _⟩ :: _) _ _); obtain ⟨cur, hcur, hcs⟩ := S9.out; have hsl : ((x.ss.take m).flatMap cells8).length = m * 64 := (by rw [flat_len _ (N9.out.sgs.all), N9.out.sgs.len]); refine Book.wpList_copy_intoN (o := ⟨some 72, _, _, _, _, _⟩) rfl (.tmp 69) (.tmp 71) 37 37 rfl 56 64 Tryz.underlying37 size64t x.A 100 100 m x.c w4.heap.size 0 rfl rfl cur 56 hcur m (Nat.min_eq_left hm.out.1) ((x.ss.take m).flatMap cells8) hsl N9.out.sgs.rd rfl (by decide) (by rw [hsl, hcs]; have := hm.out.1; omega) (one_signs _) ?_; intro wJ hGJ hkJ; obtain ⟨Y9, hY9⟩ : ∃ Y9, Y9 = (cur.toList.take 0 ++ (x.ss.take m).flatMap cells8 ++ cur.toList.drop (0 + ((x.ss.take m).flatMap cells8).length)).toArray := ⟨_, rfl⟩; have YJ : Hid (Blk wJ w4.heap.size 56 Y9) := (by show Blk _ _ _ _; rw [hY9]; exact hGJ.out); have hRY : Hid (∀ w', Blk w' w4.heap.size 56 Y9 → Sgs w' (some ⟨w4.heap.size, 0, none⟩) m (x.ss.take m)) := (fun w' hb => by rw [hY9] at hb; exact ⟨N9.out.sgs.len, N9.out.sgs.all, over_reads hb hsl⟩); have hYs : Hid (Y9.size = 6400) := (by show _ = _; rw [hY9]; exact (over_size (by rw [hsl, hcs]; have := hm.out.1; omega)).trans hcs); have bbJ : Hid (Below w.heap.size w wJ) := bb9.out.trans (Kept.below_of hkJ (Nat.le_trans bb3.out.size (Nat.le_of_lt hg34.out)) bb9.out.size); have b3J : Hid (Below w3.heap.size w3 wJ) := b39.out.trans (Kept.below_of hkJ (Nat.le_of_lt hg34.out) b39.out.size); have CJ : Hid (Blk wJ g10 58 X.toArray) := Blk.kept C9.out hkJ (fun e => by have := hl10.out; omega); have NJ : Hid (NoteAt wJ g12 x.h x.A m x.c (x.ss.take m)) := ⟨Blk.kept N9.out.blk hkJ (fun e => by have := hg7.out; omega), (hxo.out.sgs.below bbJ.out).take_ m hm.out.2⟩; have XJ : Hid (Blk wJ w3.heap.size 5 X9) := Blk.kept X9'.out hkJ (fun e => by have := hg34.out; omega); clear hcur hcs hGJ hkJ hY9 C9 N9 X9' S9 bb9 b39 r9 hsl; try go_simp))

            have hT := run_headS (A := some ⟨w4.heap.size, 0, none⟩) (n := 100) (c := 100) (k := m) hm.out.1 (m : Int) rfl
            have FN := Lib.hid (fitN ok'.out (some ⟨w4.heap.size, 0, none⟩) m 100)
            have hm6 : (m : Int) ≤ 100 := by have := hm.out.1; omega
            have hm60 : (0 : Int) ≤ (m : Int) := by omega
            go_cut [13] from 73 to 81 (fun v wx => ∃ g13 : Nat, v = .pointer (some ⟨g13, 0, none⟩) ∧ Hid (Blk wx g13 39 (noteCells x.h (.slice (some ⟨w4.heap.size, 0, none⟩) m 100)).toArray) ∧ Hid (Below wJ.heap.size wJ wx))
            case first =>
              have s0 : Hid (Below wJ.heap.size wJ wJ.drew) := (Below.refl _ _).drew
              refine held_start (fun w' => Below wJ.heap.size wJ w') 10 rfl (by kernel_rfl) ?_
              refine Held.tk0 (i := 0) (v := .pointer (some ⟨g12, 0, none⟩)) rfl s0.out (fun w' hw' => by go_simp) ?_
              (intro K k; go_simp; apply k; clear k K)
              refine Held.tk0 (i := 1) (v := .agg (headCells x.h).toArray) rfl s0.out (fun w' hw' => exec_part 36 (.tmp 73) rfl (g12) (0) rfl (headCells x.h) _ ((NJ.out.below hw').head) Tryz.underlying36 rfl hsz.out) ?_
              (intro K k; go_simp; apply k; clear k K)
              refine Held.tk0 (i := 2) (v := .slice (some ⟨w4.heap.size, 0, none⟩) 100 100) rfl s0.out (fun w' hw' => run_mv (.tmp 8) rfl w') ?_
              (intro K k; go_simp; apply k; clear k K)
              refine Held.tk0 (i := 3) (v := .pointer (some ⟨g12, 98, none⟩)) rfl s0.out (fun w' hw' => by go_simp) ?_
              (intro K k; go_simp; apply k; clear k K)
              refine Held.tk0 (i := 4) (v := .slice x.A m x.c) rfl s0.out (fun w' hw' => by have kc' := (NJ.out.below hw').row ok'.out; go_simp) ?_
              (intro K k; go_simp; apply k; clear k K)
              refine Held.tk0 (i := 5) (v := .int .i64 (m : Int)) rfl s0.out (fun w' hw' => by go_simp) ?_
              (intro K k; go_simp; apply k; clear k K)
              refine Held.tk0 (i := 6) (v := .slice (some ⟨w4.heap.size, 0, none⟩) m 100) rfl s0.out (fun w' hw' => by go_simp) ?_
              (intro K k; go_simp; apply k; clear k K)
              refine Held.tk0 (i := 7) (v := .agg (noteCells x.h (.slice (some ⟨w4.heap.size, 0, none⟩) m 100)).toArray) rfl s0.out (fun w' hw' => exec_build 39 #[(0, .tmp 74), (1, .tmp 79)] rfl #[(0, .agg (headCells x.h).toArray), (1, .slice (some ⟨w4.heap.size, 0, none⟩) m 100)] (by simp; exact ⟨rfl, rfl⟩) _ (run_note ok'.out _ m 100 w')) ?_
              (intro K k; go_simp; apply k; clear k K)
              refine held_only (i := 8) rfl (by kernel_rfl) (by rfl) (fun K hK => ?_)
              have h5 := Lib.hid (s0.out.alloc s0.out.size (.cells Z99 39))
              have bb : Hid (Blk (wJ.drew.alloc (.cells Z99 39)) wJ.heap.size 39 Z99) := Blk.new _ _ _
              go_simp
              refine hK _ _ h5.out ?_
              clear hK K
              refine held_only (i := 9) rfl (by kernel_rfl) (by rfl) (fun K hK => ?_)
              refine wp_store_whole 39 (.tmp 13) (.tmp 80) rfl (wJ.heap.size) ((noteCells x.h (.slice (some ⟨w4.heap.size, 0, none⟩) m 100)).toArray) rfl rfl 39 (Z99) (bb.out) FN.out.size FN.out.zero FN.out.one ?_
              intro w99 B9 k9
              have b9 : Hid (Below wJ.heap.size wJ w99) := h5.out.trans (Kept.below_of k9 (s0.out.size) h5.out.size)
              go_simp
              refine hK _ _ b9.out ?_
              clear hK K
              refine held_end (by kernel_rfl) ?_
              go_wp2_with fail
              go_meet
              case rel => exact ⟨_, rfl, B9, b9.out⟩
            case rest =>
            obtain ⟨g13, rfl, hQ, hcb⟩ := hcut
            obtain ⟨wK, rfl⟩ : ∃ wK, wK = wc := ⟨_, rfl⟩
            have CK := Lib.hid ((hcb.out.block _ CJ.out.lt).trans CJ.out : wK.heap[g10]? = _)
            have CK' : Hid (Blk wK g10 58 X.toArray) := CK.out
            have NK := Lib.hid (NJ.out.below hcb.out)
            have XK : Hid (Blk wK w3.heap.size 5 X9) := (hcb.out.block _ XJ.out.lt).trans XJ.out
            have YK : Hid (Blk wK w4.heap.size 56 Y9) := (hcb.out.block _ YJ.out.lt).trans YJ.out
            have QK : Hid (NoteAt wK g13 x.h (some ⟨w4.heap.size, 0, none⟩) m 100 (x.ss.take m)) := ⟨hQ.out, hRY.out wK YK.out⟩
            have bbK : Hid (Below w.heap.size w wK) := bbJ.out.trans (hcb.out.mono bbJ.out.size)
            have b3K : Hid (Below w3.heap.size w3 wK) := b3J.out.trans (hcb.out.mono b3J.out.size)
            have hT8 := run_front8 (A := some ⟨w3.heap.size, 0, none⟩) (n := 4096) (c := 4096) (m := k) hkl.out.1 (k : Int) rfl
            have hPl : Hid (∀ w', Class wK w' → Calls Tryz.prog 17 #[.agg X.toArray, .agg (noteCells x.h (.slice (some ⟨w4.heap.size, 0, none⟩) m 100)).toArray, .slice (some ⟨w3.heap.size, 0, none⟩) k 4096, v5, .slice Ap N cp] w' fun e w'' => e = .returned (.bool true) ∧ Class wK w'') := fun w' hw' => by
              have hbw := bbK.out.trans (hw'.below.mono bbK.out.size)
              have hb3 := b3K.out.trans (hw'.below.mono b3K.out.size)
              have hX' : Blk w' w3.heap.size 5 X9 := (hw'.below.block _ XK.out.lt).trans XK.out
              refine (plays_any X.toArray x.h ok'.out (x.ss.take m) m hm.out.1 (some ⟨w4.heap.size, 0, none⟩) 100 (fun e => by cases e) q k hk.out (by have := hkl.out.1; omega) (some ⟨w3.heap.size, 0, none⟩) 4096 hkl.out.1 (fun e => by cases e) v5 Ap N cp w' (hBs.out w' hbw) (QK.out.below hw'.below).sgs (hRX.out w' hX') x.kind x.least x.nm hxo.out.nm x.s hxo.out.sl (by rw [List.getElem?_toArray]; exact x0.out) (by rw [List.getElem?_toArray]; exact x1.out) (by rw [List.getElem?_toArray]; exact x103.out) (fun j u hu => by rw [List.getElem?_toArray]; exact x104.out j u hu) ?_).mono fun e w'' ⟨he, hb⟩ => ⟨he, hw'.next hb⟩
              rcases hvr.out with e | ⟨R, e, hA⟩
              · exact .inl e
              · exact .inr ⟨R, e, fun w'' hb => hA w'' (hb3.trans (hb.mono hb3.size))⟩
            have hSm : Hid (∀ w', Class wK w' → Calls Tryz.prog 18 #[.slice (some ⟨w3.heap.size, 0, none⟩) k 4096, .slice Aq k cq] w' fun e w'' => e = .returned (.bool true) ∧ Class wK w'') := fun w' hw' => by
              have hX' : Blk w' w3.heap.size 5 X9 := (hw'.below.block _ XK.out.lt).trans XK.out
              exact (same_any q k hk.out (by have := hkl.out.1; omega) (some ⟨w3.heap.size, 0, none⟩) Aq 4096 cq w' (hRX.out w' hX') (hRq.out w' (bbK.out.trans (hw'.below.mono bbK.out.size)))).mono fun e w'' ⟨he, n, hw⟩ => ⟨he, hw'.next (by rw [hw]; exact below_drawn (Below.refl _ _) n)⟩
            have hSn : Hid (∀ w', Class wK w' → Calls Tryz.prog 19 #[.agg (noteCells x.h (.slice (some ⟨w4.heap.size, 0, none⟩) m 100)).toArray, .agg (noteCells x.h (.slice x.A m x.c)).toArray] w' fun e w'' => e = .returned (.bool true) ∧ Class wK w'') := fun w' hw' =>
              (sameNotes_any x.h ok'.out (x.ss.take m) m (by have := hm.out.1; omega) (some ⟨w4.heap.size, 0, none⟩) x.A 100 x.c w' (QK.out.below hw'.below).sgs (NK.out.below hw'.below).sgs).mono fun e w'' ⟨he, hb⟩ => ⟨he, hw'.next hb⟩
            clear hQ hcb CK NJ CJ XJ YJ bbJ b3J hT
            go_upto_region 21 with fail
            refine q_region (Class wK) (by kernel_rfl) (by kernel_rfl) (Class.mk_ ((Below.refl _ _).drew)) ?_
            refine q_row rfl 58 (.tmp 10) rfl g10 rfl 58 (X.toArray) (0, 0) _ (fun w' hw' => ((hw'.below.block _ CK'.out.lt).trans CK'.out)) Tryz.underlying58 rfl z1.out ?_
            (intro K k; go_simp; apply k; clear k K)
            refine q_row rfl 39 (.tmp 13) rfl g13 rfl 39 ((noteCells x.h (.slice (some ⟨w4.heap.size, 0, none⟩) m 100)).toArray) (0, 0) _ (fun w' hw' => (QK.out.below hw'.below).blk) Tryz.underlying39 rfl (zN.out _) ?_
            (intro K k; go_simp; apply k; clear k K)
            refine q_move rfl (.tmp 7) rfl ?_
            (intro K k; go_simp; apply k; clear k K)
            refine q_move rfl (.tmp 11) rfl ?_
            (intro K k; go_simp; apply k; clear k K)
            refine Want.qv0 (.int .i64 (k : Int)) ?_
            (intro K k; go_simp; apply k; clear k K)
            refine Want.qv0 (.slice (some ⟨w3.heap.size, 0, none⟩) k 4096) ?_
            (intro K k; go_simp; apply k; clear k K)
            refine q_move rfl (.tmp 5) rfl ?_
            (intro K k; go_simp; apply k; clear k K)
            refine q_move rfl (.tmp 0) rfl ?_
            (intro K k; go_simp; apply k; clear k K)
            refine q_fn (v := .bool true) (args := #[.agg X.toArray, .agg (noteCells x.h (.slice (some ⟨w4.heap.size, 0, none⟩) m 100)).toArray, .slice (some ⟨w3.heap.size, 0, none⟩) k 4096, v5, .slice Ap N cp]) rfl _ _ rfl rfl Tryz.func17 (by kernel_rfl) (by kernel_rfl) (fun w' hw' => (hPl.out w' hw')) ?_
            (intro K k; go_simp; apply k; clear k K)
            refine Want.qv0 (.bool false) ?_
            (intro K k; go_simp; apply k; clear k K)
            refine Want.qv0 (.bool false) ?_
            (intro K k; go_simp; apply k; clear k K)
            refine q_move rfl (.tmp 7) rfl ?_
            (intro K k; go_simp; apply k; clear k K)
            refine q_move rfl (.tmp 11) rfl ?_
            (intro K k; go_simp; apply k; clear k K)
            refine Want.qv0 (.int .i64 (k : Int)) ?_
            (intro K k; go_simp; apply k; clear k K)
            refine Want.qv0 (.slice (some ⟨w3.heap.size, 0, none⟩) k 4096) ?_
            (intro K k; go_simp; apply k; clear k K)
            refine q_move rfl (.tmp 11) rfl ?_
            (intro K k; go_simp; apply k; clear k K)
            refine q_fn (v := .bool true) (args := #[.slice (some ⟨w3.heap.size, 0, none⟩) k 4096, .slice Aq k cq]) rfl _ _ rfl rfl Tryz.func18 (by kernel_rfl) (by kernel_rfl) (fun w' hw' => (hSm.out w' hw')) ?_
            (intro K k; go_simp; apply k; clear k K)
            refine Want.qv0 (.bool false) ?_
            (intro K k; go_simp; apply k; clear k K)
            refine Want.qv0 (.bool false) ?_
            (intro K k; go_simp; apply k; clear k K)
            refine Want.qv0 (.bool false) ?_
            (intro K k; go_simp; apply k; clear k K)
            refine q_row rfl 39 (.tmp 13) rfl g13 rfl 39 ((noteCells x.h (.slice (some ⟨w4.heap.size, 0, none⟩) m 100)).toArray) (0, 0) _ (fun w' hw' => (QK.out.below hw'.below).blk) Tryz.underlying39 rfl (zN.out _) ?_
            (intro K k; go_simp; apply k; clear k K)
            refine q_row rfl 39 (.tmp 12) rfl g12 rfl 39 ((noteCells x.h (.slice x.A m x.c)).toArray) (0, 0) _ (fun w' hw' => (NK.out.below hw'.below).blk) Tryz.underlying39 rfl (zN.out _) ?_
            (intro K k; go_simp; apply k; clear k K)
            refine q_fn (v := .bool true) (args := #[.agg (noteCells x.h (.slice (some ⟨w4.heap.size, 0, none⟩) m 100)).toArray, .agg (noteCells x.h (.slice x.A m x.c)).toArray]) rfl _ _ rfl rfl Tryz.func19 (by kernel_rfl) (by kernel_rfl) (fun w' hw' => (hSn.out w' hw')) ?_
            (intro K k; go_simp; apply k; clear k K)
            refine Want.qv0 (.bool false) ?_
            (intro K k; go_simp; apply k; clear k K)
            refine Want.qv0 (.bool false) ?_
            (intro K k; go_simp; apply k; clear k K)
            refine q_nil ?_
            intro wZ hwZ
            have b7 : Hid (Below w3.heap.size w3 wZ) := b3K.out.trans (hwZ.below.mono b3K.out.size)
            have X7 : Hid (Blk wZ w3.heap.size 5 X9) := (hwZ.below.block _ XK.out.lt).trans XK.out
            have Y7 : Hid (Blk wZ w4.heap.size 56 Y9) := (hwZ.below.block _ YK.out.lt).trans YK.out
            clear hwZ
            go_wp2_with fail
            go_roundw
            case rel => exact ⟨i + 1, by go_num, hlt'.out, b7.out, ⟨_, X7.out, hXs.out⟩, ⟨_, Y7.out, hYs.out⟩⟩
            case measure => (have := hlt'.out; simp [intOf]; omega)
          · have hz1 : ¬ ((i : Int) < 100) := by omega
            clear hlt hl1
            go_wp2_with fail
            go_ret
            exact ⟨rfl, bbr.out⟩
        · have hz : ¬ ((i : Int) < (na : Int)) := by omega
          clear hlt
          go_wp2_with fail
          go_ret
          exact ⟨rfl, bbr.out⟩
end Go.Proofs.YtfbhjoejffagjaaGreatDoor.HeadAgain
