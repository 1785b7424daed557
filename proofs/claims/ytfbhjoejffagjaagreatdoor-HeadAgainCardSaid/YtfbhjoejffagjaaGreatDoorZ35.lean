/-
  Texts of the claim, put into one file: RefNote.
-/
import Derived.Test.YtfbhjoejffagjaaGreatDoorZ30
import Derived.Test.YtfbhjoejffagjaaGreatDoorZ33
import Derived.Test.YtfbhjoejffagjaaGreatDoorZ15

namespace Go.Proofs.YtfbhjoejffagjaaGreatDoor.RefNote
open Go Go.RowKit Go.Proofs.YtfbhjoejffagjaaGreatDoor Mem Sha Bytes SortP NoteP Rise Go.Proofs.YtfbhjoejffagjaaGreatDoor.Append Own SgM EncNoteP EncNote RefRising HeadMem

theorem sgs_key {w : World} {g n i : Nat} {rs : List Text} {x : Text} (h : Sgs w (some ⟨g, 0, none⟩) n rs) (hx : rs[i]? = some x) : Reads w 1 (some ⟨g, i * 64, none⟩) 32 (cells8 (kyS x)) := by
 obtain ⟨b, o, e, hb, hc⟩ := h.at_ hx
 injection e with e
 injection e with e1 e2
 subst e1 e2
 have hl := h.all x (List.mem_of_getElem? hx)
 refine ⟨by rw [cells8_len, kyS_len hl], fun _ => ⟨g, i * 64, rfl, hb, fun j u hu => ?_⟩⟩
 have := hc (0 + j) u (ky_cell hu)
 rwa [Nat.zero_add, Nat.zero_add] at this
theorem sgs_tag {w : World} {g n i : Nat} {rs : List Text} {x : Text} (h : Sgs w (some ⟨g, 0, none⟩) n rs) (hx : rs[i]? = some x) : Reads w 1 (some ⟨g, i * 64 + 32, none⟩) 32 (cells8 (tgS x)) := by
 obtain ⟨b, o, e, hb, hc⟩ := h.at_ hx
 injection e with e
 injection e with e1 e2
 subst e1 e2
 have hl := h.all x (List.mem_of_getElem? hx)
 refine ⟨by rw [cells8_len, tgS_len hl], fun _ => ⟨g, i * 64 + 32, rfl, hb, fun j u hu => ?_⟩⟩
 have := hc (32 + j) u (tg_cell hu)
 rwa [Nat.zero_add, ← Nat.add_assoc] at this
theorem cnt_row (n : Nat) (h : n ≤ 16) : (#[Value.int .u8 (n : Int)] : Array Value).toList = cells8 [BitVec.ofNat 8 n] := by
 show [Value.int .u8 (n : Int)] = [Value.int .u8 (b8 (BitVec.ofNat 8 n))]
 rw [b8_cnt h]
theorem own_one (w : World) (u : Value) (q : Text) (hq : (#[u] : Array Value).toList = cells8 q) : (w.alloc (.cells #[u] 5)).ownsRow w.heap.size 5 1 (.slice (some ⟨w.heap.size, 0, none⟩) 1 1) 1 (cells8 q) := by
 have := own_new w w.heap.size (Nat.le_refl _) 5 #[u] 1 rfl (by unfold maxLen; omega)
 rw [hq] at this
 exact this

set_option maxRecDepth 100000 in
set_option maxHeartbeats 2000000 in
theorem refnote_wrong (h : HeadD) (ok : h.Ok) (ss : List Text) (n : Nat) (hrB : Hid (rightB h = false)) (A : Option Addr) (c : Nat) (w : World) (hS : Sgs w A n ss) :
  Calls Tryz.prog 36 #[.agg (noteCells h (.slice A n c)).toArray] w fun e w' => e = .returned (.tuple #[.slice none 0 0, .int .i64 1]) ∧ Below w.heap.size w w' := by
 have hb0 : Hid (Below w.heap.size w (w.alloc (.cells (noteCells h (.slice A n c)).toArray 39))) := Below.heap_below w _
 have hN0 : Hid (NoteAt (w.alloc (.cells (noteCells h (.slice A n c)).toArray 39)) w.heap.size h A n c ss) := NoteAt.new hS
 have hsz : Hid ((Tryz.prog.info? 36).map (·.size) = some (headCells h).length) := by show _ = _; rw [headCells_len ok]; exact size98
 have hz : Hid ((w.alloc (.cells (noteCells h (.slice A n c)).toArray 39)).heap.size = w.heap.size + 1) := by show _ = _; simp
 have hR0 : (w.alloc (.cells (noteCells h (.slice A n c)).toArray 39)).cell? ⟨w.heap.size, 98, none⟩ = some (.slice A n c) := hN0.out.row ok
 have ok' := Lib.hid ok
 clear ok hS
 go_enter Tryz.func36, Tryz.ntmps36
 go_wp2_with (first
  | (((with_reducible change wpList _ _ _ (⟨some 12, _, _, _, _, _⟩ :: _) _ _); refine wpList_load_part (o := ⟨some 12, _, _, _, _, _⟩) rfl 36 (.tmp 11) rfl (w.heap.size) (0) rfl (headCells h) _ hN0.out.head Tryz.underlying36 rfl hsz.out ?_))
  | (go_at_call 35; refine (RefHead.refHead_no h ok'.out hrB.out _).mono ?_; rintro e w2 ⟨rfl, hb2⟩; have hN2 := Lib.hid (hN0.out.below hb2); have hR2 := hN2.out.row ok'.out; have hbb : Hid (Below w.heap.size w w2) := hb0.out.trans (hb2.mono (by rw [hz.out]; omega)); clear hb2))
 go_ret2
 exact ⟨rfl, hbb.out⟩

set_option maxRecDepth 100000 in
set_option maxHeartbeats 2000000 in
theorem refnote_none (h : HeadD) (ok : h.Ok) (ss : List Text) (n : Nat) (hrB : Hid (rightB h = true)) (h0 : n = 0) (A : Option Addr) (c : Nat) (w : World) (hS : Sgs w A n ss) :
  Calls Tryz.prog 36 #[.agg (noteCells h (.slice A n c)).toArray] w fun e w' => e = .returned (.tuple #[.slice none 0 0, .int .i64 7]) ∧ Below w.heap.size w w' := by
 have hb0 : Hid (Below w.heap.size w (w.alloc (.cells (noteCells h (.slice A n c)).toArray 39))) := Below.heap_below w _
 have hN0 : Hid (NoteAt (w.alloc (.cells (noteCells h (.slice A n c)).toArray 39)) w.heap.size h A n c ss) := NoteAt.new hS
 have hsz : Hid ((Tryz.prog.info? 36).map (·.size) = some (headCells h).length) := by show _ = _; rw [headCells_len ok]; exact size98
 have hz : Hid ((w.alloc (.cells (noteCells h (.slice A n c)).toArray 39)).heap.size = w.heap.size + 1) := by show _ = _; simp
 have hR0 : (w.alloc (.cells (noteCells h (.slice A n c)).toArray 39)).cell? ⟨w.heap.size, 98, none⟩ = some (.slice A n c) := hN0.out.row ok
 have ok' := Lib.hid ok
 clear ok hS
 subst h0
 go_enter Tryz.func36, Tryz.ntmps36
 go_wp2_with (first
  | (((with_reducible change wpList _ _ _ (⟨some 12, _, _, _, _, _⟩ :: _) _ _); refine wpList_load_part (o := ⟨some 12, _, _, _, _, _⟩) rfl 36 (.tmp 11) rfl (w.heap.size) (0) rfl (headCells h) _ hN0.out.head Tryz.underlying36 rfl hsz.out ?_))
  | (go_at_call 35; refine (RefHead.refHead_yes h ok'.out hrB.out _).mono ?_; rintro e w2 ⟨v2, rfl, hb2, ho2⟩; obtain ⟨A4, c4, rfl, -, -, hn4, -, -⟩ := Own.reads ho2; replace ho2 := Lib.hid ho2; replace hn4 := Lib.hid hn4; have hN2 := Lib.hid (hN0.out.below hb2); have hR2 := hN2.out.row ok'.out; have hbb : Hid (Below w.heap.size w w2) := hb0.out.trans (hb2.mono (by rw [hz.out]; omega)); clear hb2))
 go_ret2
 exact ⟨rfl, hbb.out⟩

set_option maxRecDepth 100000 in
set_option maxHeartbeats 2000000 in
theorem refnote_many (h : HeadD) (ok : h.Ok) (ss : List Text) (n : Nat) (hrB : Hid (rightB h = true)) (h16 : 16 < n) (A : Option Addr) (c : Nat) (w : World) (hS : Sgs w A n ss) :
  Calls Tryz.prog 36 #[.agg (noteCells h (.slice A n c)).toArray] w fun e w' => e = .returned (.tuple #[.slice none 0 0, .int .i64 7]) ∧ Below w.heap.size w w' := by
 have hb0 : Hid (Below w.heap.size w (w.alloc (.cells (noteCells h (.slice A n c)).toArray 39))) := Below.heap_below w _
 have hN0 : Hid (NoteAt (w.alloc (.cells (noteCells h (.slice A n c)).toArray 39)) w.heap.size h A n c ss) := NoteAt.new hS
 have hsz : Hid ((Tryz.prog.info? 36).map (·.size) = some (headCells h).length) := by show _ = _; rw [headCells_len ok]; exact size98
 have hz : Hid ((w.alloc (.cells (noteCells h (.slice A n c)).toArray 39)).heap.size = w.heap.size + 1) := by show _ = _; simp
 have hR0 : (w.alloc (.cells (noteCells h (.slice A n c)).toArray 39)).cell? ⟨w.heap.size, 98, none⟩ = some (.slice A n c) := hN0.out.row ok
 have ok' := Lib.hid ok
 clear ok hS
 have x1 : ((n : Int) < 1) = False := eq_false (by omega)
 have x2 : (16 : Int) < (n : Int) := by omega
 clear h16
 go_enter Tryz.func36, Tryz.ntmps36
 go_wp2_with (first
  | (((with_reducible change wpList _ _ _ (⟨some 12, _, _, _, _, _⟩ :: _) _ _); refine wpList_load_part (o := ⟨some 12, _, _, _, _, _⟩) rfl 36 (.tmp 11) rfl (w.heap.size) (0) rfl (headCells h) _ hN0.out.head Tryz.underlying36 rfl hsz.out ?_))
  | (go_at_call 35; refine (RefHead.refHead_yes h ok'.out hrB.out _).mono ?_; rintro e w2 ⟨v2, rfl, hb2, ho2⟩; obtain ⟨A4, c4, rfl, -, -, hn4, -, -⟩ := Own.reads ho2; replace ho2 := Lib.hid ho2; replace hn4 := Lib.hid hn4; have hN2 := Lib.hid (hN0.out.below hb2); have hR2 := hN2.out.row ok'.out; have hbb : Hid (Below w.heap.size w w2) := hb0.out.trans (hb2.mono (by rw [hz.out]; omega)); clear hb2))
 go_ret2
 exact ⟨rfl, hbb.out⟩

set_option maxRecDepth 100000 in
set_option maxHeartbeats 2000000 in
theorem refnote_twice (h : HeadD) (ok : h.Ok) (ss : List Text) (n : Nat) (hrB : Hid (rightB h = true)) (h0 : 0 < n) (h16 : n ≤ 16) (hri0 : Hid (rising kyS ss = none)) (A : Option Addr) (c : Nat) (w : World) (hS : Sgs w A n ss) :
  Calls Tryz.prog 36 #[.agg (noteCells h (.slice A n c)).toArray] w fun e w' => e = .returned (.tuple #[.slice none 0 0, .int .i64 92]) ∧ Below w.heap.size w w' := by
 have hb0 : Hid (Below w.heap.size w (w.alloc (.cells (noteCells h (.slice A n c)).toArray 39))) := Below.heap_below w _
 have hN0 : Hid (NoteAt (w.alloc (.cells (noteCells h (.slice A n c)).toArray 39)) w.heap.size h A n c ss) := NoteAt.new hS
 have hsz : Hid ((Tryz.prog.info? 36).map (·.size) = some (headCells h).length) := by show _ = _; rw [headCells_len ok]; exact size98
 have hz : Hid ((w.alloc (.cells (noteCells h (.slice A n c)).toArray 39)).heap.size = w.heap.size + 1) := by show _ = _; simp
 have hR0 : (w.alloc (.cells (noteCells h (.slice A n c)).toArray 39)).cell? ⟨w.heap.size, 98, none⟩ = some (.slice A n c) := hN0.out.row ok
 have ok' := Lib.hid ok
 clear ok hS
 have x1 : ((n : Int) < 1) = False := eq_false (by omega)
 have x2 : ((16 : Int) < (n : Int)) = False := eq_false (by omega)
 have hn0 := Lib.hid h0
 have hn16 := Lib.hid h16
 clear h0 h16
 go_enter Tryz.func36, Tryz.ntmps36
 go_wp2_with (first
  | (((with_reducible change wpList _ _ _ (⟨some 12, _, _, _, _, _⟩ :: _) _ _); refine wpList_load_part (o := ⟨some 12, _, _, _, _, _⟩) rfl 36 (.tmp 11) rfl (w.heap.size) (0) rfl (headCells h) _ hN0.out.head Tryz.underlying36 rfl hsz.out ?_))
  | (go_at_call 35; refine (RefHead.refHead_yes h ok'.out hrB.out _).mono ?_; rintro e w2 ⟨v2, rfl, hb2, ho2⟩; obtain ⟨A4, c4, rfl, -, -, hn4, -, -⟩ := Own.reads ho2; replace ho2 := Lib.hid ho2; replace hn4 := Lib.hid hn4; have hN2 := Lib.hid (hN0.out.below hb2); have hR2 := hN2.out.row ok'.out; have hbb : Hid (Below w.heap.size w w2) := hb0.out.trans (hb2.mono (by rw [hz.out]; omega)); clear hb2)
  | (go_at_call 62; refine (refrising_any ss n (by have := hn16.out; omega) A c w2 hN2.out.sgs).mono ?_; rw [hri0.out]; rintro e w3 ⟨v3, rfl, hb3, hP3⟩; have hbc : Hid (Below w.heap.size w w3) := hbb.out.trans (hb3.mono hbb.out.size); obtain rfl : v3 = .slice none 0 0 := hP3; simp only [Option.isNone_none]; clear hb3))
 go_ret2
 exact ⟨rfl, hbc.out⟩

set_option maxRecDepth 100000 in
set_option maxHeartbeats 2000000 in
theorem refnote_yes (h : HeadD) (ok : h.Ok) (ss : List Text) (n : Nat) (hrB : Hid (rightB h = true)) (h0 : 0 < n) (h16 : n ≤ 16) (rs : List Text) (hri0 : Hid (rising kyS ss = some rs)) (A : Option Addr) (c : Nat) (w : World) (hS : Sgs w A n ss) :
  Calls Tryz.prog 36 #[.agg (noteCells h (.slice A n c)).toArray] w fun e w' => ∃ v, e = .returned (.tuple #[v, .int .i64 0]) ∧ Below w.heap.size w w' ∧ w'.ownsRow w.heap.size 5 1 v (115 + 64 * n) (cells8 (noteB h rs)) := by
 have hb0 : Hid (Below w.heap.size w (w.alloc (.cells (noteCells h (.slice A n c)).toArray 39))) := Below.heap_below w _
 have hN0 : Hid (NoteAt (w.alloc (.cells (noteCells h (.slice A n c)).toArray 39)) w.heap.size h A n c ss) := NoteAt.new hS
 have hsz : Hid ((Tryz.prog.info? 36).map (·.size) = some (headCells h).length) := by show _ = _; rw [headCells_len ok]; exact size98
 have hz : Hid ((w.alloc (.cells (noteCells h (.slice A n c)).toArray 39)).heap.size = w.heap.size + 1) := by show _ = _; simp
 have hR0 : (w.alloc (.cells (noteCells h (.slice A n c)).toArray 39)).cell? ⟨w.heap.size, 98, none⟩ = some (.slice A n c) := hN0.out.row ok
 have ok' := Lib.hid ok
 clear ok hS
 obtain ⟨i0, ii, iz0, iz1, iz2⟩ := info_parts8 info8
 have x1 : ((n : Int) < 1) = False := eq_false (by omega)
 have x2 : ((16 : Int) < (n : Int)) = False := eq_false (by omega)
 have hn0 := Lib.hid h0
 have hn16 := Lib.hid h16
 clear h0 h16
 have x3 : IntKind.u8.wrap (n : Int) = (n : Int) := by have := hn16.out; simp [IntKind.wrap, IntKind.bits, IntKind.signed]; omega
 have hl1 : Hid (([33] ++ headBytes h : Text).length = 114) := by show _ = _; simp [headBytes_len ok'.out]
 have a1 : Hid (1 + 113 ≤ maxLen) := by show _ ≤ _; unfold maxLen; omega
 have a2 : Hid ((1 + 113) * 1 ≤ 140737488355328) := by show _ ≤ _; omega
 have a3 : Hid (114 + 1 ≤ maxLen) := by show _ ≤ _; unfold maxLen; omega
 have a4 : Hid ((114 + 1) * 1 ≤ 140737488355328) := by show _ ≤ _; omega
 go_enter Tryz.func36, Tryz.ntmps36
 go_wp2_with (first
  | (((with_reducible change wpList _ _ _ (⟨some 12, _, _, _, _, _⟩ :: _) _ _); refine wpList_load_part (o := ⟨some 12, _, _, _, _, _⟩) rfl 36 (.tmp 11) rfl (w.heap.size) (0) rfl (headCells h) _ hN0.out.head Tryz.underlying36 rfl hsz.out ?_))
  | (go_at_call 35; refine (RefHead.refHead_yes h ok'.out hrB.out _).mono ?_; rintro e w2 ⟨v2, rfl, hb2, ho2⟩; obtain ⟨A4, c4, rfl, -, -, hn4, -, -⟩ := Own.reads ho2; replace ho2 := Lib.hid ho2; replace hn4 := Lib.hid hn4; have hN2 := Lib.hid (hN0.out.below hb2); have hR2 := hN2.out.row ok'.out; have hbb : Hid (Below w.heap.size w w2) := hb0.out.trans (hb2.mono (by rw [hz.out]; omega)); clear hb2)
  | (go_at_call 62; refine (refrising_any ss n (by have := hn16.out; omega) A c w2 hN2.out.sgs).mono ?_; rw [hri0.out]; rintro e w3 ⟨v3, rfl, hb3, hP3⟩; have hbc : Hid (Below w.heap.size w w3) := hbb.out.trans (hb3.mono hbb.out.size); replace hP3 : OwnS w3 w2.heap.size v3 n rs := hP3; obtain ⟨A6, c6, rfl, -, -, -, hS3, -⟩ := OwnS.reads hP3; obtain ⟨g6, rfl⟩ := own_some hP3 hn0.out; simp only [Option.isNone_some]; have hlen := Lib.hid hP3.2.1; have hsns := Lib.hid hP3.1; replace hS3 := Lib.hid hS3; have hO4 := Lib.hid (own_below ho2.out hb3); have hO33 : Hid ((w3.alloc (.cells #[.int .u8 33] 5)).ownsRow w3.heap.size 5 1 (.slice (some ⟨w3.heap.size, 0, none⟩) 1 1) 1 (cells8 [33])) := own_one w3 _ [33] rfl; have hB33 : Hid (Below w3.heap.size w3 (w3.alloc (.cells #[.int .u8 33] 5))) := Below.heap_below w3 _; have hR4 : Hid (Reads (w3.alloc (.cells #[.int .u8 33] 5)) 1 A4 113 (cells8 (headBytes h))) := (by obtain ⟨A9, c9, e9, -, -, -, hr9, -⟩ := Own.reads hO4.out; injection e9 with e9; subst e9; exact hr9.alloc _); clear hb3 hP3)
  | ((with_reducible change wpList _ _ _ (⟨some 37, _, _, _, _, _⟩ :: _) _ _); refine wpList_append_src _ (o := ⟨some 37, _, _, _, _, _⟩) rfl (.tmp 35) (.tmp 36) 31 rfl w3.heap.size 5 i0 (.int .u8 0) 1 1 Tryz.underlying31 ii iz0 iz1 iz2 rfl (by decide) (.slice (some ⟨w3.heap.size, 0, none⟩) 1 1) 1 (cells8 [33]) rfl hO33.out (A4) 113 c4 (cells8 (headBytes h)) rfl hR4.out hn4.out (cells8_one _) a1.out a2.out hB33.out.size ?_; intro v5 w5 hG; obtain ⟨A7, c7, rfl, hO7, hb7⟩ := grew_text hG hB33.out hB33.out.size hO33.out ([33] ++ headBytes h) rfl 114 rfl; have hO7' : Hid ((w5.alloc (.cells #[.int .u8 (n : Int)] 5)).ownsRow w3.heap.size 5 1 (.slice A7 114 c7) 114 (cells8 ([33] ++ headBytes h))) := own_below hO7.out (Below.heap_below w5 _); have hB5 : Hid (Below w3.heap.size w3 (w5.alloc (.cells #[.int .u8 (n : Int)] 5))) := hb7.out.alloc hb7.out.size _; have hR5 : Hid (Reads (w5.alloc (.cells #[.int .u8 (n : Int)] 5)) 1 (some ⟨w5.heap.size, 0, none⟩) 1 (cells8 [BitVec.ofNat 8 n])) := (by obtain ⟨A9, c9, e9, -, -, -, hr9, -⟩ := Own.reads (own_one w5 _ _ (cnt_row n hn16.out)); injection e9 with e9; subst e9; exact hr9); clear hG)
  | ((with_reducible change wpList _ _ _ (⟨some 43, _, _, _, _, _⟩ :: _) _ _); refine wpList_append_src _ (o := ⟨some 43, _, _, _, _, _⟩) rfl (.tmp 38) (.tmp 42) 31 rfl w3.heap.size 5 i0 (.int .u8 0) 1 1 Tryz.underlying31 ii iz0 iz1 iz2 rfl (by decide) (.slice A7 114 c7) 114 (cells8 ([33] ++ headBytes h)) rfl hO7'.out (some ⟨w5.heap.size, 0, none⟩) 1 1 (cells8 ([BitVec.ofNat 8 n])) rfl hR5.out (fun e => by cases e) (cells8_one _) a3.out a4.out hB5.out.size ?_; intro v6 w6 hG; obtain ⟨A8, c8, rfl, hO8, hb8⟩ := grew_text hG hB5.out hB5.out.size hO7'.out ([33] ++ headBytes h ++ [BitVec.ofNat 8 n]) rfl 115 rfl; clear hG))
 go_loopw [8, 9] (fun v8 v wr => ∃ (i : Nat) (A9 : Option Addr) (c9 : Nat), v = .int .i64 (i : Int) ∧ v8 = .slice A9 (115 + 64 * i) c9 ∧ Hid (i ≤ n) ∧ Hid (wr.ownsRow w3.heap.size 5 1 (.slice A9 (115 + 64 * i) c9) (115 + 64 * i) (cells8 ([33] ++ headBytes h ++ [BitVec.ofNat 8 n] ++ (rs.take i).flatten))) ∧ Hid (Below w3.heap.size w3 wr)) (fun _ v _ => n - (intOf v).toNat)
 case atStart => exact ⟨0, A8, c8, rfl, rfl, Nat.zero_le _, by show World.ownsRow _ _ _ _ _ _ _; simpa using hO8.out, hb8.out⟩
 case round =>
  clear hO8 hb8
  obtain ⟨i, A9, c9, rfl, rfl, hin, hOi, hbi⟩ := hrel
  have hi6 : (i : Int) ≤ 16 := by have := hin.out; have := hn16.out; omega
  by_cases hlt : i < n
  ·have hz1 : (i : Int) < (n : Int) := by omega
   have hz0 : (0 : Int) ≤ (i : Int) := by omega
   have hlt' := Lib.hid hlt
   obtain ⟨x, hx⟩ : ∃ x, Hid (rs[i]? = some x) := ⟨_, List.getElem?_eq_getElem (by rw [hlen.out]; exact hlt)⟩
   have hxl := Lib.hid (Sns.at_ hsns.out hx.out)
   have hstep : Hid ((rs.take (i + 1)).flatten = (rs.take i).flatten ++ kyS x ++ tgS x) := by show _ = _; rw [List.take_add_one, hx.out]; have := kt_eq x; simp at this; simp [this]
   have hk1 := Lib.hid (sgs_key (hS3.out.below hbi.out) hx.out)
   have b1 : Hid (115 + 64 * i + 32 ≤ maxLen) := by show _ ≤ _; unfold maxLen; omega
   have b2 : Hid ((115 + 64 * i + 32) * 1 ≤ 140737488355328) := by show _ ≤ _; omega
   have b3 : Hid (147 + 64 * i + 32 ≤ maxLen) := by show _ ≤ _; unfold maxLen; omega
   have b4 : Hid ((147 + 64 * i + 32) * 1 ≤ 140737488355328) := by show _ ≤ _; omega
   have b5 : Hid (147 + 64 * i = 115 + 64 * i + 32) := by show _ = _; omega
   have b6 : Hid (115 + 64 * (i + 1) = 147 + 64 * i + 32) := by show _ = _; omega
   clear hlt
   go_wp2_with (first
    | ((with_reducible change wpList _ _ _ (⟨some 56, _, _, _, _, _⟩ :: _) _ _); refine wpList_append_src _ (o := ⟨some 56, _, _, _, _, _⟩) rfl (.tmp 50) (.tmp 55) 31 rfl w3.heap.size 5 i0 (.int .u8 0) 1 1 Tryz.underlying31 ii iz0 iz1 iz2 rfl (by decide) (.slice A9 (115 + 64 * i) c9) (115 + 64 * i) (cells8 ([33] ++ headBytes h ++ [BitVec.ofNat 8 n] ++ (rs.take i).flatten)) rfl hOi.out (some ⟨g6, i * 64, none⟩) 32 32 (cells8 (kyS x)) rfl hk1.out (fun e => by cases e) (cells8_one _) b1.out b2.out hbi.out.size ?_; intro v7 w7 hG; obtain ⟨A10, c10, rfl, hO10, hb10⟩ := grew_text hG hbi.out hbi.out.size hOi.out ([33] ++ headBytes h ++ [BitVec.ofNat 8 n] ++ ((rs.take i).flatten ++ kyS x)) (by simp) (147 + 64 * i) b5.out; have hk2 := Lib.hid (sgs_tag (hS3.out.below hb10.out) hx.out); clear hG)
    | ((with_reducible change wpList _ _ _ (⟨some 63, _, _, _, _, _⟩ :: _) _ _); refine wpList_append_src _ (o := ⟨some 63, _, _, _, _, _⟩) rfl (.tmp 57) (.tmp 62) 31 rfl w3.heap.size 5 i0 (.int .u8 0) 1 1 Tryz.underlying31 ii iz0 iz1 iz2 rfl (by decide) (.slice A10 (147 + 64 * i) c10) (147 + 64 * i) (cells8 ([33] ++ headBytes h ++ [BitVec.ofNat 8 n] ++ ((rs.take i).flatten ++ kyS x))) rfl hO10.out (some ⟨g6, i * 64 + 32, none⟩) 32 32 (cells8 (tgS x)) rfl hk2.out (fun e => by cases e) (cells8_one _) b3.out b4.out hb10.out.size ?_; intro v8 w8 hG; obtain ⟨A11, c11, rfl, hO11, hb11⟩ := grew_text hG hb10.out hb10.out.size hO10.out ([33] ++ headBytes h ++ [BitVec.ofNat 8 n] ++ (rs.take (i + 1)).flatten) (by rw [hstep.out]; simp) (115 + 64 * (i + 1)) b6.out; clear hG))
   go_roundw
   case rel => exact ⟨i + 1, A11, c11, by go_num, rfl, hlt'.out, hO11.out, hb11.out⟩
   case measure => (have := hlt'.out; simp [intOf]; omega)
  ·have hz1 : ¬ ((i : Int) < (n : Int)) := by omega
   have hin' : i = n := by have := hin.out; omega
   subst hin'
   clear hlt
   have hfin : Hid ([33] ++ headBytes h ++ [BitVec.ofNat 8 i] ++ (rs.take i).flatten = noteB h rs) := by show _ = _; unfold noteB; rw [List.take_of_length_le (by rw [hlen.out]; exact Nat.le_refl _), hlen.out]; simp
   rw [hfin.out] at hOi
   go_wp2_with fail
   go_ret2
   exact ⟨.slice A9 (115 + 64 * i) c9, rfl, hbc.out.trans (hbi.out.mono hbc.out.size), ownsRow_base hOi.out hbc.out.size⟩

def NotePost (B : Nat) (w' : World) (v : Value) : Option Text → Prop
 | none => v = .slice none 0 0
 | some b => w'.ownsRow B 5 1 v b.length (cells8 b)
theorem rising_len {ss rs : List Text} (h : rising kyS ss = some rs) : rs.length = ss.length := (rising_some h).2.length_eq
theorem rising_sns {ss rs : List Text} (h : rising kyS ss = some rs) (hs : Sns ss) : Sns rs := fun t ht => hs t ((rising_some h).2.mem_iff.1 ht)
theorem note_cases (h : HeadD) (ss : List Text) (n : Nat) (hn : ss.length = n) :
  (rightB h = false ∧ noteAns h ss = (none, 1)) ∨ (rightB h = true ∧ n = 0 ∧ noteAns h ss = (none, 7)) ∨ (rightB h = true ∧ 16 < n ∧ noteAns h ss = (none, 7)) ∨ (rightB h = true ∧ 0 < n ∧ n ≤ 16 ∧ rising kyS ss = none ∧ noteAns h ss = (none, 92)) ∨
   (rightB h = true ∧ 0 < n ∧ n ≤ 16 ∧ ∃ rs, rising kyS ss = some rs ∧ noteAns h ss = (some (noteB h rs), 0)) := by
 unfold noteAns
 cases hr : rightB h with
 | false => exact .inl ⟨rfl, by simp⟩
 | true =>
  rw [if_neg (by simp), hn]
  by_cases h0 : n = 0
  ·exact .inr (.inl ⟨rfl, h0, by rw [if_pos (.inl h0)]⟩)
  ·by_cases h16 : 16 < n
   ·exact .inr (.inr (.inl ⟨rfl, h16, by rw [if_pos (.inr h16)]⟩))
   ·rw [if_neg (by omega)]
    cases hq : rising kyS ss with
    | none => exact .inr (.inr (.inr (.inl ⟨rfl, by omega, by omega, rfl, rfl⟩)))
    | some rs => exact .inr (.inr (.inr (.inr ⟨rfl, by omega, by omega, rs, rfl, rfl⟩)))
theorem encnote_any (h : HeadD) (ok : h.Ok) (ss : List Text) (n : Nat) (A : Option Addr) (c : Nat) (w : World) (hS : Sgs w A n ss) :
  Calls Tryz.prog 33 #[.agg (noteCells h (.slice A n c)).toArray] w fun e w' => ∃ v, e = .returned (.tuple #[v, .int .i64 (noteAns h ss).2]) ∧ Below w.heap.size w w' ∧ NotePost w.heap.size w' v (noteAns h ss).1 := by
 rcases note_cases h ss n hS.len with ⟨h1, e⟩ | ⟨h1, h2, e⟩ | ⟨h1, h2, e⟩ | ⟨h1, h2, h3, h4, e⟩ | ⟨h1, h2, h3, rs, h4, e⟩
 ·rw [e]
  exact (enc_wrong h ok ss n h1 A c w hS).mono fun e w' ⟨he, hb⟩ => ⟨_, he, hb, rfl⟩
 ·rw [e]
  exact (enc_none h ok ss n h1 h2 A c w hS).mono fun e w' ⟨he, hb⟩ => ⟨_, he, hb, rfl⟩
 ·rw [e]
  exact (enc_many h ok ss n h1 h2 A c w hS).mono fun e w' ⟨he, hb⟩ => ⟨_, he, hb, rfl⟩
 ·rw [e]
  exact (enc_twice h ok ss n h1 h2 h3 h4 A c w hS).mono fun e w' ⟨he, hb⟩ => ⟨_, he, hb, rfl⟩
 ·rw [e]
  have hl : (noteB h rs).length = 115 + 64 * n := by rw [noteB_len ok (rising_sns h4 hS.all), rising_len h4, hS.len]
  exact (enc_yes h ok ss n h1 h2 h3 rs h4 A c w hS).mono fun e w' ⟨v, he, hb, ho⟩ => ⟨v, he, hb, by show World.ownsRow _ _ _ _ _ _ _; rw [hl]; exact ho⟩
theorem refnote_any (h : HeadD) (ok : h.Ok) (ss : List Text) (n : Nat) (A : Option Addr) (c : Nat) (w : World) (hS : Sgs w A n ss) :
  Calls Tryz.prog 36 #[.agg (noteCells h (.slice A n c)).toArray] w fun e w' => ∃ v, e = .returned (.tuple #[v, .int .i64 (noteAns h ss).2]) ∧ Below w.heap.size w w' ∧ NotePost w.heap.size w' v (noteAns h ss).1 := by
 rcases note_cases h ss n hS.len with ⟨h1, e⟩ | ⟨h1, h2, e⟩ | ⟨h1, h2, e⟩ | ⟨h1, h2, h3, h4, e⟩ | ⟨h1, h2, h3, rs, h4, e⟩
 ·rw [e]
  exact (refnote_wrong h ok ss n h1 A c w hS).mono fun e w' ⟨he, hb⟩ => ⟨_, he, hb, rfl⟩
 ·rw [e]
  exact (refnote_none h ok ss n h1 h2 A c w hS).mono fun e w' ⟨he, hb⟩ => ⟨_, he, hb, rfl⟩
 ·rw [e]
  exact (refnote_many h ok ss n h1 h2 A c w hS).mono fun e w' ⟨he, hb⟩ => ⟨_, he, hb, rfl⟩
 ·rw [e]
  exact (refnote_twice h ok ss n h1 h2 h3 h4 A c w hS).mono fun e w' ⟨he, hb⟩ => ⟨_, he, hb, rfl⟩
 ·rw [e]
  have hl : (noteB h rs).length = 115 + 64 * n := by rw [noteB_len ok (rising_sns h4 hS.all), rising_len h4, hS.len]
  exact (refnote_yes h ok ss n h1 h2 h3 rs h4 A c w hS).mono fun e w' ⟨v, he, hb, ho⟩ => ⟨v, he, hb, by show World.ownsRow _ _ _ _ _ _ _; rw [hl]; exact ho⟩
end Go.Proofs.YtfbhjoejffagjaaGreatDoor.RefNote
