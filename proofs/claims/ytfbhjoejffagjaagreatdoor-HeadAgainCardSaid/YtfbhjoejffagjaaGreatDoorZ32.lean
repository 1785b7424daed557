/-
  Texts of the claim, put into one file: SameSigns, SameIDs, Given, Kept16.
-/
import Derived.Test.YtfbhjoejffagjaaGreatDoorZ31
import Derived.Test.YtfbhjoejffagjaaGreatDoorZ7
import Derived.Test.YtfbhjoejffagjaaGreatDoorZ27
import Derived.Test.YtfbhjoejffagjaaGreatDoorZ11
import Derived.Deep.Cut
import Derived.Test.YtfbhjoejffagjaaGreatDoorZ4
import Derived.Test.YtfbhjoejffagjaaGreatDoorZ29
import Derived.Test.YtfbhjoejffagjaaGreatDoorZ13

namespace Go.Proofs.YtfbhjoejffagjaaGreatDoor.SameSigns
open Go Go.RowKit Go.Proofs.YtfbhjoejffagjaaGreatDoor Mem Sha Bytes SortP NoteP QuietTail Grown Want Rise SortM SgM HeadMem EncNoteP EncNote RowS Fill NoteM SignEq HeadEq CmpW

theorem qSG : Tryz.prog.eqGuardType Tryz.prog.depth 56 = false := by kernel_rfl
theorem qHD : Tryz.prog.eqGuardType Tryz.prog.depth 36 = false := by kernel_rfl
theorem size64t : (Tryz.prog.info? 56).map (·.size) = some 64 := by kernel_rfl
set_option maxRecDepth 100000 in
set_option maxHeartbeats 1000000 in
theorem sameSigns_any (ss : List Text) (n : Nat) (hn47 : n ≤ 2199023255552) (A B : Option Addr) (c d : Nat) (w : World) (ha : Sgs w A n ss) (hb : Sgs w B n ss) :
  Calls Tryz.prog 53 #[.slice A n c, .slice B n d] w fun e w' => e = .returned (.bool true) ∧ ∃ m, w' = w.drewN m := by
 replace ha := Lib.hid ha
 replace hb := Lib.hid hb
 have hn0 := Lib.hid hn47
 clear hn47
 go_enter Tryz.func53, Tryz.ntmps53
 go_wp2_with fail
 go_loopw [5] (fun v wr => ∃ i m : Nat, v = .int .i64 (i : Int) ∧ Hid (i ≤ n) ∧ Hid (wr = w.drewN m)) (fun v _ => n - (intOf v).toNat)
 case atStart => exact ⟨0, 0, rfl, Nat.zero_le _, rfl⟩
 case round =>
  obtain ⟨i, m, rfl, hi, hw⟩ := hrel
  have hi6 : (i : Int) ≤ 2199023255552 := by have := hi.out; have := hn0.out; omega
  by_cases hlt : i < n
  ·have hz : (i : Int) < (n : Int) := by omega
   have hz0 : (0 : Int) ≤ (i : Int) := by omega
   have hlt' := Lib.hid hlt
   obtain ⟨x, hx⟩ : ∃ x, Hid (ss[i]? = some x) := ⟨_, List.getElem?_eq_getElem (by rw [ha.out.len]; exact hlt)⟩
   have hxl := Lib.hid (ha.out.all x (List.mem_of_getElem? hx.out))
   obtain ⟨b1, o1, rfl, -, h1⟩ := ha.out.at_ hx.out
   obtain ⟨b2, o2, rfl, -, h2⟩ := hb.out.at_ hx.out
   have hf1 : Hid (∀ w', (∃ q, w' = wr.drewN q) → ∀ j u, (cells8 x)[j]? = some u → w'.cell? ⟨b1, o1 + i * 64 + j, none⟩ = some u) := fun w' hw' j u hu => by obtain ⟨q, rfl⟩ := hw'; rw [hw.out]; exact h1 j u hu
   have hf2 : Hid (∀ w', (∃ q, w' = wr.drewN q) → ∀ j u, (cells8 x)[j]? = some u → w'.cell? ⟨b2, o2 + i * 64 + j, none⟩ = some u) := fun w' hw' j u hu => by obtain ⟨q, rfl⟩ := hw'; rw [hw.out]; exact h2 j u hu
   have s64 : Hid ((Tryz.prog.info? 56).map (·.size) = some (cells8 x).length) := by show _ = _; rw [cells8_len, hxl.out]; exact size64t
   have hq : Hid (∀ w', (binOp .neq 56 (.agg (cells8 x).toArray) (.agg (cells8 x).toArray)).run Tryz.prog w' = .ok (.bool false) w') := fun w' => by rw [neq_sign x x hxl.out hxl.out]; simp
   clear h1 h2 hlt
   go_upto_region 6 with fail
   refine q_region (fun w' => ∃ m, w' = wr.drewN m) (by kernel_rfl) (by kernel_rfl) (⟨1, rfl⟩) ?_
   refine q_move rfl (.tmp 0) rfl ?_
   (intro K k; go_simp; apply k; clear k K)
   refine q_move rfl (.tmp 5) rfl ?_
   (intro K k; go_simp; apply k; clear k K)
   refine Want.qv0 (.pointer (some ⟨b1, o1 + i * 64, none⟩)) ?_
   (intro K k; go_simp; apply k; clear k K)
   refine q_part rfl 56 (.tmp 19) rfl b1 ((o1 + i * 64)) rfl (cells8 x) _ (fun w' hw' => hf1.out w' hw') Tryz.underlying56 rfl s64.out ?_
   (intro K k; go_simp; apply k; clear k K)
   refine q_move rfl (.tmp 1) rfl ?_
   (intro K k; go_simp; apply k; clear k K)
   refine q_move rfl (.tmp 5) rfl ?_
   (intro K k; go_simp; apply k; clear k K)
   refine Want.qv0 (.pointer (some ⟨b2, o2 + i * 64, none⟩)) ?_
   (intro K k; go_simp; apply k; clear k K)
   refine q_part rfl 56 (.tmp 23) rfl b2 ((o2 + i * 64)) rfl (cells8 x) _ (fun w' hw' => hf2.out w' hw') Tryz.underlying56 rfl s64.out ?_
   (intro K k; go_simp; apply k; clear k K)
   refine q_val (v := .bool false) rfl (fun w' hw' => run_cmp rfl rfl rfl qSG (hq.out w')) ?_
   (intro K k; go_simp; apply k; clear k K)
   refine q_nil ?_
   intro w5 hw5
   obtain ⟨m5, rfl⟩ := hw5
   go_wp2_with fail
   go_roundw
   case rel => exact ⟨i + 1, m + m5, by go_num, hlt'.out, by show _ = _; rw [hw.out, World.drewN_drewN]⟩
   case measure => (have := hlt'.out; simp [intOf]; omega)
  ·have hz : ¬ ((i : Int) < (n : Int)) := by omega
   clear hlt
   go_wp2_with fail
   go_ret
   exact ⟨rfl, m, hw.out⟩
set_option maxRecDepth 100000 in
set_option maxHeartbeats 1000000 in
theorem sameNotes_any (h : HeadD) (ok : h.Ok) (ss : List Text) (n : Nat) (hn47 : n ≤ 2199023255552) (A B : Option Addr) (c d : Nat) (w : World) (ha : Sgs w A n ss) (hb : Sgs w B n ss) :
  Calls Tryz.prog 19 #[.agg (noteCells h (.slice A n c)).toArray, .agg (noteCells h (.slice B n d)).toArray] w fun e w' => e = .returned (.bool true) ∧ Below w.heap.size w w' := by
 obtain ⟨w0, hw0⟩ : ∃ w0, (w.alloc (.cells (noteCells h (.slice A n c)).toArray 39)).alloc (.cells (noteCells h (.slice B n d)).toArray 39) = w0 := ⟨_, rfl⟩
 have hz : (w.alloc (.cells (noteCells h (.slice A n c)).toArray 39)).heap.size = w.heap.size + 1 := by simp
 have N1 : Hid (NoteAt w0 w.heap.size h A n c ss) := by show NoteAt _ _ _ _ _ _ _; rw [← hw0]; exact (NoteAt.new ha).below (Below.heap_below _ _)
 have N2 : Hid (NoteAt w0 (w.heap.size + 1) h B n d ss) := by show NoteAt _ _ _ _ _ _ _; rw [← hw0, ← hz]; exact NoteAt.new (hb.below (Below.heap_below w _))
 have hb0 : Hid (Below w.heap.size w w0) := by show Below _ _ _; rw [← hw0]; exact (Below.heap_below w _).alloc (by rw [hz]; omega) _
 have hsz : Hid ((Tryz.prog.info? 36).map (·.size) = some (headCells h).length) := by show _ = _; rw [headCells_len ok]; exact size98
 have hE : Hid (∀ w', (binOp .eql 36 (.agg (headCells h).toArray) (.agg (headCells h).toArray)).run Tryz.prog w' = .ok (.bool true) w') := eql_head h ok
 have r1 := N1.out.row ok
 have r2 := N2.out.row ok
 clear ha hb ok hz
 go_enter Tryz.func19, Tryz.ntmps19
 go_wp2_with (first
  | (((with_reducible change wpList _ _ _ (⟨some 6, _, _, _, _, _⟩ :: _) _ _); refine wpList_load_part (o := ⟨some 6, _, _, _, _, _⟩) rfl 36 (.tmp 5) rfl (w.heap.size) (0) rfl (headCells h) _ N1.out.head Tryz.underlying36 rfl hsz.out ?_))
  | (((with_reducible change wpList _ _ _ (⟨some 8, _, _, _, _, _⟩ :: _) _ _); refine wpList_load_part (o := ⟨some 8, _, _, _, _, _⟩) rfl 36 (.tmp 7) rfl ((w.heap.size + 1)) (0) rfl (headCells h) _ N2.out.head Tryz.underlying36 rfl hsz.out ?_))
  | ((with_reducible change wpList _ _ _ (⟨some 9, _, _, _, _, _⟩ :: _) _ _); (with_reducible refine Veil.out ?_); refine wpList_cmpW (o := ⟨some 9, _, _, _, _, _⟩) rfl .eql 36 36 (.tmp 6) (.tmp 8) rfl ((headCells h).toArray) ((headCells h).toArray) rfl rfl qHD (.bool true) (hE.out _) ?_)
  | (go_at_call 53; refine (sameSigns_any ss n hn47 A B c d w0 N1.out.sgs N2.out.sgs).mono ?_; rintro e w2 ⟨rfl, m2, rfl⟩))
 go_ret
 exact ⟨rfl, below_drawn hb0.out m2⟩
end Go.Proofs.YtfbhjoejffagjaaGreatDoor.SameSigns

namespace Go.Proofs.YtfbhjoejffagjaaGreatDoor.SameIDs
open Go Go.RowKit Go.Proofs.YtfbhjoejffagjaaGreatDoor Mem Sha Bytes SortP NoteP QuietTail Grown Want Rise SortM SgM HeadMem EncNoteP EncNote RowS Fill NoteM SignEq HeadEq CmpW TreeMem DigEq

theorem qDGi : Tryz.prog.eqGuardType Tryz.prog.depth 34 = false := by kernel_rfl
theorem size32i : (Tryz.prog.info? 34).map (·.size) = some 32 := by kernel_rfl
set_option maxRecDepth 100000 in
set_option maxHeartbeats 1000000 in
theorem sameIDs_any (ss : List Text) (n : Nat) (hn47 : n ≤ 2199023255552) (A B : Option Addr) (c d : Nat) (w : World) (ha : RdD w A n ss) (hb : RdD w B n ss) :
  Calls Tryz.prog 30 #[.slice A n c, .slice B n d] w fun e w' => e = .returned (.bool true) ∧ ∃ m, w' = w.drewN m := by
 replace ha := Lib.hid ha
 replace hb := Lib.hid hb
 have hn0 := Lib.hid hn47
 clear hn47
 go_enter Tryz.func30, Tryz.ntmps30
 go_wp2_with fail
 go_loopw [5] (fun v wr => ∃ i m : Nat, v = .int .i64 (i : Int) ∧ Hid (i ≤ n) ∧ Hid (wr = w.drewN m)) (fun v _ => n - (intOf v).toNat)
 case atStart => exact ⟨0, 0, rfl, Nat.zero_le _, rfl⟩
 case round =>
  obtain ⟨i, m, rfl, hi, hw⟩ := hrel
  have hi6 : (i : Int) ≤ 2199023255552 := by have := hi.out; have := hn0.out; omega
  by_cases hlt : i < n
  ·have hz : (i : Int) < (n : Int) := by omega
   have hz0 : (0 : Int) ≤ (i : Int) := by omega
   have hlt' := Lib.hid hlt
   obtain ⟨x, hx⟩ : ∃ x, Hid (ss[i]? = some x) := ⟨_, List.getElem?_eq_getElem (by rw [ha.out.1]; exact hlt)⟩
   have hxl := Lib.hid (ha.out.2.1.at_ hx.out)
   obtain ⟨b1, o1, rfl, -, h1⟩ := ha.out.at_ hx.out
   obtain ⟨b2, o2, rfl, -, h2⟩ := hb.out.at_ hx.out
   have hf1 : Hid (∀ w', (∃ q, w' = wr.drewN q) → ∀ j u, (cells8 x)[j]? = some u → w'.cell? ⟨b1, o1 + i * 32 + j, none⟩ = some u) := fun w' hw' j u hu => by obtain ⟨q, rfl⟩ := hw'; rw [hw.out]; exact h1 j u hu
   have hf2 : Hid (∀ w', (∃ q, w' = wr.drewN q) → ∀ j u, (cells8 x)[j]? = some u → w'.cell? ⟨b2, o2 + i * 32 + j, none⟩ = some u) := fun w' hw' j u hu => by obtain ⟨q, rfl⟩ := hw'; rw [hw.out]; exact h2 j u hu
   have s64 : Hid ((Tryz.prog.info? 34).map (·.size) = some (cells8 x).length) := by show _ = _; rw [cells8_len, hxl.out]; exact size32i
   have hq : Hid (∀ w', (binOp .neq 34 (.agg (cells8 x).toArray) (.agg (cells8 x).toArray)).run Tryz.prog w' = .ok (.bool false) w') := fun w' => by rw [neq_dig x x hxl.out hxl.out]; simp
   clear h1 h2 hlt
   go_upto_region 6 with fail
   refine q_region (fun w' => ∃ m, w' = wr.drewN m) (by kernel_rfl) (by kernel_rfl) (⟨1, rfl⟩) ?_
   refine q_move rfl (.tmp 0) rfl ?_
   (intro K k; go_simp; apply k; clear k K)
   refine q_move rfl (.tmp 5) rfl ?_
   (intro K k; go_simp; apply k; clear k K)
   refine Want.qv0 (.pointer (some ⟨b1, o1 + i * 32, none⟩)) ?_
   (intro K k; go_simp; apply k; clear k K)
   refine q_part rfl 34 (.tmp 19) rfl b1 ((o1 + i * 32)) rfl (cells8 x) _ (fun w' hw' => hf1.out w' hw') Tryz.underlying34 rfl s64.out ?_
   (intro K k; go_simp; apply k; clear k K)
   refine q_move rfl (.tmp 1) rfl ?_
   (intro K k; go_simp; apply k; clear k K)
   refine q_move rfl (.tmp 5) rfl ?_
   (intro K k; go_simp; apply k; clear k K)
   refine Want.qv0 (.pointer (some ⟨b2, o2 + i * 32, none⟩)) ?_
   (intro K k; go_simp; apply k; clear k K)
   refine q_part rfl 34 (.tmp 23) rfl b2 ((o2 + i * 32)) rfl (cells8 x) _ (fun w' hw' => hf2.out w' hw') Tryz.underlying34 rfl s64.out ?_
   (intro K k; go_simp; apply k; clear k K)
   refine q_val (v := .bool false) rfl (fun w' hw' => run_cmp rfl rfl rfl qDGi (hq.out w')) ?_
   (intro K k; go_simp; apply k; clear k K)
   refine q_nil ?_
   intro w5 hw5
   obtain ⟨m5, rfl⟩ := hw5
   go_wp2_with fail
   go_roundw
   case rel => exact ⟨i + 1, m + m5, by go_num, hlt'.out, by show _ = _; rw [hw.out, World.drewN_drewN]⟩
   case measure => (have := hlt'.out; simp [intOf]; omega)
  ·have hz : ¬ ((i : Int) < (n : Int)) := by omega
   clear hlt
   go_wp2_with fail
   go_ret
   exact ⟨rfl, m, hw.out⟩
end Go.Proofs.YtfbhjoejffagjaaGreatDoor.SameIDs

namespace Go.Proofs.YtfbhjoejffagjaaGreatDoor.Given
open Go Go.RowKit Go.Proofs.YtfbhjoejffagjaaGreatDoor Mem Sha Bytes SortP NoteP QuietTail Grown Want Rise SortM SgM HeadMem EncNoteP EncNote RowS Fill NoteM SignEq CmpW SameSigns Stranger HeadTake HeadTake2 Decode DecNote

def gv (ss : List Text) (i : Nat) : List Text := ss ++ List.replicate i stS ++ List.replicate (40 - i) z64
def GivenAt (w : World) (g : Nat) (ss : List Text) : Prop := RowS w g (gv ss 40)
theorem gv_sns {ss : List Text} (h : Sns ss) (i : Nat) : Sns (gv ss i) := (Sns.append_ h (Sns.rep i stS_len)).append_ (Sns.rep _ z64_len)
theorem gv_len (ss : List Text) (i : Nat) (h : i ≤ 40) : (gv ss i).length = ss.length + 40 := by simp [gv]; omega
theorem gv_step (ss : List Text) (i : Nat) (h : i < 40) : (gv ss i).set (ss.length + i) stS = gv ss (i + 1) := by
 unfold gv
 rw [List.set_append_right _ _ (by simp), List.length_append, List.length_replicate, Nat.sub_self, show 40 - i = (40 - (i + 1)) + 1 by omega, List.replicate_succ, List.set_cons_zero, List.replicate_succ', List.append_assoc, List.append_assoc, List.append_assoc]
 rfl
theorem GivenAt.rd {w : World} {g n : Nat} {ss : List Text} (h : GivenAt w g ss) (hs : Sns ss) (hn : ss.length = n) : Sgs w (some ⟨g, 0, none⟩) n ss := by
 have h1 := RowS.rd h (gv_sns hs 40)
 have h2 := h1.take_ n (by rw [gv_len ss 40 (Nat.le_refl _), hn]; omega)
 have e : (gv ss 40).take n = ss := by unfold gv; rw [List.append_assoc, List.take_append_of_le_length (by omega), List.take_of_length_le (by omega)]
 rw [e] at h2
 exact h2
theorem GivenAt.all_ {w : World} {g n : Nat} {ss : List Text} (h : GivenAt w g ss) (hs : Sns ss) (hn : ss.length = n) : Sgs w (some ⟨g, 0, none⟩) (n + 40) (gv ss 40) := by
 have h1 := RowS.rd h (gv_sns hs 40)
 rw [gv_len ss 40 (Nat.le_refl _), hn] at h1
 exact h1
theorem GivenAt.below {w w' : World} {g : Nat} {ss : List Text} (h : GivenAt w g ss) (hb : Below w.heap.size w w') : GivenAt w' g ss := RowS.below h hb
theorem gv_mark {ss : List Text} {n i : Nat} (hn : ss.length = n) (h1 : n ≤ i) (h2 : i < n + 40) : (gv ss 40)[i]? = some stS := by
 unfold gv
 rw [Nat.sub_self, List.replicate_zero, List.append_nil, List.getElem?_append_right (by omega), List.getElem?_replicate, if_pos (by omega)]
theorem gv_zero (ss : List Text) (n : Nat) (hn : ss.length = n) (hs : Sns ss) : (((List.replicate (n + 40) z64).flatMap cells8).toArray.toList.take 0 ++ (ss.flatMap cells8) ++ ((List.replicate (n + 40) z64).flatMap cells8).toArray.toList.drop (0 + (ss.flatMap cells8).length)).toArray = ((gv ss 0).flatMap cells8).toArray := by
 rw [List.take_zero, List.nil_append, Nat.zero_add, flat_len ss hs, hn, List.toList_toArray, flat_drop _ n (Sns.rep _ z64_len), List.drop_replicate, show n + 40 - n = 40 by omega]
 unfold gv
 simp
theorem len_rep (n : Nat) (ss : List Text) (hn : ss.length = n) (hs : Sns ss) : 0 + (ss.flatMap cells8).length ≤ ((List.replicate (n + 40) z64).flatMap cells8).toArray.size := by
 rw [List.size_toArray, flat_len ss hs, flat_len _ (Sns.rep _ z64_len), List.length_replicate, hn]
 omega
set_option maxRecDepth 100000 in
set_option maxHeartbeats 2000000 in
theorem given_any (h : HeadD) (ok : h.Ok) (ss : List Text) (n : Nat) (hn47 : n ≤ 1099511627776) (A : Option Addr) (c : Nat) (w : World) (hS : Sgs w A n ss) :
  Calls Tryz.prog 27 #[.agg (noteCells h (.slice A n c)).toArray] w fun e w' => ∃ g, e = .returned (.agg (noteCells h (.slice (some ⟨g, 0, none⟩) n (n + 40))).toArray) ∧ w.heap.size ≤ g ∧ GivenAt w' g ss ∧ Below w.heap.size w w' := by
 obtain ⟨i0, ii, iz0, iz1, iz2⟩ := info_partsN info64
 obtain ⟨w0, hw0⟩ : ∃ w0, (w.alloc (.cells (noteCells h (.slice A n c)).toArray 39)).alloc (.cells Z99 39) = w0 := ⟨_, rfl⟩
 have hz : (w.alloc (.cells (noteCells h (.slice A n c)).toArray 39)).heap.size = w.heap.size + 1 := by simp
 have N0 : Hid (NoteAt w0 w.heap.size h A n c ss) := by show NoteAt _ _ _ _ _ _ _; rw [← hw0]; exact (NoteAt.new hS).below (Below.heap_below _ _)
 have B0 : Hid (Blk w0 (w.heap.size + 1) 39 Z99) := by show Blk _ _ _ _; rw [← hw0, ← hz]; exact Blk.new _ _ _
 have hb0 : Hid (Below w.heap.size w w0) := by show Below _ _ _; rw [← hw0]; exact (Below.heap_below w _).alloc (by rw [hz]; omega) _
 have hs0 : Hid (w0.heap.size = w.heap.size + 2) := by show _ = _; rw [← hw0]; simp
 change (w.alloc (.cells (noteCells h (.slice A n c)).toArray 39)).alloc (.cells Tryz.zeroCells39 39) = w0 at hw0
 have hsz : Hid ((Tryz.prog.info? 36).map (·.size) = some (headCells h).length) := by show _ = _; rw [headCells_len ok]; exact size98
 have r0 := N0.out.row ok
 have hsns : Hid (Sns ss) := hS.all
 have hlen : Hid (ss.length = n) := hS.len
 have hbR : ∀ w' : World, Below w.heap.size w w' → Reads w' 64 A n (ss.flatMap cells8) := fun w' hb => hS.rd.below hb
 replace hbR := Lib.hid hbR
 have hn6 : (n : Int) ≤ 1099511627776 := by omega
 have hn0 := Lib.hid hn47
 have x1 : IntKind.i64.wrap ((n : Int) + 40) = (n : Int) + 40 := IntWalk.i64_in _ (by omega)
 have b2 : Hid (i0.bytes * (n + 40) ≤ 281474976710656) := by show _ ≤ _; rw [iz2]; omega
 have b3 : Hid (n + 40 ≤ maxLen) := by show _ ≤ _; unfold maxLen; omega
 have m1 : Hid (Nat.min n (n + 40) = n) := Nat.min_eq_left (by omega)
 have m2 : Hid ((ss.flatMap cells8).length = n * 64) := by show _ = _; rw [flat_len _ hS.all, hS.len]
 have m3 := Lib.hid (len_rep n ss hS.len hS.all)
 have m4 := Lib.hid (gv_zero ss n hS.len hS.all)
 have bn := Lib.hid (fun (g : Nat) (w' : World) => run_note ok (some ⟨g, 0, none⟩) n (n + 40) w')
 have zN := Lib.hid (fun v => note_size ok v)
 have oN := Lib.hid (fun A n c => note_one (h := h) A n c)
 have sN := Lib.hid (fun v => note_zero ok v)
 have ok' := Lib.hid ok
 clear hz hS hn47 ok
 go_enter Tryz.func27, Tryz.ntmps27
 go_wp2_with (first
  | (at_make; refine wpList_make_full _ rfl (.tmp 8) (.tmp 8) 37 rfl w0.heap.size 56 i0 (.agg Z64) 64 Tryz.underlying37 ii iz0 iz1 .i64 .i64 ((n : Int) + 40) ((n : Int) + 40) (n + 40) rfl rfl (by omega) (by omega) b2.out b3.out (Nat.le_refl _) ?_; rw [hs0.out]; intro w1 hown hgrow; rw [made64, ← flat_zero] at hown; have G1 : Hid (RowS w1 (w.heap.size + 2) (List.replicate (n + 40) z64)) := ownBlkS hown; have bb1 : Hid (Below w0.heap.size w0 w1) := (Below.refl _ _).grown hgrow (Nat.le_refl _) (fun _ e => by cases e); have N1 := Lib.hid (N0.out.below bb1.out); have r1 := N1.out.row ok'.out; have B1 : Hid (Blk w1 (w.heap.size + 1) 39 Z99) := (bb1.out.block _ B0.out.lt).trans B0.out; have hb1 : Hid (Below w.heap.size w w1) := hb0.out.trans (bb1.out.mono (by rw [hs0.out]; omega)); clear hown hgrow bb1)
  | ((with_reducible change wpList _ _ _ (⟨some 13, _, _, _, _, _⟩ :: _) _ _); refine Book.wpList_copy_intoN (o := ⟨some 13, _, _, _, _, _⟩) rfl (.tmp 10) (.tmp 12) 37 37 rfl 56 64 Tryz.underlying37 size64t A (n + 40) (n + 40) n c (w.heap.size + 2) 0 rfl rfl _ 56 G1.out n m1.out (ss.flatMap cells8) m2.out N1.out.sgs.rd rfl (by decide) m3.out (one_signs ss) ?_; rw [m4.out]; intro w2 hG2 hk2; have K2 : Hid (Kept (· = w.heap.size + 2) w1 w2) := hk2; have N2 : Hid (NoteAt w2 w.heap.size h A n c ss) := ⟨N1.out.blk.kept hk2 (by omega), ⟨N1.out.sgs.len, N1.out.sgs.all, hbR.out w2 (hb1.out.trans (Kept.below_of hk2 (by omega) hb1.out.size))⟩⟩; have r2 := N2.out.row ok'.out; have B2 : Hid (Blk w2 (w.heap.size + 1) 39 Z99) := B1.out.kept hk2 (by omega); have hb2 : Hid (Below w.heap.size w w2) := hb1.out.trans (Kept.below_of hk2 (by omega) hb1.out.size); clear hk2 G1 B1 N1))
 go_loopw [4] (fun v wr => ∃ i : Nat, v = .int .i64 (((n + i : Nat)) : Int) ∧ Hid (i ≤ 40) ∧ Hid (RowS wr (w.heap.size + 2) (gv ss i)) ∧ Hid (Blk wr (w.heap.size + 1) 39 Z99) ∧ Hid (NoteAt wr w.heap.size h A n c ss) ∧ Hid (Below w.heap.size w wr)) (fun v _ => n + 40 - (intOf v).toNat)
 case atStart => exact ⟨0, rfl, Nat.zero_le _, hG2.out, B2.out, N2.out, hb2.out⟩
 case round =>
  clear hG2 B2 N2 hb2
  obtain ⟨i, rfl, hi, G, B, N, hb⟩ := hrel
  obtain ⟨j, hj⟩ : ∃ j, Hid (n + i = j) := ⟨_, Lib.hid rfl⟩
  rw [hj.out]
  have hj0 : (0 : Int) ≤ (j : Int) := by omega
  have hj6 : (j : Int) ≤ 1099511627816 := by have := hj.out; have := hi.out; omega
  have r3 := N.out.row ok'.out
  by_cases hlt : i < 40
  ·have hz : (j : Int) < (n : Int) + 40 := by have := hj.out; omega
   have hlt' := Lib.hid hlt
   have hfit : Hid (j * 64 + (cells8 stS).length ≤ ((gv ss i).flatMap cells8).toArray.size) := row_fit (gv_sns hsns.out i) (gv_len ss i (by omega)) (by rw [hlen.out, ← hj.out]; omega) stS_len
   have hset : Hid ((splice ((gv ss i).flatMap cells8).toArray.toList (j * 64) (cells8 stS)).toArray = ((gv ss (i + 1)).flatMap cells8).toArray) := by
    show _ = _
    rw [splice_set _ (gv_sns hsns.out i) j (by rw [gv_len ss i (by omega), hlen.out, ← hj.out]; omega) stS stS_len, ← gv_step ss i hlt, hlen.out, hj.out]
   clear hlt
   go_wp2_with (first
    | (go_at_call 59; refine (stranger_any wr).mono ?_; rintro e w5 ⟨rfl, hb5⟩; have G5 := Lib.hid (G.out.below hb5); have B5 : Hid (Blk w5 (w.heap.size + 1) 39 Z99) := (hb5.block _ B.out.lt).trans B.out; have N5 := Lib.hid (N.out.below hb5); have hb6 : Hid (Below w.heap.size w w5) := hb.out.trans (hb5.mono hb.out.size); clear hb5 G B N r3)
    | ((with_reducible change wpList _ _ _ ({ dst := none, op := Op.store 56 (.tmp 26) (.tmp 25), type := _, pos := _, after := _, guard := _ } :: _) _ _); refine wpList_store_at (o := ⟨none, _, _, _, _, _⟩) rfl 56 (.tmp 26) (.tmp 25) rfl (w.heap.size + 2) (j * 64) (cells8 stS) rfl rfl 56 ((gv ss i).flatMap cells8).toArray G5.out (size64t.trans (congrArg some (by rw [cells8_len, stS_len]))) hfit.out (cells8_one _) ?_; intro w7 hb9 hk7; rw [hset.out] at hb9; have G7 : Hid (RowS w7 (w.heap.size + 2) (gv ss (i + 1))) := hb9; have B7 : Hid (Blk w7 (w.heap.size + 1) 39 Z99) := B5.out.kept hk7 (by omega); have hb7 : Hid (Below w.heap.size w w7) := hb6.out.trans (Kept.below_of hk7 (by omega) hb6.out.size); have N7 : Hid (NoteAt w7 w.heap.size h A n c ss) := ⟨N5.out.blk.kept hk7 (by omega), ⟨N5.out.sgs.len, N5.out.sgs.all, hbR.out w7 hb7.out⟩⟩; clear hk7 hb9 G5 B5 N5 hb6))
   go_roundw
   case rel => exact ⟨i + 1, by have := hj.out; go_num, hlt'.out, G7.out, B7.out, N7.out, hb7.out⟩
   case measure => (have := hlt'.out; have := hj.out; simp [intOf]; omega)
  ·have hz : ¬ ((j : Int) < (n : Int) + 40) := by have := hj.out; omega
   obtain rfl : i = 40 := by have := hi.out; omega
   have hT := run_headS (A := some ⟨w.heap.size + 2, 0, none⟩) (n := n + 40) (c := n + 40) (k := n) (by omega) (n : Int) rfl
   have hT' := Lib.hid hT
   clear hlt hT
   go_wp2_with fail
   refine wp_region_class_tail 8 (Class wr) (by kernel_rfl) (by kernel_rfl) (Class.mk_ ((Below.refl _ _).drew)) ?_
   refine wpQuiet_val (v := .pointer (some ⟨w.heap.size, 0, none⟩)) rfl (fun w' hw' => by go_simp) ?_
   (intro K k; go_simp; apply k; clear k K)
   refine wpQuiet_load_part rfl 36 (.tmp 27) rfl w.heap.size (0) rfl (headCells h) _ (fun w' hw' => (N.out.below hw'.below).head) Tryz.underlying36 rfl hsz.out ?_
   (intro K k; go_simp; apply k; clear k K)
   refine wpQuiet_move rfl (.tmp 3) rfl ?_
   (intro K k; go_simp; apply k; clear k K)
   refine wpQuiet_val (v := .pointer (some ⟨w.heap.size, 98, none⟩)) rfl (fun w' hw' => by go_simp) ?_
   (intro K k; go_simp; apply k; clear k K)
   refine wpQuiet_val (v := .slice A n c) rfl (fun w' hw' => by have := (N.out.below hw'.below).row ok'.out; go_simp) ?_
   (intro K k; go_simp; apply k; clear k K)
   refine wpQuiet_val (v := .int .i64 (n : Int)) rfl (fun w' hw' => by go_simp) ?_
   (intro K k; go_simp; apply k; clear k K)
   refine wpQuiet_val (v := .slice (some ⟨w.heap.size + 2, 0, none⟩) n (n + 40)) rfl (fun w' hw' => by have := hT'.out w'; go_simp) ?_
   (intro K k; go_simp; apply k; clear k K)
   refine wpQuiet_val (v := .agg (noteCells h (.slice (some ⟨w.heap.size + 2, 0, none⟩) n (n + 40))).toArray) rfl (fun w' hw' => exec_build 39 #[(0, .tmp 28), (1, .tmp 33)] rfl #[(0, .agg (headCells h).toArray), (1, .slice (some ⟨w.heap.size + 2, 0, none⟩) n (n + 40))] (by simp; exact ⟨rfl, rfl⟩) _ (bn.out (w.heap.size + 2) w')) ?_
   (intro K k; go_simp; apply k; clear k K)
   refine wpQuiet_nil ?_
   intro w8 hw8c
   simp only [List.drop]
   have hw8 := hw8c.below
   clear hw8c
   have B8 : Hid (Blk w8 (w.heap.size + 1) 39 Z99) := (hw8.block _ B.out.lt).trans B.out
   have hb8 : Hid (Below w.heap.size w w8) := hb.out.trans (hw8.mono hb.out.size)
   have G8 : Hid (GivenAt w8 (w.heap.size + 2) ss) := RowS.below G.out hw8
   clear hw8 G N B r3 hb
   go_wp2_with ((with_reducible change wpList _ _ _ ({ dst := none, op := Op.store 39 (.tmp 2) (.tmp 34), type := _, pos := _, after := _, guard := _ } :: _) _ _); refine wpList_store_row (o := ⟨none, _, _, _, _, _⟩) rfl 39 (.tmp 2) (.tmp 34) rfl (w.heap.size + 1) (noteCells h (.slice (some ⟨w.heap.size + 2, 0, none⟩) n (n + 40))).toArray rfl rfl 39 Z99 B8.out (zN.out _) (sN.out _) (oN.out _ _ _) ?_)
   refine bodyPost_ret (results_cell_row rfl _ _ (w.heap.size + 1) 39 (noteCells h (.slice (some ⟨w.heap.size + 2, 0, none⟩) n (n + 40))).toArray (0, 0) _ rfl (setRow_heap _ _ _ _ _ _ B8.out) Tryz.underlying39 rfl (zN.out _)) rfl ?_
   refine ⟨w.heap.size + 2, rfl, by omega, ?_, below_setRow hb8.out (by omega) _⟩
   exact RowS.kept G8.out (Bytes.Kept.setRow (S := (· = w.heap.size + 1)) (Kept.refl _ w8) rfl (noteCells h (.slice (some ⟨w.heap.size + 2, 0, none⟩) n (n + 40))).toArray) (by omega)
end Go.Proofs.YtfbhjoejffagjaaGreatDoor.Given

namespace Go.Proofs.YtfbhjoejffagjaaGreatDoor.Kept16
open Go Go.RowKit Go.Proofs.YtfbhjoejffagjaaGreatDoor Mem Sha Bytes SortP NoteP QuietTail Grown Want Guard2 Go.Proofs.YtfbhjoejffagjaaGreatDoor.Append Own Rise SortM SgM HeadMem EncNoteP EncNote RowS Fill NoteM SignEq CmpW SameSigns Stranger Given HeadTake HeadTake2 Decode

theorem note_set {H : HeadD} (ok : H.Ok) (v u : Value) : (noteCells H v).toArray.setIfInBounds 98 u = (noteCells H u).toArray := by
 unfold noteCells
 rw [List.setIfInBounds_toArray, List.set_append_right _ _ (by rw [headCells_len ok]; exact Nat.le_refl _), headCells_len ok]
 rfl
set_option maxRecDepth 100000 in
set_option maxHeartbeats 2000000 in
theorem kept_any (h : HeadD) (ok : h.Ok) (ss : List Text) (n : Nat) (hn47 : n ≤ 1099511627776) (g : Nat) (A : Option Addr) (c : Nat) (w : World) (hG : GivenAt w g ss) (hS : Sgs w A n ss) :
  Calls Tryz.prog 31 #[.agg (noteCells h (.slice (some ⟨g, 0, none⟩) n (n + 40))).toArray, .agg (noteCells h (.slice A n c)).toArray] w fun e w' => e = .returned (.bool true) ∧ Below w.heap.size w w' := by
 have hsns : Hid (Sns ss) := hS.all
 have hlen : Hid (ss.length = n) := hS.len
 have hGr : Sgs w (some ⟨g, 0, none⟩) n ss := hG.rd hS.all hS.len
 obtain ⟨w0, hw0⟩ : ∃ w0, (w.alloc (.cells (noteCells h (.slice (some ⟨g, 0, none⟩) n (n + 40))).toArray 39)).alloc (.cells (noteCells h (.slice A n c)).toArray 39) = w0 := ⟨_, rfl⟩
 have hz : (w.alloc (.cells (noteCells h (.slice (some ⟨g, 0, none⟩) n (n + 40))).toArray 39)).heap.size = w.heap.size + 1 := by simp
 have N1 : Hid (NoteAt w0 w.heap.size h (some ⟨g, 0, none⟩) n (n + 40) ss) := by show NoteAt _ _ _ _ _ _ _; rw [← hw0]; exact (NoteAt.new hGr).below (Below.heap_below _ _)
 have N2 : Hid (NoteAt w0 (w.heap.size + 1) h A n c ss) := by show NoteAt _ _ _ _ _ _ _; rw [← hw0, ← hz]; exact NoteAt.new (hS.below (Below.heap_below w _))
 have hb0 : Hid (Below w.heap.size w w0) := by show Below _ _ _; rw [← hw0]; exact (Below.heap_below w _).alloc (by rw [hz]; omega) _
 have hs0 : Hid (w0.heap.size = w.heap.size + 2) := by show _ = _; rw [← hw0]; simp
 have hAll : Hid (∀ w', Below w.heap.size w w' → Sgs w' (some ⟨g, 0, none⟩) (n + 40) (gv ss 40)) := fun w' hb => (hG.below hb).all_ hS.all hS.len
 have zN := Lib.hid (fun v => note_size ok v)
 have hn6 : (n : Int) ≤ 1099511627776 := by omega
 have x1 : IntKind.i64.wrap ((n : Int) + 40) = (n : Int) + 40 := IntWalk.i64_in _ (by omega)
 have hT := run_headS (A := some ⟨g, 0, none⟩) (n := n) (c := n + 40) (k := n + 40) (Nat.le_refl _) ((n : Int) + 40) (by omega)
 have hq : Hid (∀ w', (binOp .neq 56 (.agg (cells8 stS).toArray) (.agg (cells8 stS).toArray)).run Tryz.prog w' = .ok (.bool false) w') := fun w' => by rw [neq_sign stS stS stS_len stS_len]; simp
 have s64 : Hid ((Tryz.prog.info? 56).map (·.size) = some (cells8 stS).length) := by show _ = _; rw [cells8_len, stS_len]; exact size64t
 have r1 := N1.out.row ok
 have r2 := N2.out.row ok
 have ok' := Lib.hid ok
 clear hz hG hS hGr ok
 go_enter Tryz.func31, Tryz.ntmps31
 go_wp2_with (first
  | (((with_reducible change wpList _ _ _ (⟨some 7, _, _, _, _, _⟩ :: _) _ _); refine wpList_load_row (o := ⟨some 7, _, _, _, _, _⟩) rfl 39 (.tmp 2) rfl (w.heap.size) rfl 39 ((noteCells h (.slice (some ⟨g, 0, none⟩) n (n + 40))).toArray) (0, 0) _ N1.out.blk Tryz.underlying39 rfl (zN.out _) ?_))
  | (((with_reducible change wpList _ _ _ (⟨some 8, _, _, _, _, _⟩ :: _) _ _); refine wpList_load_row (o := ⟨some 8, _, _, _, _, _⟩) rfl 39 (.tmp 3) rfl ((w.heap.size + 1)) rfl 39 ((noteCells h (.slice A n c)).toArray) (0, 0) _ N2.out.blk Tryz.underlying39 rfl (zN.out _) ?_))
  | (go_at_call 19; refine (sameNotes_any h ok'.out ss n (by omega) (some ⟨g, 0, none⟩) A (n + 40) c w0 N1.out.sgs N2.out.sgs).mono ?_; rintro e w3 ⟨rfl, hb3⟩; have hb4 : Hid (Below w.heap.size w w3) := hb0.out.trans (hb3.mono (by rw [hs0.out]; omega)); have r3 := (N1.out.below hb3).row ok'.out; have r4 := (N2.out.below hb3).row ok'.out; clear hb3))
 go_loopw [6] (fun v wr => ∃ j : Nat, v = .int .i64 (j : Int) ∧ Hid (n ≤ j) ∧ Hid (j ≤ n + 40) ∧ Hid (Below w.heap.size w wr)) (fun v _ => n + 40 - (intOf v).toNat)
 case atStart => exact ⟨n, rfl, Nat.le_refl _, Nat.le_add_right _ _, hb4.out⟩
 case round =>
  clear hb4 r3 r4
  obtain ⟨j, rfl, hj1, hj2, hb⟩ := hrel
  have hj6 : (j : Int) ≤ 1099511627816 := by have := hj2.out; omega
  have hj0 : (0 : Int) ≤ (j : Int) := by omega
  by_cases hlt : j < n + 40
  ·have hz1 : (j : Int) < (n : Int) + 40 := by omega
   have hlt' := Lib.hid hlt
   obtain ⟨b, o, e, hbl, hc⟩ := (hAll.out wr hb.out).at_ (gv_mark hlen.out hj1.out hlt)
   injection e with e
   injection e with e1 e2
   subst e1 e2
   have hf : Hid (∀ w', Below wr.heap.size wr w' → ∀ i u, (cells8 stS)[i]? = some u → w'.cell? ⟨g, j * 64 + i, none⟩ = some u) := fun w' hb' i u hu => (hb'.cell (p := ⟨g, j * 64 + i, none⟩) hbl).trans (by have := hc i u hu; rwa [Nat.zero_add] at this)
   clear hc hlt
   go_upto_region 7 with fail
   refine q_region (Class wr) (by kernel_rfl) (by kernel_rfl) (Class.mk_ ((Below.refl _ _).drew)) ?_
   refine q_move rfl (.tmp 5) rfl ?_
   (intro K k; go_simp; apply k; clear k K)
   refine q_move rfl (.tmp 6) rfl ?_
   (intro K k; go_simp; apply k; clear k K)
   refine Want.qv0 (.pointer (some ⟨g, j * 64, none⟩)) ?_
   (intro K k; go_simp; apply k; clear k K)
   refine q_part rfl 56 (.tmp 29) rfl g ((j * 64)) rfl (cells8 stS) _ (fun w' hw' => hf.out w' hw'.below) Tryz.underlying56 rfl s64.out ?_
   (intro K k; go_simp; apply k; clear k K)
   refine q_fn (v := .agg (cells8 stS).toArray) (args := #[]) rfl _ _ rfl rfl Tryz.func59 (by kernel_rfl) (by kernel_rfl) (fun w' hw' => ((stranger_any w').mono fun e w'' ⟨he, hb⟩ => ⟨he, hw'.next hb⟩)) ?_
   (intro K k; go_simp; apply k; clear k K)
   refine q_val (v := .bool false) rfl (fun w' hw' => run_cmp rfl rfl rfl qSG (hq.out w')) ?_
   (intro K k; go_simp; apply k; clear k K)
   refine q_nil ?_
   intro w5 hw5
   have hb5 : Hid (Below w.heap.size w w5) := hb.out.trans (hw5.below.mono hb.out.size)
   clear hw5
   go_wp2_with fail
   go_roundw
   case rel => exact ⟨j + 1, by go_num, Nat.le_succ_of_le hj1.out, hlt'.out, hb5.out⟩
   case measure => (have := hlt'.out; simp [intOf]; omega)
  ·have hz1 : ¬ ((j : Int) < (n : Int) + 40) := by omega
   clear hlt
   go_wp2_with fail
   go_ret
   exact ⟨rfl, hb.out⟩
set_option maxRecDepth 100000 in
set_option maxHeartbeats 1000000 in
theorem short_low (h : HeadD) (ok : h.Ok) (n : Nat) (hn : n ≤ 100) (A : Option Addr) (c : Nat) (w : World) :
  Calls Tryz.prog 11 #[.agg (noteCells h (.slice A n c)).toArray] w fun e w' => e = .returned (.agg (noteCells h (.slice A n c)).toArray) ∧ Below w.heap.size w w' := by
 obtain ⟨w0, hw0⟩ : ∃ w0, (w.alloc (.cells (noteCells h (.slice A n c)).toArray 39)).alloc (.cells Z99 39) = w0 := ⟨_, rfl⟩
 have hz : (w.alloc (.cells (noteCells h (.slice A n c)).toArray 39)).heap.size = w.heap.size + 1 := by simp
 have B1 : Hid (Blk w0 w.heap.size 39 (noteCells h (.slice A n c)).toArray) := by show Blk _ _ _ _; rw [← hw0]; exact (Blk.new w _ _).alloc _
 have B2 : Hid (Blk w0 (w.heap.size + 1) 39 Z99) := by show Blk _ _ _ _; rw [← hw0, ← hz]; exact Blk.new _ _ _
 have hb0 : Hid (Below w.heap.size w w0) := by show Below _ _ _; rw [← hw0]; exact (Below.heap_below w _).alloc (by rw [hz]; omega) _
 change (w.alloc (.cells (noteCells h (.slice A n c)).toArray 39)).alloc (.cells Tryz.zeroCells39 39) = w0 at hw0
 have zN := Lib.hid (fun v => note_size ok v)
 have oN := Lib.hid (fun A n c => note_one (h := h) A n c)
 have sN := Lib.hid (fun v => note_zero ok v)
 have r1 : w0.cell? ⟨w.heap.size, 98, none⟩ = some (.slice A n c) := by rw [B1.out.cell 98, List.getElem?_toArray]; exact noteCells_row ok _
 have x1 : ((100 : Int) < (n : Int)) = False := eq_false (by omega)
 clear hz hn ok
 go_enter Tryz.func11, Tryz.ntmps11
 go_wp2_with (first
  | (((with_reducible change wpList _ _ _ (⟨some 11, _, _, _, _, _⟩ :: _) _ _); refine wpList_load_row (o := ⟨some 11, _, _, _, _, _⟩) rfl 39 (.tmp 1) rfl (w.heap.size) rfl 39 ((noteCells h (.slice A n c)).toArray) (0, 0) _ B1.out Tryz.underlying39 rfl (zN.out _) ?_))
  | ((with_reducible change wpList _ _ _ ({ dst := none, op := Op.store 39 (.tmp 2) (.tmp 11), type := _, pos := _, after := _, guard := _ } :: _) _ _); refine wpList_store_row (o := ⟨none, _, _, _, _, _⟩) rfl 39 (.tmp 2) (.tmp 11) rfl (w.heap.size + 1) (noteCells h (.slice A n c)).toArray rfl rfl 39 Z99 B2.out (zN.out _) (sN.out _) (oN.out _ _ _) ?_))
 refine bodyPost_ret (results_cell_row rfl _ _ (w.heap.size + 1) 39 (noteCells h (.slice A n c)).toArray (0, 0) _ rfl (setRow_heap _ _ _ _ _ _ B2.out) Tryz.underlying39 rfl (zN.out _)) rfl ?_
 exact ⟨rfl, below_setRow hb0.out (by omega) _⟩
set_option maxRecDepth 100000 in
set_option maxHeartbeats 1000000 in
theorem short_high (h : HeadD) (ok : h.Ok) (n : Nat) (hn : 100 < n) (A : Option Addr) (c : Nat) (hc : n ≤ c) (w : World) :
  Calls Tryz.prog 11 #[.agg (noteCells h (.slice A n c)).toArray] w fun e w' => e = .returned (.agg (noteCells h (.slice A 100 c)).toArray) ∧ Below w.heap.size w w' := by
 obtain ⟨w0, hw0⟩ : ∃ w0, (w.alloc (.cells (noteCells h (.slice A n c)).toArray 39)).alloc (.cells Z99 39) = w0 := ⟨_, rfl⟩
 have hz : (w.alloc (.cells (noteCells h (.slice A n c)).toArray 39)).heap.size = w.heap.size + 1 := by simp
 have B1 : Hid (Blk w0 w.heap.size 39 (noteCells h (.slice A n c)).toArray) := by show Blk _ _ _ _; rw [← hw0]; exact (Blk.new w _ _).alloc _
 have B2 : Hid (Blk w0 (w.heap.size + 1) 39 Z99) := by show Blk _ _ _ _; rw [← hw0, ← hz]; exact Blk.new _ _ _
 have hb0 : Hid (Below w.heap.size w w0) := by show Below _ _ _; rw [← hw0]; exact (Below.heap_below w _).alloc (by rw [hz]; omega) _
 change (w.alloc (.cells (noteCells h (.slice A n c)).toArray 39)).alloc (.cells Tryz.zeroCells39 39) = w0 at hw0
 have zN := Lib.hid (fun v => note_size ok v)
 have oN := Lib.hid (fun A n c => note_one (h := h) A n c)
 have sN := Lib.hid (fun v => note_zero ok v)
 have r1 : w0.cell? ⟨w.heap.size, 98, none⟩ = some (.slice A n c) := by rw [B1.out.cell 98, List.getElem?_toArray]; exact noteCells_row ok _
 have f1 : w0.frozen? ⟨w.heap.size, 98, none⟩ = false := B1.out.frozen 98
 have C1 : Hid (Blk (w0.setCell ⟨w.heap.size, 98, none⟩ (.slice A 100 c)) w.heap.size 39 (noteCells h (.slice A 100 c)).toArray) := by
  have := B1.out.set_ 98 (.slice A 100 c)
  rwa [note_set ok] at this
 have C2 : Hid (Blk (w0.setCell ⟨w.heap.size, 98, none⟩ (.slice A 100 c)) (w.heap.size + 1) 39 Z99) := B2.out.far (p := ⟨w.heap.size, 98, none⟩) (Ne.symm (Nat.ne_of_lt (Nat.lt_succ_self _))) _
 have hb1 : Hid (Below w.heap.size w (w0.setCell ⟨w.heap.size, 98, none⟩ (.slice A 100 c))) := hb0.out.setCell (p := ⟨w.heap.size, 98, none⟩) (Nat.le_refl _) _
 have x1 : (100 : Int) < (n : Int) := by omega
 have hT := run_headS (A := A) (n := n) (c := c) (k := 100) (by omega) 100 rfl
 clear hz hn ok hc
 go_enter Tryz.func11, Tryz.ntmps11
 go_wp2_with (first
  | (((with_reducible change wpList _ _ _ (⟨some 11, _, _, _, _, _⟩ :: _) _ _); refine wpList_load_row (o := ⟨some 11, _, _, _, _, _⟩) rfl 39 (.tmp 1) rfl (w.heap.size) rfl 39 ((noteCells h (.slice A 100 c)).toArray) (0, 0) _ C1.out Tryz.underlying39 rfl (zN.out _) ?_))
  | ((with_reducible change wpList _ _ _ ({ dst := none, op := Op.store 39 (.tmp 2) (.tmp 11), type := _, pos := _, after := _, guard := _ } :: _) _ _); refine wpList_store_row (o := ⟨none, _, _, _, _, _⟩) rfl 39 (.tmp 2) (.tmp 11) rfl (w.heap.size + 1) (noteCells h (.slice A 100 c)).toArray rfl rfl 39 Z99 C2.out (zN.out _) (sN.out _) (oN.out _ _ _) ?_))
 refine bodyPost_ret (results_cell_row rfl _ _ (w.heap.size + 1) 39 (noteCells h (.slice A 100 c)).toArray (0, 0) _ rfl (setRow_heap _ _ _ _ _ _ C2.out) Tryz.underlying39 rfl (zN.out _)) rfl ?_
 exact ⟨rfl, below_setRow hb1.out (by omega) _⟩
theorem short_any (h : HeadD) (ok : h.Ok) (ss : List Text) (n : Nat) (A : Option Addr) (c : Nat) (hc : n ≤ c) (w : World) (hS : Sgs w A n ss) :
  Calls Tryz.prog 11 #[.agg (noteCells h (.slice A n c)).toArray] w fun e w' => ∃ m, Hid (m ≤ 100 ∧ m ≤ n) ∧ e = .returned (.agg (noteCells h (.slice A m c)).toArray) ∧ Sgs w' A m (ss.take m) ∧ Below w.heap.size w w' := by
 by_cases hn : n ≤ 100
 ·refine (short_low h ok n hn A c w).mono fun e w' ⟨he, hb⟩ => ⟨n, ⟨hn, Nat.le_refl _⟩, he, ?_, hb⟩
  rw [List.take_of_length_le (Nat.le_of_eq hS.len)]
  exact hS.below hb
 ·exact (short_high h ok n (by omega) A c hc w).mono fun e w' ⟨he, hb⟩ => ⟨100, ⟨Nat.le_refl _, by omega⟩, he, (hS.below hb).take_ 100 (by omega), hb⟩
end Go.Proofs.YtfbhjoejffagjaaGreatDoor.Kept16
