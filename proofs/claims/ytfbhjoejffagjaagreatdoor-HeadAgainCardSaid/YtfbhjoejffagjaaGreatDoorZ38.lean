/-
  Texts of the claim, put into one file: HeadLog.
-/
import Derived.Test.YtfbhjoejffagjaaGreatDoorZ21
import Derived.Test.YtfbhjoejffagjaaGreatDoorZ5
import Derived.Laws.IdiomStrings

namespace Go.Proofs.YtfbhjoejffagjaaGreatDoor.HeadLog
open Go Go.RowKit Go.Proofs.YtfbhjoejffagjaaGreatDoor Mem Sha ShaWalk Bytes HashMem Hash HashSum DigestMem Digest DigestOf RefSum RefCut RefOf DigestTop HeadID Law16

def nm (s : ByteArray) : Text := s.data.toList.map fun b => BitVec.ofNat 8 b.toNat
def cut255 (s : ByteArray) : ByteArray := if 255 < s.size then s.extract 0 255 else s
theorem cut255_size (s : ByteArray) : (cut255 s).size ≤ 255 := by
 unfold cut255
 split
 ·simp
  omega
 ·omega
def logOf (s : ByteArray) (q : Text) : Text := cutTo (sum (kb 7 :: [[kb (cut255 s).size], nm (cut255 s), idOf q].flatten)) (clampN 32)
theorem logWorld {w1 W : World} {old cs : Array Value} {T : TypeId} {o2 o3 o4 : Obj} (hW : (((((w1.alloc (.cells old T)).setRow w1.heap.size cs).alloc o2).alloc o3).alloc o4).drew = W) :
  W.heap[w1.heap.size]? = some (.cells cs T (0, 0)) ∧ W.heap[w1.heap.size + 1]? = some o2 ∧ W.heap[w1.heap.size + 2]? = some o3 ∧ W.heap[w1.heap.size + 3]? = some o4 ∧ Below w1.heap.size w1 W ∧ W.heap.size = w1.heap.size + 4 := by
 subst hW
 have hs0 : ((w1.alloc (.cells old T)).setRow w1.heap.size cs).heap.size = w1.heap.size + 1 := by simp
 have h0 : ((w1.alloc (.cells old T)).setRow w1.heap.size cs).heap[w1.heap.size]? = some (.cells cs T (0, 0)) := setRow_heap _ _ _ _ _ _ (heap_alloc_new w1 _)
 have hb0 : Below w1.heap.size w1 ((w1.alloc (.cells old T)).setRow w1.heap.size cs) := below_setRow ((Below.refl _ w1).alloc (Nat.le_refl _) _) (Nat.le_refl _) _
 generalize (w1.alloc (.cells old T)).setRow w1.heap.size cs = w2 at *
 have e2 : (w2.alloc o2).heap.size = w1.heap.size + 2 := by simp [hs0]
 have e3 : ((w2.alloc o2).alloc o3).heap.size = w1.heap.size + 3 := by simp [hs0]
 refine ⟨?_, ?_, ?_, ?_, ?_, by simp [hs0]⟩
 ·rw [heap_drew, Below.heap_alloc _ _ _ (by omega), Below.heap_alloc _ _ _ (by omega), Below.heap_alloc _ _ _ (by omega), h0]
 ·rw [heap_drew, Below.heap_alloc _ _ _ (by omega), Below.heap_alloc _ _ _ (by omega), ← hs0]
  exact heap_alloc_new w2 o2
 ·rw [heap_drew, Below.heap_alloc _ _ _ (by omega)]
  have h := heap_alloc_new (w2.alloc o2) o3
  rw [e2] at h
  exact h
 ·rw [heap_drew]
  have h := heap_alloc_new ((w2.alloc o2).alloc o3) o4
  rw [e3] at h
  exact h
 ·exact (((hb0.alloc (by omega) o2).alloc (by omega) o3).alloc (by omega) o4).drew
theorem nm_len (t : ByteArray) : (nm t).length = t.size := by simp [nm]
theorem bytesRow_reads {W : World} {g C : Nat} {T : TypeId} {fz : Nat × Nat} {t : ByteArray} (h : W.heap[g]? = some (.cells (bytesRow t C) T fz)) : Reads W 1 (some ⟨g, 0, none⟩) (nm t).length (cells8 (nm t)) := by
 refine ⟨by rw [cells8_len, Nat.mul_one], fun _ => ⟨g, 0, rfl, (Array.getElem?_eq_some_iff.1 h).1, fun j u hu => ?_⟩⟩
 have hj : j < t.size := by
  have := (List.getElem?_eq_some_iff.1 hu).1
  rwa [cells8_len, nm_len] at this
 rw [Nat.zero_add, cell_of_row _ _ _ _ _ _ h, ← hu]
 unfold bytesRow cells8 nm
 have hd : j < t.data.size := hj
 rw [Array.getElem?_append_left (by simpa using hd)]
 simp
 have hb : (fun b : UInt8 => Value.int .u8 (b.toNat : Int)) = (cell8 ∘ fun b : UInt8 => b.toBitVec) := rfl
 rw [hb]
theorem logPieces {W : World} {I C : Nat} {q : Text} {t : ByteArray} {fz : Nat × Nat} {T0 T1 T2 T3 : TypeId} (hq : q.length = 32) (hC : t.size ≤ C)
  (h0 : W.heap[I]? = some (.cells (cells8 q).toArray T0 (0, 0))) (h1 : W.heap[I + 1]? = some (.cells #[.int .u8 ((t.size : Int) % 256)] T1 (0, 0))) (h2 : W.heap[I + 2]? = some (.cells (bytesRow t C) T2 fz))
  (h3 : W.heap[I + 3]? = some (.cells #[.slice (some ⟨I + 1, 0, none⟩) 1 1, .slice (some ⟨I + 2, 0, none⟩) t.size C, .slice (some ⟨I, 0, none⟩) 32 32] T3 (0, 0))) :
  Pieces W (some ⟨I + 3, 0, none⟩) [[kb t.size], nm t, q] := fun _ => ⟨I + 3, 0, rfl, (Array.getElem?_eq_some_iff.1 h3).1, fun i y hy => by
 match i with
 | 0 =>
  obtain rfl := Option.some.inj hy
  refine ⟨some ⟨I + 1, 0, none⟩, 1, by rw [cell_of_row _ _ _ _ _ _ h3]; rfl, Nat.le_refl _, ?_, fun h => by cases h⟩
  rw [kb_b8] at h1
  exact Blk.reads (cs := #[.int .u8 (b8 (kb t.size))]) h1 0 (cells8 [kb t.size]) rfl (fun j u hu => by rw [Nat.zero_add]; exact one_at _ j u hu)
 | 1 =>
  obtain rfl := Option.some.inj hy
  exact ⟨some ⟨I + 2, 0, none⟩, C, by rw [cell_of_row _ _ _ _ _ _ h3, nm_len]; rfl, by rw [nm_len]; exact hC, bytesRow_reads h2, fun h => by cases h⟩
 | 2 =>
  obtain rfl := Option.some.inj hy
  exact ⟨some ⟨I, 0, none⟩, 32, by rw [cell_of_row _ _ _ _ _ _ h3, hq]; rfl, by omega, rowReads h0, fun h => by cases h⟩
 | i + 3 => simp at hy⟩
theorem extract_all (s : ByteArray) : s.extract 0 s.size = s := by simp

set_option maxRecDepth 100000 in
set_option maxHeartbeats 600000 in
theorem log_any (s : ByteArray) (hs63 : s.size < 9223372036854775807) (q : Text) (k : Nat) (hk : q.length = k) (A : Option Addr) (c : Nat) (w : World) (hB : Base w) (hr : Reads w 1 A k (cells8 q)) (hc : k ≤ c) (hk47 : k < 140737488355328) (hnil : A = none → k = 0 ∧ c = 0) :
  Calls Tryz.prog 47 #[.string s, .slice A k c] w fun e w' => e = .returned (.agg (cells8 (logOf s q)).toArray) ∧ Below w.heap.size w w' := by
 obtain ⟨t, ht⟩ : ∃ t, Hid (t = cut255 s) := ⟨_, rfl⟩
 have htz : Hid (t.size ≤ 255) := by show _ ≤ _; rw [ht.out]; exact cut255_size s
 have hlog : logOf s q = cutTo (sum (kb 7 :: [[kb t.size], nm t, idOf q].flatten)) (clampN 32) := by rw [ht.out]; rfl
 rw [hlog]
 obtain ⟨x, hx⟩ : ∃ x, Hid (x = cutTo (sum (kb 7 :: [[kb t.size], nm t, idOf q].flatten)) (clampN 32)) := ⟨_, rfl⟩
 have hxl : x.length = 32 := by rw [hx.out]; exact cutTo_len _ _ (sum_len _) (clampN_ok 32).2
 rw [← hx.out]
 have hz := Lib.hid (dig_size x hxl)
 have hz32 : Hid ((Z32 : Array Value).size = (cells8 x).toArray.size) := by show _ = _; simp [cells8_len, hxl, Z32]
 have ho := Lib.hid (dig_one x)
 have hfl : Hid ([[kb t.size], nm t, idOf q].flatten.length ≤ 288) := by show _ ≤ _; have := htz.out; simp [nm_len, idOf_len]; omega
 clear hxl hlog
 by_cases h255 : (255 : Int) < (s.size : Int)
 ·have et : s.extract 0 255 = t := by rw [ht.out]; unfold cut255; rw [if_pos (by omega)]
  replace hs63 := Lib.hid hs63
  replace hk47 := Lib.hid hk47
  have hcv : ∀ w', (convert 9 31 (.string t)).run Tryz.prog w' = .ok (.slice (some ⟨w'.heap.size, 0, none⟩) t.size (grownCap w' t.size 0 5)) (w'.drew.alloc (.cells (bytesRow t (grownCap w' t.size 0 5)) 5 ((bytesRow t (grownCap w' t.size 0 5)).size, (bytesRow t (grownCap w' t.size 0 5)).size + 1))) := fun w' => run_bytes_of_string w' _ _ _ t Tryz.underlying9 Tryz.underlying31 Tryz.underlying5
  go_enter Tryz.func47, Tryz.ntmps47
  have hid := Lib.hid (dig_size (idOf q) (idOf_len q))
  have hid32 : Hid ((Z32 : Array Value).size = (cells8 (idOf q)).toArray.size) := by show _ = _; simp [cells8_len, idOf_len, Z32]
  have hido := Lib.hid (dig_one (idOf q))
  replace hB := Lib.hid hB
  replace hr := Lib.hid hr
  go_wp2_with (first
   | (go_at_call 22; refine (id_any q k hk A c (w.alloc (.cells Z32 34)) (hB.out.below (Below.heap_below w _) hB.out.1) (hr.out.below (Below.heap_below w _)) hc hk47.out hnil).mono ?_; rintro e w1 ⟨rfl, hb1⟩; replace hb1 : Hid (Below (w.heap.size + 1) (w.alloc (.cells Z32 34)) w1) := (show Below (w.heap.size + 1) (w.alloc (.cells Z32 34)) w1 by simpa using hb1))
   | ((with_reducible change wpList _ _ _ ({ dst := none, op := Op.store 34 (Operand.tmp 6) _, type := _, pos := _, after := _, guard := _ } :: _) _ _); refine wpList_store_row (o := ⟨none, _, _, _, _, _⟩) rfl 34 (.tmp 6) (.tmp 13) rfl w1.heap.size (cells8 (idOf q)).toArray rfl rfl 34 Z32 (heap_alloc_new w1 _) hid.out hid32.out hido.out ?_)
   | (go_at_call 54; generalize hCg : grownCap _ t.size 0 5 = C; have hCt : t.size ≤ C := (by rw [← hCg]; exact grownCap_ge _ _ _ _); generalize hW : World.drew _ = W; obtain ⟨hI0, hI1, hI2, hI3, hbW, hsW⟩ := logWorld hW; clear hCg hW; have hbw : Hid (Below w.heap.size w W) := (Below.heap_below w (.cells Z32 34)).trans ((hb1.out.mono (by omega)).trans (hbW.mono (by have := hb1.out.size; simp at this; omega))); have hRW : Hid (Blk W w.heap.size 34 Z32) := (hbW.block w.heap.size (by have := hb1.out.size; simp at this; omega)).trans ((hb1.out.block w.heap.size (by omega)).trans (heap_alloc_new w _)); refine (of_any [[kb t.size], nm t, idOf q] 3 rfl (some ⟨w1.heap.size + 3, 0, none⟩) 3 32 7 W (hB.out.below hbw.out hB.out.1) (by have := hfl.out; omega) (by omega) (logPieces (idOf_len q) hCt hI0 hI1 hI2 hI3)).mono ?_; rw [← hx.out]; rintro e w3 ⟨rfl, hb3⟩; clear hI0 hI1 hI2 hI3; replace hb3 := Lib.hid hb3; have hR3 : Hid (Blk w3 w.heap.size 34 Z32) := (hb3.out.block w.heap.size hRW.out.lt).trans hRW.out; have hbb : Hid (Below w.heap.size w w3) := hbw.out.trans (hb3.out.mono hbw.out.size))
   | ((with_reducible change wpList _ _ _ ({ dst := none, op := Op.store 34 (Operand.tmp 4) _, type := _, pos := _, after := _, guard := _ } :: _) _ _); refine wpList_store_row (o := ⟨none, _, _, _, _, _⟩) rfl 34 (.tmp 4) (.tmp 22) rfl w.heap.size (cells8 x).toArray rfl rfl 34 Z32 hR3.out hz.out hz32.out ho.out ?_))
  refine bodyPost_ret (results_cell_row rfl _ _ w.heap.size 34 (cells8 x).toArray (0, 0) _ rfl (setRow_heap _ _ _ _ _ _ hR3.out) Tryz.underlying34 rfl hz.out) rfl ?_
  exact ⟨rfl, below_setRow hbb.out (Nat.le_refl _) _⟩
 ·have ets : s = t := by rw [ht.out]; unfold cut255; rw [if_neg (by omega)]
  subst ets
  have h255' : (s.size : Int) ≤ 255 := by omega
  have e256 : Hid ((s.size : Int) % 256 = (s.size : Int)) := by show _ = _; omega
  have X : ∀ w', (Instr.sliceAt 9 (.string s) none (some (.int .i64 (s.size : Int))) none).run Tryz.prog w' = .ok (.string s) w' := fun w' => by
   rw [run_sliceAt_string w' _ _ _ _ _ Tryz.underlying9, run_slice_string_h w' _ s Tryz.underlying9 .i64 (s.size : Int) (by omega) (by omega), Int.toNat_natCast, extract_all]
  replace hs63 := Lib.hid hs63
  replace hk47 := Lib.hid hk47
  have hcv : ∀ w', (convert 9 31 (.string s)).run Tryz.prog w' = .ok (.slice (some ⟨w'.heap.size, 0, none⟩) s.size (grownCap w' s.size 0 5)) (w'.drew.alloc (.cells (bytesRow s (grownCap w' s.size 0 5)) 5 ((bytesRow s (grownCap w' s.size 0 5)).size, (bytesRow s (grownCap w' s.size 0 5)).size + 1))) := fun w' => run_bytes_of_string w' _ _ _ s Tryz.underlying9 Tryz.underlying31 Tryz.underlying5
  go_enter Tryz.func47, Tryz.ntmps47
  have hid := Lib.hid (dig_size (idOf q) (idOf_len q))
  have hid32 : Hid ((Z32 : Array Value).size = (cells8 (idOf q)).toArray.size) := by show _ = _; simp [cells8_len, idOf_len, Z32]
  have hido := Lib.hid (dig_one (idOf q))
  replace hB := Lib.hid hB
  replace hr := Lib.hid hr
  go_wp2_with (first
   | (go_at_call 22; refine (id_any q k hk A c (w.alloc (.cells Z32 34)) (hB.out.below (Below.heap_below w _) hB.out.1) (hr.out.below (Below.heap_below w _)) hc hk47.out hnil).mono ?_; rintro e w1 ⟨rfl, hb1⟩; replace hb1 : Hid (Below (w.heap.size + 1) (w.alloc (.cells Z32 34)) w1) := (show Below (w.heap.size + 1) (w.alloc (.cells Z32 34)) w1 by simpa using hb1))
   | ((with_reducible change wpList _ _ _ ({ dst := none, op := Op.store 34 (Operand.tmp 6) _, type := _, pos := _, after := _, guard := _ } :: _) _ _); refine wpList_store_row (o := ⟨none, _, _, _, _, _⟩) rfl 34 (.tmp 6) (.tmp 13) rfl w1.heap.size (cells8 (idOf q)).toArray rfl rfl 34 Z32 (heap_alloc_new w1 _) hid.out hid32.out hido.out ?_)
   | (go_at_call 54; generalize hCg : grownCap _ s.size 0 5 = C; have hCt : s.size ≤ C := (by rw [← hCg]; exact grownCap_ge _ _ _ _); generalize hW : World.drew _ = W; obtain ⟨hI0, hI1, hI2, hI3, hbW, hsW⟩ := logWorld hW; clear hCg hW; have hbw : Hid (Below w.heap.size w W) := (Below.heap_below w (.cells Z32 34)).trans ((hb1.out.mono (by omega)).trans (hbW.mono (by have := hb1.out.size; simp at this; omega))); have hRW : Hid (Blk W w.heap.size 34 Z32) := (hbW.block w.heap.size (by have := hb1.out.size; simp at this; omega)).trans ((hb1.out.block w.heap.size (by omega)).trans (heap_alloc_new w _)); refine (of_any [[kb s.size], nm s, idOf q] 3 rfl (some ⟨w1.heap.size + 3, 0, none⟩) 3 32 7 W (hB.out.below hbw.out hB.out.1) (by have := hfl.out; omega) (by omega) (logPieces (idOf_len q) hCt hI0 (by rw [e256.out]; exact hI1) hI2 hI3)).mono ?_; rw [← hx.out]; rintro e w3 ⟨rfl, hb3⟩; clear hI0 hI1 hI2 hI3; replace hb3 := Lib.hid hb3; have hR3 : Hid (Blk w3 w.heap.size 34 Z32) := (hb3.out.block w.heap.size hRW.out.lt).trans hRW.out; have hbb : Hid (Below w.heap.size w w3) := hbw.out.trans (hb3.out.mono hbw.out.size))
   | ((with_reducible change wpList _ _ _ ({ dst := none, op := Op.store 34 (Operand.tmp 4) _, type := _, pos := _, after := _, guard := _ } :: _) _ _); refine wpList_store_row (o := ⟨none, _, _, _, _, _⟩) rfl 34 (.tmp 4) (.tmp 22) rfl w.heap.size (cells8 x).toArray rfl rfl 34 Z32 hR3.out hz.out hz32.out ho.out ?_))
  refine bodyPost_ret (results_cell_row rfl _ _ w.heap.size 34 (cells8 x).toArray (0, 0) _ rfl (setRow_heap _ _ _ _ _ _ hR3.out) Tryz.underlying34 rfl hz.out) rfl ?_
  exact ⟨rfl, below_setRow hbb.out (Nat.le_refl _) _⟩

set_option maxRecDepth 100000 in
set_option maxHeartbeats 600000 in
theorem reflog_any (s : ByteArray) (hs63 : s.size < 9223372036854775807) (q : Text) (k : Nat) (hk : q.length = k) (A : Option Addr) (c : Nat) (w : World) (hr : Reads w 1 A k (cells8 q)) (hc : k ≤ c) (hk47 : k < 140737488355328) (hnil : A = none → k = 0 ∧ c = 0) :
  Calls Tryz.prog 48 #[.string s, .slice A k c] w fun e w' => e = .returned (.agg (cells8 (logOf s q)).toArray) ∧ Below w.heap.size w w' := by
 obtain ⟨t, ht⟩ : ∃ t, Hid (t = cut255 s) := ⟨_, rfl⟩
 have htz : Hid (t.size ≤ 255) := by show _ ≤ _; rw [ht.out]; exact cut255_size s
 have hlog : logOf s q = cutTo (sum (kb 7 :: [[kb t.size], nm t, idOf q].flatten)) (clampN 32) := by rw [ht.out]; rfl
 rw [hlog]
 obtain ⟨x, hx⟩ : ∃ x, Hid (x = cutTo (sum (kb 7 :: [[kb t.size], nm t, idOf q].flatten)) (clampN 32)) := ⟨_, rfl⟩
 have hxl : x.length = 32 := by rw [hx.out]; exact cutTo_len _ _ (sum_len _) (clampN_ok 32).2
 rw [← hx.out]
 have hz := Lib.hid (dig_size x hxl)
 have hz32 : Hid ((Z32 : Array Value).size = (cells8 x).toArray.size) := by show _ = _; simp [cells8_len, hxl, Z32]
 have ho := Lib.hid (dig_one x)
 have hfl : Hid ([[kb t.size], nm t, idOf q].flatten.length ≤ 288) := by show _ ≤ _; have := htz.out; simp [nm_len, idOf_len]; omega
 clear hxl hlog
 by_cases h255 : (255 : Int) < (s.size : Int)
 ·have et : s.extract 0 255 = t := by rw [ht.out]; unfold cut255; rw [if_pos (by omega)]
  replace hs63 := Lib.hid hs63
  replace hk47 := Lib.hid hk47
  have hcv : ∀ w', (convert 9 31 (.string t)).run Tryz.prog w' = .ok (.slice (some ⟨w'.heap.size, 0, none⟩) t.size (grownCap w' t.size 0 5)) (w'.drew.alloc (.cells (bytesRow t (grownCap w' t.size 0 5)) 5 ((bytesRow t (grownCap w' t.size 0 5)).size, (bytesRow t (grownCap w' t.size 0 5)).size + 1))) := fun w' => run_bytes_of_string w' _ _ _ t Tryz.underlying9 Tryz.underlying31 Tryz.underlying5
  go_enter Tryz.func48, Tryz.ntmps48
  have hid := Lib.hid (dig_size (idOf q) (idOf_len q))
  have hid32 : Hid ((Z32 : Array Value).size = (cells8 (idOf q)).toArray.size) := by show _ = _; simp [cells8_len, idOf_len, Z32]
  have hido := Lib.hid (dig_one (idOf q))
  replace hr := Lib.hid hr
  go_wp2_with (first
   | (go_at_call 26; refine (refid_any q k hk A c (w.alloc (.cells Z32 34)) (hr.out.below (Below.heap_below w _)) hc hk47.out hnil).mono ?_; rintro e w1 ⟨rfl, hb1⟩; replace hb1 : Hid (Below (w.heap.size + 1) (w.alloc (.cells Z32 34)) w1) := (show Below (w.heap.size + 1) (w.alloc (.cells Z32 34)) w1 by simpa using hb1))
   | ((with_reducible change wpList _ _ _ ({ dst := none, op := Op.store 34 (Operand.tmp 5) _, type := _, pos := _, after := _, guard := _ } :: _) _ _); refine wpList_store_row (o := ⟨none, _, _, _, _, _⟩) rfl 34 (.tmp 5) (.tmp 12) rfl w1.heap.size (cells8 (idOf q)).toArray rfl rfl 34 Z32 (heap_alloc_new w1 _) hid.out hid32.out hido.out ?_)
   | (go_at_call 58; generalize hCg : grownCap _ t.size 0 5 = C; have hCt : t.size ≤ C := (by rw [← hCg]; exact grownCap_ge _ _ _ _); generalize hW : World.drew _ = W; obtain ⟨hI0, hI1, hI2, hI3, hbW, hsW⟩ := logWorld hW; clear hCg hW; have hbw : Hid (Below w.heap.size w W) := (Below.heap_below w (.cells Z32 34)).trans ((hb1.out.mono (by omega)).trans (hbW.mono (by have := hb1.out.size; simp at this; omega))); have hRW : Hid (Blk W w.heap.size 34 Z32) := (hbW.block w.heap.size (by have := hb1.out.size; simp at this; omega)).trans ((hb1.out.block w.heap.size (by omega)).trans (heap_alloc_new w _)); refine (refOf_any [[kb t.size], nm t, idOf q] 3 rfl (some ⟨w1.heap.size + 3, 0, none⟩) 3 32 7 (by omega) W (by have := hfl.out; omega) (by omega) (logPieces (idOf_len q) hCt hI0 hI1 hI2 hI3)).mono ?_; rw [← hx.out]; rintro e w3 ⟨rfl, hb3⟩; clear hI0 hI1 hI2 hI3; replace hb3 := Lib.hid hb3; have hR3 : Hid (Blk w3 w.heap.size 34 Z32) := (hb3.out.block w.heap.size hRW.out.lt).trans hRW.out; have hbb : Hid (Below w.heap.size w w3) := hbw.out.trans (hb3.out.mono hbw.out.size))
   | ((with_reducible change wpList _ _ _ ({ dst := none, op := Op.store 34 (Operand.tmp 4) _, type := _, pos := _, after := _, guard := _ } :: _) _ _); refine wpList_store_row (o := ⟨none, _, _, _, _, _⟩) rfl 34 (.tmp 4) (.tmp 21) rfl w.heap.size (cells8 x).toArray rfl rfl 34 Z32 hR3.out hz.out hz32.out ho.out ?_))
  refine bodyPost_ret (results_cell_row rfl _ _ w.heap.size 34 (cells8 x).toArray (0, 0) _ rfl (setRow_heap _ _ _ _ _ _ hR3.out) Tryz.underlying34 rfl hz.out) rfl ?_
  exact ⟨rfl, below_setRow hbb.out (Nat.le_refl _) _⟩
 ·have ets : s = t := by rw [ht.out]; unfold cut255; rw [if_neg (by omega)]
  subst ets
  have h255' : (s.size : Int) ≤ 255 := by omega
  have e256 : Hid ((s.size : Int) % 256 = (s.size : Int)) := by show _ = _; omega
  replace hs63 := Lib.hid hs63
  replace hk47 := Lib.hid hk47
  have hcv : ∀ w', (convert 9 31 (.string s)).run Tryz.prog w' = .ok (.slice (some ⟨w'.heap.size, 0, none⟩) s.size (grownCap w' s.size 0 5)) (w'.drew.alloc (.cells (bytesRow s (grownCap w' s.size 0 5)) 5 ((bytesRow s (grownCap w' s.size 0 5)).size, (bytesRow s (grownCap w' s.size 0 5)).size + 1))) := fun w' => run_bytes_of_string w' _ _ _ s Tryz.underlying9 Tryz.underlying31 Tryz.underlying5
  go_enter Tryz.func48, Tryz.ntmps48
  have hid := Lib.hid (dig_size (idOf q) (idOf_len q))
  have hid32 : Hid ((Z32 : Array Value).size = (cells8 (idOf q)).toArray.size) := by show _ = _; simp [cells8_len, idOf_len, Z32]
  have hido := Lib.hid (dig_one (idOf q))
  replace hr := Lib.hid hr
  go_wp2_with (first
   | (go_at_call 26; refine (refid_any q k hk A c (w.alloc (.cells Z32 34)) (hr.out.below (Below.heap_below w _)) hc hk47.out hnil).mono ?_; rintro e w1 ⟨rfl, hb1⟩; replace hb1 : Hid (Below (w.heap.size + 1) (w.alloc (.cells Z32 34)) w1) := (show Below (w.heap.size + 1) (w.alloc (.cells Z32 34)) w1 by simpa using hb1))
   | ((with_reducible change wpList _ _ _ ({ dst := none, op := Op.store 34 (Operand.tmp 5) _, type := _, pos := _, after := _, guard := _ } :: _) _ _); refine wpList_store_row (o := ⟨none, _, _, _, _, _⟩) rfl 34 (.tmp 5) (.tmp 12) rfl w1.heap.size (cells8 (idOf q)).toArray rfl rfl 34 Z32 (heap_alloc_new w1 _) hid.out hid32.out hido.out ?_)
   | (go_at_call 58; generalize hCg : grownCap _ s.size 0 5 = C; have hCt : s.size ≤ C := (by rw [← hCg]; exact grownCap_ge _ _ _ _); generalize hW : World.drew _ = W; obtain ⟨hI0, hI1, hI2, hI3, hbW, hsW⟩ := logWorld hW; clear hCg hW; have hbw : Hid (Below w.heap.size w W) := (Below.heap_below w (.cells Z32 34)).trans ((hb1.out.mono (by omega)).trans (hbW.mono (by have := hb1.out.size; simp at this; omega))); have hRW : Hid (Blk W w.heap.size 34 Z32) := (hbW.block w.heap.size (by have := hb1.out.size; simp at this; omega)).trans ((hb1.out.block w.heap.size (by omega)).trans (heap_alloc_new w _)); refine (refOf_any [[kb s.size], nm s, idOf q] 3 rfl (some ⟨w1.heap.size + 3, 0, none⟩) 3 32 7 (by omega) W (by have := hfl.out; omega) (by omega) (logPieces (idOf_len q) hCt hI0 (by rw [e256.out]; exact hI1) hI2 hI3)).mono ?_; rw [← hx.out]; rintro e w3 ⟨rfl, hb3⟩; clear hI0 hI1 hI2 hI3; replace hb3 := Lib.hid hb3; have hR3 : Hid (Blk w3 w.heap.size 34 Z32) := (hb3.out.block w.heap.size hRW.out.lt).trans hRW.out; have hbb : Hid (Below w.heap.size w w3) := hbw.out.trans (hb3.out.mono hbw.out.size))
   | ((with_reducible change wpList _ _ _ ({ dst := none, op := Op.store 34 (Operand.tmp 4) _, type := _, pos := _, after := _, guard := _ } :: _) _ _); refine wpList_store_row (o := ⟨none, _, _, _, _, _⟩) rfl 34 (.tmp 4) (.tmp 21) rfl w.heap.size (cells8 x).toArray rfl rfl 34 Z32 hR3.out hz.out hz32.out ho.out ?_))
  refine bodyPost_ret (results_cell_row rfl _ _ w.heap.size 34 (cells8 x).toArray (0, 0) _ rfl (setRow_heap _ _ _ _ _ _ hR3.out) Tryz.underlying34 rfl hz.out) rfl ?_
  exact ⟨rfl, below_setRow hbb.out (Nat.le_refl _) _⟩
end Go.Proofs.YtfbhjoejffagjaaGreatDoor.HeadLog
