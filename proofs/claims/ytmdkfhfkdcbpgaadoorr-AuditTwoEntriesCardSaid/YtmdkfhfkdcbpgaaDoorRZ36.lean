/-
  Texts of the claim, put into one file: Key, Empties, SpRows, SpTop, RefClimbM.
-/
import Derived.Test.YtmdkfhfkdcbpgaaDoorRZ27
import Derived.Test.YtmdkfhfkdcbpgaaDoorRZ20
import Derived.Test.YtmdkfhfkdcbpgaaDoorRZ35
import Derived.Test.YtmdkfhfkdcbpgaaDoorRZ7
import Derived.Laws.IdiomStrings
import Derived.Test.YtmdkfhfkdcbpgaaDoorRZ33
import Derived.Test.YtmdkfhfkdcbpgaaDoorRZ9

namespace Go.Proofs.YtmdkfhfkdcbpgaaDoorR.Key
open Go Go.RowKit Go.Proofs.YtmdkfhfkdcbpgaaDoorR Mem Sha Bytes HashMem DigestMem Digest DigestOf DigestTop RefSum RefCut RefOf RefTop Go.Proofs.YtmdkfhfkdcbpgaaDoorR.Append ProofIdx2 IdxRef2 TwiceP SparseP Held

theorem cut32 (q : Text) (h : q.length = 32) : cutTo q (clampN 32) = q := by
 unfold cutTo splice
 rw [show clampN 32 = 32 from rfl, List.take_of_length_le (by omega), List.drop_of_length_le (by simp; omega)]
 simp

set_option maxRecDepth 100000 in
set_option maxHeartbeats 600000 in
theorem branch_any (qa qb : Text) (ha : qa.length = 32) (hb : qb.length = 32) (size : Int) (w : World) (hB : Base w) :
  Calls Tryd.prog 174 #[.int .i64 size, .agg (cells8 qa).toArray, .agg (cells8 qb).toArray] w fun e w' => e = .returned (.agg (cells8 (cutTo (sum (kb 4 :: (qa ++ qb))) (clampN size))).toArray) ∧ Below w.heap.size w w' := by
 have hfl : [qa, qb].flatten = qa ++ qb := by simp
 rw [← hfl]
 obtain ⟨x, hx⟩ : ∃ x, Hid (x = cutTo (sum (kb 4 :: [qa, qb].flatten)) (clampN size)) := ⟨_, rfl⟩
 have hxl : x.length = 32 := by rw [hx.out]; exact cutTo_len _ _ (sum_len _) (clampN_ok size).2
 rw [← hx.out]
 have hz := Lib.hid (dig_size x hxl)
 have hz32 : Hid ((Z32 : Array Value).size = (cells8 x).toArray.size) := by show _ = _; simp [cells8_len, hxl, Z32]
 have ho := Lib.hid (dig_one x)
 clear hxl
 replace hB := Lib.hid hB
 have hlen : Hid ([qa, qb].flatten.length = 64) := by show _ = _; simp [ha, hb]
 clear hfl
 obtain ⟨W, hW⟩ : ∃ W, Hid (W = ((((w.alloc (.cells (cells8 qa).toArray 23)).alloc (.cells (cells8 qb).toArray 23)).alloc (.cells Z32 23)).drew.alloc (.cells #[.slice (some ⟨w.heap.size, 0, none⟩) 32 32, .slice (some ⟨w.heap.size + 1, 0, none⟩) 32 32] 27))) := ⟨_, rfl⟩
 have hA0 : W.heap[w.heap.size]? = some (.cells (cells8 qa).toArray 23 (0, 0)) := by rw [hW.out]; exact pairA w _ _ _ _
 have hA1 : W.heap[w.heap.size + 1]? = some (.cells (cells8 qb).toArray 23 (0, 0)) := by rw [hW.out]; exact pairB w _ _ _ _
 have hR : Hid (Blk W (w.heap.size + 2) 23 Z32) := by show Blk _ _ _ _; rw [hW.out]; exact pairC w _ _ _ _
 have hP : W.heap[w.heap.size + 3]? = some (.cells #[.slice (some ⟨w.heap.size, 0, none⟩) 32 32, .slice (some ⟨w.heap.size + 1, 0, none⟩) 32 32] 27 (0, 0)) := by rw [hW.out]; exact pairD w _ _ _ _
 have hbw : Hid (Below w.heap.size w W) := by show Below _ _ _; rw [hW.out]; exact pairE w _ _ _ _
 have hws : Hid (W.heap.size = w.heap.size + 4) := by show _ = _; rw [hW.out]; simp
 have hpc : Hid (Pieces W (some ⟨w.heap.size + 3, 0, none⟩) [qa, qb]) := fun _ => ⟨w.heap.size + 3, 0, rfl, by have := hws.out; omega, fun i y hy => by
  match i with
  | 0 =>
   obtain rfl := Option.some.inj hy
   exact ⟨some ⟨w.heap.size, 0, none⟩, 32, by rw [cell_of_row _ _ _ _ _ _ hP, ha]; rfl, by omega, rowReads hA0, fun h => by cases h⟩
  | 1 =>
   obtain rfl := Option.some.inj hy
   exact ⟨some ⟨w.heap.size + 1, 0, none⟩, 32, by rw [cell_of_row _ _ _ _ _ _ hP, hb]; rfl, by omega, rowReads hA1, fun h => by cases h⟩
  | i + 2 => simp at hy⟩
 have hxl2 : Hid ((cells8 x).length = 32) := by show _ = _; have := hz32.out; simp [Z32] at this; omega
 have hxl3 := hxl2.out
 clear hA0 hA1 hP ha hb
 go_enter Tryd.func174, Tryd.ntmps174
 go_wp2_with fail
 go_region_law (go_simp; go_at_call 72; change Calls _ _ _ ((((w.alloc (.cells (cells8 qa).toArray 23)).alloc (.cells (cells8 qb).toArray 23)).alloc (.cells Z32 23)).drew.alloc (.cells #[.slice (some ⟨w.heap.size, 0, none⟩) 32 32, .slice (some ⟨w.heap.size + 1, 0, none⟩) 32 32] 27)) _; rw [← hW.out]; refine (of_any [qa, qb] 2 rfl (some ⟨w.heap.size + 3, 0, none⟩) 2 size 4 _ (hB.out.below hbw.out hB.out.1) (by have := hlen.out; omega) (by omega) hpc.out).mono ?_; rw [← hx.out]; rintro e w3 ⟨rfl, hb3⟩; replace hb3 := Lib.hid hb3; have hR3 : Hid (Blk w3 (w.heap.size + 2) 23 Z32) := (hb3.out.block (w.heap.size + 2) hR.out.lt).trans hR.out; have hbb : Hid (Below w.heap.size w w3) := hbw.out.trans (hb3.out.mono (by have := hws.out; omega)); have hst : (storeCells ⟨w.heap.size + 1 + 1, 0, none⟩ (cells8 x)).run Tryd.prog w3 = .ok () (w3.setRow (w.heap.size + 2) (cells8 x).toArray) := storeCells_row hR3.out (by have := hxl2.out; simp [Z32]; omega) (cells8_one x))
 go_wp2_with fail
 refine bodyPost_ret (results_cell_row rfl _ _ (w.heap.size + 2) 23 (cells8 x).toArray (0, 0) _ rfl (setRow_heap _ _ _ _ _ _ hR3.out) Tryd.underlying23 rfl hz.out) rfl ?_
 exact ⟨rfl, below_setRow hbb.out (by omega) _⟩

set_option maxRecDepth 100000 in
set_option maxHeartbeats 600000 in
theorem refbranch_any (qa qb : Text) (ha : qa.length = 32) (hb : qb.length = 32) (size : Int) (w : World) (hs63 : size < 9223372036854775808) :
  Calls Tryd.prog 164 #[.int .i64 size, .agg (cells8 qa).toArray, .agg (cells8 qb).toArray] w fun e w' => e = .returned (.agg (cells8 (cutTo (sum (kb 4 :: (qa ++ qb))) (clampN size))).toArray) ∧ Below w.heap.size w w' := by
 have hfl : [qa, qb].flatten = qa ++ qb := by simp
 rw [← hfl]
 obtain ⟨x, hx⟩ : ∃ x, Hid (x = cutTo (sum (kb 4 :: [qa, qb].flatten)) (clampN size)) := ⟨_, rfl⟩
 have hxl : x.length = 32 := by rw [hx.out]; exact cutTo_len _ _ (sum_len _) (clampN_ok size).2
 rw [← hx.out]
 have hz := Lib.hid (dig_size x hxl)
 have hz32 : Hid ((Z32 : Array Value).size = (cells8 x).toArray.size) := by show _ = _; simp [cells8_len, hxl, Z32]
 have ho := Lib.hid (dig_one x)
 clear hxl
 replace hs63 := Lib.hid hs63
 have hlen : Hid ([qa, qb].flatten.length = 64) := by show _ = _; simp [ha, hb]
 clear hfl
 obtain ⟨W, hW⟩ : ∃ W, Hid (W = ((((w.alloc (.cells (cells8 qa).toArray 23)).alloc (.cells (cells8 qb).toArray 23)).alloc (.cells Z32 23)).drew.alloc (.cells #[.slice (some ⟨w.heap.size, 0, none⟩) 32 32, .slice (some ⟨w.heap.size + 1, 0, none⟩) 32 32] 27))) := ⟨_, rfl⟩
 have hA0 : W.heap[w.heap.size]? = some (.cells (cells8 qa).toArray 23 (0, 0)) := by rw [hW.out]; exact pairA w _ _ _ _
 have hA1 : W.heap[w.heap.size + 1]? = some (.cells (cells8 qb).toArray 23 (0, 0)) := by rw [hW.out]; exact pairB w _ _ _ _
 have hR : Hid (Blk W (w.heap.size + 2) 23 Z32) := by show Blk _ _ _ _; rw [hW.out]; exact pairC w _ _ _ _
 have hP : W.heap[w.heap.size + 3]? = some (.cells #[.slice (some ⟨w.heap.size, 0, none⟩) 32 32, .slice (some ⟨w.heap.size + 1, 0, none⟩) 32 32] 27 (0, 0)) := by rw [hW.out]; exact pairD w _ _ _ _
 have hbw : Hid (Below w.heap.size w W) := by show Below _ _ _; rw [hW.out]; exact pairE w _ _ _ _
 have hws : Hid (W.heap.size = w.heap.size + 4) := by show _ = _; rw [hW.out]; simp
 have hpc : Hid (Pieces W (some ⟨w.heap.size + 3, 0, none⟩) [qa, qb]) := fun _ => ⟨w.heap.size + 3, 0, rfl, by have := hws.out; omega, fun i y hy => by
  match i with
  | 0 =>
   obtain rfl := Option.some.inj hy
   exact ⟨some ⟨w.heap.size, 0, none⟩, 32, by rw [cell_of_row _ _ _ _ _ _ hP, ha]; rfl, by omega, rowReads hA0, fun h => by cases h⟩
  | 1 =>
   obtain rfl := Option.some.inj hy
   exact ⟨some ⟨w.heap.size + 1, 0, none⟩, 32, by rw [cell_of_row _ _ _ _ _ _ hP, hb]; rfl, by omega, rowReads hA1, fun h => by cases h⟩
  | i + 2 => simp at hy⟩
 have hxl2 : Hid ((cells8 x).length = 32) := by show _ = _; have := hz32.out; simp [Z32] at this; omega
 have hxl3 := hxl2.out
 clear hA0 hA1 hP ha hb
 go_enter Tryd.func164, Tryd.ntmps164
 go_wp2_with fail
 go_region_law (go_simp; go_at_call 74; change Calls _ _ _ ((((w.alloc (.cells (cells8 qa).toArray 23)).alloc (.cells (cells8 qb).toArray 23)).alloc (.cells Z32 23)).drew.alloc (.cells #[.slice (some ⟨w.heap.size, 0, none⟩) 32 32, .slice (some ⟨w.heap.size + 1, 0, none⟩) 32 32] 27)) _; rw [← hW.out]; refine (refOf_any [qa, qb] 2 rfl (some ⟨w.heap.size + 3, 0, none⟩) 2 size 4 hs63.out _ (by have := hlen.out; omega) (by omega) hpc.out).mono ?_; rw [← hx.out]; rintro e w3 ⟨rfl, hb3⟩; replace hb3 := Lib.hid hb3; have hR3 : Hid (Blk w3 (w.heap.size + 2) 23 Z32) := (hb3.out.block (w.heap.size + 2) hR.out.lt).trans hR.out; have hbb : Hid (Below w.heap.size w w3) := hbw.out.trans (hb3.out.mono (by have := hws.out; omega)); have hst : (storeCells ⟨w.heap.size + 1 + 1, 0, none⟩ (cells8 x)).run Tryd.prog w3 = .ok () (w3.setRow (w.heap.size + 2) (cells8 x).toArray) := storeCells_row hR3.out (by have := hxl2.out; simp [Z32]; omega) (cells8_one x))
 go_wp2_with fail
 refine bodyPost_ret (results_cell_row rfl _ _ (w.heap.size + 2) 23 (cells8 x).toArray (0, 0) _ rfl (setRow_heap _ _ _ _ _ _ hR3.out) Tryd.underlying23 rfl hz.out) rfl ?_
 exact ⟨rfl, below_setRow hbb.out (by omega) _⟩

set_option maxRecDepth 100000 in
set_option maxHeartbeats 1000000 in
theorem empty0_any (size : Int) (w : World) (hB : Base w) :
  Calls Tryd.prog 173 #[.int .i64 size, .int .i64 0] w fun e w' => e = .returned (.agg (cells8 (emp size 0)).toArray) ∧ Below w.heap.size w w' := by
 have hfl : emp size 0 = cutTo (sum (kb 5 :: ([] : List Text).flatten)) (clampN size) := rfl
 rw [hfl]
 obtain ⟨x, hx⟩ : ∃ x, Hid (x = cutTo (sum (kb 5 :: ([] : List Text).flatten)) (clampN size)) := ⟨_, rfl⟩
 have hxl : x.length = 32 := by rw [hx.out]; exact cutTo_len _ _ (sum_len _) (clampN_ok size).2
 rw [← hx.out]
 have hz := Lib.hid (dig_size x hxl)
 have hz32 : Hid ((Z32 : Array Value).size = (cells8 x).toArray.size) := by show _ = _; simp [cells8_len, hxl, Z32]
 have ho := Lib.hid (dig_one x)
 clear hxl hfl
 replace hB := Lib.hid hB
 go_enter Tryd.func173, Tryd.ntmps173
 go_wp2_with (first
  | (go_at_call 72; refine (of_any [] 0 rfl none 0 size 5 (w.alloc (.cells Z32 23)) (hB.out.below (Below.heap_below w (.cells Z32 23)) hB.out.1) (by simp) (by omega) (fun h => absurd h (Nat.lt_irrefl 0))).mono ?_; rw [← hx.out]; rintro e w3 ⟨rfl, hb3⟩; replace hb3 := Lib.hid (show Below (w.heap.size + 1) (w.alloc (.cells Z32 23)) w3 by simpa using hb3); have hR3 : Hid (Blk w3 w.heap.size 23 Z32) := (hb3.out.block w.heap.size (by omega)).trans (heap_alloc_new w _); have hbb : Hid (Below w.heap.size w w3) := (Below.heap_below w (.cells Z32 23)).trans (hb3.out.mono (by omega)))
  | ((with_reducible change wpList _ _ _ ({ dst := none, op := Op.store 23 (Operand.tmp 5) _, type := _, pos := _, after := _, guard := _ } :: _) _ _); refine wpList_store_whole (o := ⟨none, _, _, _, _, _⟩) rfl 23 (.tmp 5) (.tmp 7) rfl w3.heap.size ((cells8 x).toArray) rfl rfl 23 Z32 (Blk.new w3 _ _) hz.out hz32.out ho.out ?_; intro w4 hB4 hk4; have hb4 : Hid (Below w.heap.size w w4) := hbb.out.trans ((kept_fresh hk4).mono hbb.out.size); have hR4 : Hid (Blk w4 w.heap.size 23 Z32) := ((kept_fresh hk4).block w.heap.size hR3.out.lt).trans hR3.out; replace hB4 := Lib.hid hB4; clear hk4))
 refine wp_loop_rounds 1 ?_
 rw [rounds_succ]
 go_wp2_with (first
  | ((with_reducible change wpList _ _ _ (⟨some 18, _, _, _, _, _⟩ :: _) _ _); refine wpList_load_row (o := ⟨some 18, _, _, _, _, _⟩) rfl 23 (.tmp 5) rfl (w3.heap.size) rfl 23 ((cells8 x).toArray) (0, 0) _ hB4.out Tryd.underlying23 rfl hz.out ?_)
  | ((with_reducible change wpList _ _ _ ({ dst := none, op := Op.store 23 _ _, type := _, pos := _, after := _, guard := _ } :: _) _ _); refine wpList_store_row (o := ⟨none, _, _, _, _, _⟩) rfl 23 (.tmp 4) (.tmp 18) rfl w.heap.size (cells8 x).toArray rfl rfl 23 Z32 hR4.out hz.out hz32.out ho.out ?_))
 refine bodyPost_ret (results_cell_row rfl _ _ w.heap.size 23 (cells8 x).toArray (0, 0) _ rfl (setRow_heap _ _ _ _ _ _ hR4.out) Tryd.underlying23 rfl hz.out) rfl ?_
 exact ⟨rfl, below_setRow hb4.out (Nat.le_refl _) _⟩

theorem bytesRow_reads {W : World} {g C : Nat} {T : TypeId} {fz : Nat × Nat} {t : ByteArray} (h : W.heap[g]? = some (.cells (bytesRow t C) T fz)) : Reads W 1 (some ⟨g, 0, none⟩) (nm t).length (cells8 (nm t)) := ProofIdx2.bytesRow_reads h
theorem keyWorld (w : World) (s : ByteArray) (C : Nat) (hC : s.size ≤ C) {X : World} (hX : (((w.alloc (.cells Z32 23)).drew.alloc (.cells (bytesRow s C) 5 ((bytesRow s C).size, (bytesRow s C).size + 1))).alloc (.cells #[.slice (some ⟨w.heap.size + 1, 0, none⟩) s.size C] 27)) = X) : Pieces X (some ⟨w.heap.size + 2, 0, none⟩) [nm s] ∧ Below w.heap.size w X ∧ Blk X w.heap.size 23 Z32 := by
 subst hX
 have hs1 : (w.alloc (.cells Z32 23)).drew.heap.size = w.heap.size + 1 := by simp
 have h0 : Blk (w.alloc (.cells Z32 23)).drew w.heap.size 23 Z32 := (Blk.new w _ _).drew
 have hb0 : Below w.heap.size w (w.alloc (.cells Z32 23)).drew := (Below.heap_below w _).drew
 generalize (w.alloc (.cells Z32 23)).drew = w1 at *
 have e1 : w1.heap.size < (w1.alloc (.cells (bytesRow s C) 5 ((bytesRow s C).size, (bytesRow s C).size + 1))).heap.size := by simp
 have b1 : (w1.alloc (.cells (bytesRow s C) 5 ((bytesRow s C).size, (bytesRow s C).size + 1))).heap[w1.heap.size]? = some (.cells (bytesRow s C) 5 ((bytesRow s C).size, (bytesRow s C).size + 1)) := heap_alloc_new w1 _
 have hs2 : (w1.alloc (.cells (bytesRow s C) 5 ((bytesRow s C).size, (bytesRow s C).size + 1))).heap.size = w.heap.size + 2 := by simp [hs1]
 have h1 : Blk (w1.alloc (.cells (bytesRow s C) 5 ((bytesRow s C).size, (bytesRow s C).size + 1))) w.heap.size 23 Z32 := h0.alloc _
 have hb1 : Below w.heap.size w (w1.alloc (.cells (bytesRow s C) 5 ((bytesRow s C).size, (bytesRow s C).size + 1))) := hb0.alloc hb0.size _
 generalize w1.alloc (.cells (bytesRow s C) 5 ((bytesRow s C).size, (bytesRow s C).size + 1)) = w2 at *
 have h3 := Blk.new w2 27 #[.slice (some ⟨w.heap.size + 1, 0, none⟩) s.size C]
 rw [hs2] at h3
 refine ⟨fun _ => ⟨w.heap.size + 2, 0, rfl, h3.lt, fun i y hy => ?_⟩, hb1.alloc hb1.size _, h1.alloc _⟩
 match i with
 | 0 =>
  obtain rfl := Option.some.inj hy
  rw [hs1] at b1 e1
  refine ⟨some ⟨w.heap.size + 1, 0, none⟩, C, (h3.cell 0).trans (by rw [nm_len]; rfl), by rw [nm_len]; exact hC, bytesRow_reads (fz := ((bytesRow s C).size, (bytesRow s C).size + 1)) (T := 5) (C := C) ?_, fun h => by cases h⟩
  rw [Below.heap_alloc _ _ _ e1]
  exact b1
 | i + 1 => simp at hy

set_option maxRecDepth 100000 in
set_option maxHeartbeats 1000000 in
theorem key_any (s : ByteArray) (hs : s.size < 140737488355328) (w : World) (hB : Base w) :
  Calls Tryd.prog 86 #[.string s] w fun e w' => e = .returned (.agg (cells8 (ixKey (nm s))).toArray) ∧ Below w.heap.size w w' := by
 have hfl : ixKey (nm s) = cutTo (sum (kb 6 :: [nm s].flatten)) (clampN 32) := by rw [cut32 _ (sum_len _)]; simp [ixKey]
 rw [hfl]
 obtain ⟨x, hx⟩ : ∃ x, Hid (x = cutTo (sum (kb 6 :: [nm s].flatten)) (clampN 32)) := ⟨_, rfl⟩
 have hxl : x.length = 32 := by rw [hx.out]; exact cutTo_len _ _ (sum_len _) (clampN_ok 32).2
 rw [← hx.out]
 have hz := Lib.hid (dig_size x hxl)
 have hz32 : Hid ((Z32 : Array Value).size = (cells8 x).toArray.size) := by show _ = _; simp [cells8_len, hxl, Z32]
 have ho := Lib.hid (dig_one x)
 replace hs := Lib.hid hs
 clear hxl
 replace hB := Lib.hid hB
 clear hfl
 have hcv : ∀ w', (convert 9 27 (.string s)).run Tryd.prog w' = .ok (.slice (some ⟨w'.heap.size, 0, none⟩) s.size (grownCap w' s.size 0 5)) (w'.drew.alloc (.cells (bytesRow s (grownCap w' s.size 0 5)) 5 ((bytesRow s (grownCap w' s.size 0 5)).size, (bytesRow s (grownCap w' s.size 0 5)).size + 1))) := fun w' => run_bytes_of_string w' _ _ _ s Tryd.underlying9 Tryd.underlying27 Tryd.underlying5
 go_enter Tryd.func86, Tryd.ntmps86
 go_wp2_with (first
  | (go_at_call 72; generalize hCg : grownCap _ s.size 0 5 = C; have hCt : s.size ≤ C := (by rw [← hCg]; exact grownCap_ge _ _ _ _); change Calls _ _ _ (((w.alloc (.cells Z32 23)).drew.alloc (.cells (bytesRow s C) 5 ((bytesRow s C).size, (bytesRow s C).size + 1))).alloc (.cells #[.slice (some ⟨w.heap.size + 1, 0, none⟩) s.size C] 27)) _; generalize hX : (((w.alloc (.cells Z32 23)).drew.alloc (.cells (bytesRow s C) 5 ((bytesRow s C).size, (bytesRow s C).size + 1))).alloc (.cells #[.slice (some ⟨w.heap.size + 1, 0, none⟩) s.size C] 27)) = X; obtain ⟨hpc, hbX, hRX⟩ := keyWorld w s C hCt hX; clear hCg hX; refine (of_any [nm s] 1 rfl (some ⟨w.heap.size + 2, 0, none⟩) 1 32 6 X (hB.out.below hbX hB.out.1) (by have := hs.out; simp [nm_len]; omega) (by omega) hpc).mono ?_; rw [← hx.out]; rintro e w3 ⟨rfl, hb3⟩; have hR3 : Hid (Blk w3 w.heap.size 23 Z32) := (hb3.block w.heap.size hRX.lt).trans hRX; have hbb : Hid (Below w.heap.size w w3) := hbX.trans (hb3.mono hbX.size); clear hpc hbX hRX hb3)
  | ((with_reducible change wpList _ _ _ ({ dst := none, op := Op.store 23 _ _, type := _, pos := _, after := _, guard := _ } :: _) _ _); refine wpList_store_row (o := ⟨none, _, _, _, _, _⟩) rfl 23 (.tmp 2) (.tmp 6) rfl w.heap.size (cells8 x).toArray rfl rfl 23 Z32 hR3.out hz.out hz32.out ho.out ?_))
 refine bodyPost_ret (results_cell_row rfl _ _ w.heap.size 23 (cells8 x).toArray (0, 0) _ rfl (setRow_heap _ _ _ _ _ _ hR3.out) Tryd.underlying23 rfl hz.out) rfl ?_
 exact ⟨rfl, below_setRow hbb.out (Nat.le_refl _) _⟩

set_option maxRecDepth 100000 in
set_option maxHeartbeats 1000000 in
theorem refkey_any (s : ByteArray) (hs : s.size < 140737488355327) (w : World) :
  Calls Tryd.prog 90 #[.string s] w fun e w' => e = .returned (.agg (cells8 (ixKey (nm s))).toArray) ∧ Below w.heap.size w w' := by
 obtain ⟨i0', hi0, iz0, iz1, iz2⟩ := info_parts8 info8
 have hfl : ixKey (nm s) = cutTo (sum (kb 6 :: [nm s].flatten)) (clampN 32) := by rw [cut32 _ (sum_len _)]; simp [ixKey]
 rw [hfl]
 obtain ⟨x, hx⟩ : ∃ x, Hid (x = cutTo (sum (kb 6 :: [nm s].flatten)) (clampN 32)) := ⟨_, rfl⟩
 have hxl : x.length = 32 := by rw [hx.out]; exact cutTo_len _ _ (sum_len _) (clampN_ok 32).2
 rw [← hx.out]
 have hz := Lib.hid (dig_size x hxl)
 have hz32 : Hid ((Z32 : Array Value).size = (cells8 x).toArray.size) := by show _ = _; simp [cells8_len, hxl, Z32]
 have ho := Lib.hid (dig_one x)
 replace hs := Lib.hid hs
 clear hxl
 have hsum : Hid (sum (kb 6 :: nm s) = x) := by show _ = _; rw [hx.out, ← hfl]; rfl
 clear hfl
 have hO : Hid (((w.alloc (.cells Z32 23)).alloc (.cells #[.int .u8 6] 5)).ownsRow (w.alloc (.cells Z32 23)).heap.size 5 1 (.slice (some ⟨(w.alloc (.cells Z32 23)).heap.size, 0, none⟩) 1 1) 1 (cells8 [6])) := RefCut.owns_new _ _ _
 have hV : Hid (Below (w.alloc (.cells Z32 23)).heap.size (w.alloc (.cells Z32 23)) ((w.alloc (.cells Z32 23)).alloc (.cells #[.int .u8 6] 5))) := Below.heap_below _ _
 have hR0 : Hid (Blk (w.alloc (.cells Z32 23)) w.heap.size 23 Z32) := Blk.new w _ _
 have hb0 : Hid (Below w.heap.size w (w.alloc (.cells Z32 23))) := Below.heap_below w _
 have hsz0 : Hid ((w.alloc (.cells Z32 23)).heap.size = w.heap.size + 1) := by show _ = _; simp
 have hs3 : Hid (w.heap.size + 1 ≤ ((w.alloc (.cells Z32 23)).alloc (.cells #[.int .u8 6] 5)).heap.size) := by show _ ≤ _; simp
 rw [hsz0.out] at hO hV
 go_enter Tryd.func90, Tryd.ntmps90
 go_wp2_with (first
  | ((with_reducible change wpList _ _ _ (⟨some 5, _, _, _, _, _⟩ :: _) _ _); refine Lib.wpList_append_own_string _ (o := ⟨some 5, _, _, _, _, _⟩) rfl (.tmp 3) (.tmp 4) 27 9 rfl (w.heap.size + 1) 5 i0' Tryd.underlying27 Tryd.underlying9 hi0 iz0 iz1 iz2 (.slice (some ⟨w.heap.size + 1, 0, none⟩) 1 1) 1 (cells8 [6]) rfl hO.out s rfl (by have := hs.out; unfold maxLen; omega) (by have := hs.out; omega) hs3.out ?_; intro v5 w5 ho5 hg5 _; obtain ⟨A5, c5, rfl, hO5, hb5⟩ := grew_string ho5 hg5 hV.out hs3.out hO.out; have hR5 : Hid (Blk w5 w.heap.size 23 Z32) := (hb5.out.block w.heap.size (by omega)).trans hR0.out; have hbw5 : Hid (Below w.heap.size w w5) := hb0.out.trans (hb5.out.mono (by omega)); obtain ⟨A6, c6, e6, hc6, hn6, hr6, -⟩ := Own.own_reads hO5.out; injection e6 with e6 _ e7; subst e6 e7; replace hr6 := Lib.hid hr6; clear ho5 hg5 hO5)
  | (go_at_call 40; refine (RefSum.refSum_any (kb 6 :: nm s) (1 + s.size) (by simp [nm_len]; omega) A5 c5 w5 (by have := hs.out; omega) hr6.out).mono ?_; rw [hsum.out]; rintro e w3 ⟨rfl, hb3⟩; have hR3 : Hid (Blk w3 w.heap.size 23 Z32) := (hb3.block w.heap.size hR5.out.lt).trans hR5.out; have hbb : Hid (Below w.heap.size w w3) := hbw5.out.trans (hb3.mono hbw5.out.size); clear hb3)
  | ((with_reducible change wpList _ _ _ ({ dst := none, op := Op.store 23 _ _, type := _, pos := _, after := _, guard := _ } :: _) _ _); refine wpList_store_row (o := ⟨none, _, _, _, _, _⟩) rfl 23 (.tmp 2) (.tmp 6) rfl w.heap.size (cells8 x).toArray rfl rfl 23 Z32 hR3.out hz.out hz32.out ho.out ?_))
 refine bodyPost_ret (results_cell_row rfl _ _ w.heap.size 23 (cells8 x).toArray (0, 0) _ rfl (setRow_heap _ _ _ _ _ _ hR3.out) Tryd.underlying23 rfl hz.out) rfl ?_
 exact ⟨rfl, below_setRow hbb.out (Nat.le_refl _) _⟩
end Go.Proofs.YtmdkfhfkdcbpgaaDoorR.Key

namespace Go.Proofs.YtmdkfhfkdcbpgaaDoorR.Empties
open Go Go.RowKit Go.Proofs.YtmdkfhfkdcbpgaaDoorR Mem Sha Bytes HashMem DigestMem RefOf TreeMem TreeRoot QuietTail Grown Go.Proofs.YtmdkfhfkdcbpgaaDoorR.Append Book Held TreeRefRoot ProofIdx3 TwiceP SparseP Key

theorem emp_step (s : Int) (h : Nat) : cutTo (sum (kb 4 :: (emp s h ++ emp s h))) (clampN s) = emp s (h + 1) := rfl
set_option maxRecDepth 100000 in
set_option maxHeartbeats 1000000 in
theorem empties_any (s : Int) (w : World) (hB : Base w) :
  Calls Tryd.prog 159 #[.int .i64 s] w fun e w' => ∃ g c, e = .returned (.slice (some ⟨g, 0, none⟩) 257 c) ∧ w'.ownsRow w.heap.size 23 32 (.slice (some ⟨g, 0, none⟩) 257 c) 257 ((emps s 257).flatMap cells8) ∧ Below w.heap.size w w' := by
 obtain ⟨i0, ii, iz0, iz1, iz2⟩ := info_partsN info32
 obtain ⟨x0, hx0⟩ : ∃ x, Hid (emp s 0 = x) := ⟨_, Lib.hid rfl⟩
 have hx0l : Hid (x0.length = 32) := by show _ = _; rw [← hx0.out]; exact emp_len s 0
 have q0 : Hid (∀ v ∈ [cells8 x0], v.length = 32) := by intro v hv; simp only [List.mem_singleton] at hv; rw [hv, cells8_len, hx0l.out]
 have x00 : Hid ([cells8 x0].flatten.toArray = (cells8 x0).toArray) := by show _ = _; simp
 have he1 : Hid ((emps s 1).flatMap cells8 = cells8 x0) := by show _ = _; rw [← hx0.out]; simp [emps]
 have hE0 : Hid (∀ w', Below w.heap.size w w' → Calls Tryd.prog 173 #[.int .i64 s, .int .i64 0] w' fun e w'' => e = .returned (.agg (cells8 x0).toArray) ∧ Below w'.heap.size w' w'') := fun w' hb => by rw [← hx0.out]; exact empty0_any s w' (hB.below hb hB.1)
 have hT := Lib.hid (fun x (hx : x.length = 32) w' (hb : Below w.heap.size w w') => branch_any x x hx hx s w' (hB.below hb hB.1))
 clear hB
 go_enter Tryd.func159, Tryd.ntmps159
 go_wp2_with (first
  | (go_at_call 173; refine (hE0.out w (Below.refl _ _)).mono ?_; rintro e w1 ⟨rfl, hk1⟩; have hb1 : Hid (Below w.heap.size w w1) := hk1; clear hk1)
  | ((with_reducible change wpList _ _ _ (⟨some 7, _, _, _, _, _⟩ :: _) _ _); refine wpList_buildAggs (o := ⟨some 7, _, _, _, _, _⟩) rfl 29 23 1 _ rfl 32 (by decide) [cells8 x0] Tryd.underlying29 size31 zero31 rfl (by decide) (by decide) q0.out rfl ?_; rw [x00.out]))
 have hO1 : Hid ((w1.alloc (.cells (cells8 x0).toArray 23)).ownsRow w.heap.size 23 32 (.slice (some ⟨w1.heap.size, 0, none⟩) 1 1) 1 ((emps s 1).flatMap cells8)) := by
  show World.ownsRow _ _ _ _ _ _ _
  rw [he1.out]
  exact World.ownsRow_lit (base := w.heap.size) (e := 23) (size := 32) w1 (cells8 x0).toArray 1 hb1.out.size (by decide) (by rw [List.size_toArray, cells8_len, hx0l.out])
 have hb2 : Hid (Below w.heap.size w (w1.alloc (.cells (cells8 x0).toArray 23))) := hb1.out.alloc hb1.out.size _
 go_loopw [3, 8] (fun uv v wr => ∃ (j p g cap : Nat), uv = .slice (some ⟨g, 0, none⟩) p cap ∧ v = .int .i64 (j : Int) ∧ Hid (p = j + 1) ∧ Hid (j ≤ 256) ∧ Hid (wr.ownsRow w.heap.size 23 32 (.slice (some ⟨g, 0, none⟩) p cap) p ((emps s p).flatMap cells8)) ∧ Hid (Below w.heap.size w wr)) (fun _ v _ => 257 - (intOf v).toNat)
 case atStart => exact ⟨0, 1, _, _, rfl, rfl, rfl, Nat.zero_le _, hO1.out, hb2.out⟩
 case round =>
  clear hO1 hb2 hb1 hE0 q0 x00 he1
  obtain ⟨j, p, g, cap, rfl, rfl, hp, hj, hO, hX⟩ := hrel
  by_cases hlt : j < 256
  ·obtain ⟨x, hx⟩ : ∃ x, Hid (emp s j = x) := ⟨_, Lib.hid rfl⟩
   have hxl : Hid (x.length = 32) := by show _ = _; rw [← hx.out]; exact emp_len s j
   have Fx := Lib.hid (fit (x := x) hxl.out)
   obtain ⟨z, hz⟩ : ∃ z, Hid (emp s (j + 1) = z) := ⟨_, Lib.hid rfl⟩
   have hzl : Hid (z.length = 32) := by show _ = _; rw [← hz.out]; exact emp_len s (j + 1)
   have hxL : (emps s p)[j]? = some x := by rw [emps_at s (by rw [hp.out]; omega), hx.out]
   have hup : Hid (emps s (p + 1) = emps s p ++ [z]) := by show _ = _; rw [emps_succ, ← hz.out, hp.out]
   have hRD := own_rd hO.out (emps_digs s p) (emps_len s p) _ _ rfl
   have hc : Hid (∀ k v, (cells8 x)[k]? = some v → wr.cell? ⟨g, j * 32 + k, none⟩ = some v) := fun k v hv => by
    obtain ⟨b, o, e, hbl, hc⟩ := hRD.at_ hxL
    injection e with e
    injection e with e1 e2
    subst e1 e2
    have := hc k v hv
    rwa [Nat.zero_add] at this
   have hTT : Hid (∀ w', Below w.heap.size w w' → Calls Tryd.prog 174 #[.int .i64 s, .agg (cells8 x).toArray, .agg (cells8 x).toArray] w' fun e w'' => e = .returned (.agg (cells8 z).toArray) ∧ Below w'.heap.size w' w'') := fun w' hb => by
    have := hT.out x hxl.out w' hb
    rwa [show cutTo (sum (kb 4 :: (x ++ x))) (clampN s) = z by rw [← hx.out, ← hz.out]; exact emp_step s j] at this
   have q1 : Hid (∀ v ∈ [cells8 z], v.length = 32) := by intro v hv; simp only [List.mem_singleton] at hv; rw [hv, cells8_len, hzl.out]
   have x1 : Hid ([cells8 z].flatten.toArray = (cells8 z).toArray) := by show _ = _; simp
   have hp256 : Hid (p ≤ 256) := by have := hp.out; show _ ≤ _; omega
   have z1 : (j : Int) < (p : Int) := by have := hp.out; omega
   have z2 : (j : Int) < 256 := by omega
   have z3 : (0 : Int) ≤ (j : Int) := by omega
   have z5 : (j : Int) + 1 ≤ 256 := by omega
   have z6 : IntKind.i64.wrap ((j : Int) + 1) = (j : Int) + 1 := IntWalk.i64_in _ (by omega)
   have z7 : IntKind.i64.wrap ((j : Int) + 1 - 1) = (j : Int) := by rw [IntWalk.i64_in _ (by omega)]; omega
   have z8 : IntKind.i64.wrap ((j : Int) + 1 + 1) = (j : Int) + 1 + 1 := IntWalk.i64_in _ (by omega)
   have z9 : IntKind.i64.wrap (j : Int) = (j : Int) := IntWalk.i64_in _ (by omega)
   have hj1 : Hid (j + 1 ≤ 256) := hlt
   have hw0 : Hid (Below w.heap.size w wr.drew) := hX.out.drew
   have hc0 : Hid (∀ k v, (cells8 x)[k]? = some v → wr.drew.cell? ⟨g, j * 32 + k, none⟩ = some v) := hc.out
   have hO0 : Hid (wr.drew.ownsRow w.heap.size 23 32 (.slice (some ⟨g, 0, none⟩) p cap) p ((emps s p).flatMap cells8)) := hO.out
   clear hxL hlt hz hx hRD hj hT hc
   go_wp2_with fail
   refine held_start (fun _ => True) 14 rfl (by kernel_rfl) ?_
   refine Held.tk0 (i := 0) (v := .slice (some ⟨g, 0, none⟩) p cap) rfl trivial (fun w' hw' => run_mv (.tmp 3) rfl w') ?_
   (intro K k; go_simp; apply k; clear k K)
   refine Held.tk0 (i := 1) (v := .int .i64 s) rfl trivial (fun w' hw' => run_mv (.tmp 0) rfl w') ?_
   (intro K k; go_simp; apply k; clear k K)
   refine Held.tk0 (i := 2) (v := .slice (some ⟨g, 0, none⟩) p cap) rfl trivial (fun w' hw' => run_mv (.tmp 3) rfl w') ?_
   (intro K k; go_simp; apply k; clear k K)
   refine Held.tk0 (i := 3) (v := .int .i64 (j : Int)) rfl trivial (fun w' hw' => run_mv (.tmp 4) rfl w') ?_
   (intro K k; go_simp; apply k; clear k K)
   refine Held.tk0 (i := 4) (v := .pointer (some ⟨g, j * 32, none⟩)) rfl trivial (fun w' hw' => by go_simp) ?_
   (intro K k; go_simp; apply k; clear k K)
   refine Held.tk0 (i := 6) (v := .slice (some ⟨g, 0, none⟩) p cap) rfl trivial (fun w' hw' => run_mv (.tmp 3) rfl w') ?_
   (intro K k; go_simp; apply k; clear k K)
   refine Held.tk0 (i := 7) (v := .int .i64 (j : Int)) rfl trivial (fun w' hw' => run_mv (.tmp 4) rfl w') ?_
   (intro K k; go_simp; apply k; clear k K)
   refine Held.tk0 (i := 8) (v := .pointer (some ⟨g, j * 32, none⟩)) rfl trivial (fun w' hw' => by go_simp) ?_
   (intro K k; go_simp; apply k; clear k K)
   refine held_two (i := 5) (j := 9) rfl rfl (by kernel_rfl) (by rfl) (by rfl) (fun K hK => ?_) (fun K hK => ?_)
   ·refine wp_load_part 23 (.tmp 15) rfl g (j * 32) rfl (cells8 x) _ hc0.out Tryd.underlying23 rfl Fx.out.part ?_
    go_simp
    refine hK _ _ trivial ?_
    clear hK K
    refine held_only (i := 9) rfl (by kernel_rfl) (by rfl) (fun K hK => ?_)
    refine wp_load_part 23 (.tmp 19) rfl g (j * 32) rfl (cells8 x) _ hc0.out Tryd.underlying23 rfl Fx.out.part ?_
    go_simp
    refine hK _ _ trivial ?_
    clear hK K
    refine held_only (i := 10) rfl (by kernel_rfl) (by rfl) (fun K hK => ?_)
    refine wp_fn (R := fun v w'' => v = .agg (cells8 z).toArray ∧ Below wr.drew.heap.size wr.drew w'') (args := #[.int .i64 s, .agg (cells8 x).toArray, .agg (cells8 x).toArray]) _ _ rfl rfl Tryd.func174 (by kernel_rfl) (by kernel_rfl) ((hTT.out wr.drew hw0.out).mono fun e w'' ⟨he, hb⟩ => ⟨_, he, rfl, hb⟩) ?_
    rintro v1 w1 ⟨rfl, hb1⟩
    replace hb1 := Lib.hid hb1
    go_simp
    refine hK _ _ trivial ?_
    clear hK K
    have hO' := Lib.hid (own_below (own_below hO0.out hb1.out) (Below.heap_below w1 (.cells (cells8 z).toArray 23)))
    have hX' : Hid (Below w.heap.size w (w1.alloc (.cells (cells8 z).toArray 23))) := (hw0.out.trans (hb1.out.mono hw0.out.size)).alloc (hw0.out.trans (hb1.out.mono hw0.out.size)).size _
    have hnew : Hid (Reads (w1.alloc (.cells (cells8 z).toArray 23)) 32 (some ⟨w1.heap.size, 0, none⟩) 1 (cells8 z)) := Blk.reads (Blk.new w1 23 (cells8 z).toArray) 0 _ (by rw [cells8_len, hzl.out]) (fun k u hu => by rw [Nat.zero_add, List.getElem?_toArray]; exact hu)
    have hc1 : Hid (p + 1 ≤ maxLen) := by have := hp256.out; show _ ≤ _; unfold maxLen; omega
    have hc3 : Hid ((p + 1) * 32 ≤ 140737488355328) := by have := hp256.out; show _ ≤ _; omega
    refine held_only (i := 11) rfl (by kernel_rfl) (by rfl) (fun K hK => ?_)
    refine wp_buildAggs 29 23 1 _ rfl 32 (by decide) [cells8 z] Tryd.underlying29 size31 zero31 rfl (by decide) (by decide) q1.out rfl ?_
    rw [x1.out]
    go_simp
    refine hK _ _ trivial ?_
    clear hK K
    refine held_only (i := 12) rfl (by kernel_rfl) (by rfl) (fun K hK => ?_)
    refine wp_append_src _ (.tmp 11) (.tmp 22) 29 rfl w.heap.size 23 i0 (.agg Z32) 32 32 Tryd.underlying29 ii iz0 iz1 iz2 rfl (by decide) (.slice (some ⟨g, 0, none⟩) p cap) p ((emps s p).flatMap cells8) rfl hO'.out (some ⟨w1.heap.size, 0, none⟩) 1 1 (cells8 z) rfl hnew.out (fun e => by cases e) (cells8_one z) hc1.out hc3.out hX'.out.size ?_
    intro v3 w3 hG
    have hO2 : Hid (w3.ownsRow w.heap.size 23 32 v3 (p + 1) ((emps s (p + 1)).flatMap cells8)) := (by show World.ownsRow _ _ _ _ _ _ _; rw [hup.out, List.flatMap_append, List.flatMap_singleton]; exact hG.own)
    have hX2 : Hid (Below w.heap.size w w3) := hG.below hX'.out hX'.out.size (fun k e => (hO'.out.lt k e).1)
    obtain ⟨g3, cap3, rfl, -, -⟩ := hO2.out.form (Nat.succ_pos _)
    clear hG hO' hX' hnew hc1 hc3
    go_simp
    refine hK _ _ trivial ?_
    clear hK K
    refine Held.tk0 (i := 13) (v := .slice (some ⟨g3, 0, none⟩) (p + 1) cap3) rfl trivial (fun w' hw' => by first | go_simp | rfl) ?_
    (intro K k; go_simp; apply k; clear k K)
    refine held_end (by kernel_rfl) ?_
    go_wp2_with fail
    go_roundw
    case rel => exact ⟨j + 1, p + 1, _, _, rfl, by go_num, (show p + 1 = j + 1 + 1 by have := hp.out; omega), hj1.out, hO2.out, hX2.out⟩
    case measure => (have := hj1.out; simp [intOf]; omega)
   ·refine wp_load_part 23 (.tmp 19) rfl g (j * 32) rfl (cells8 x) _ hc0.out Tryd.underlying23 rfl Fx.out.part ?_
    go_simp
    refine hK _ _ trivial ?_
    clear hK K
    refine held_only (i := 5) rfl (by kernel_rfl) (by rfl) (fun K hK => ?_)
    refine wp_load_part 23 (.tmp 15) rfl g (j * 32) rfl (cells8 x) _ hc0.out Tryd.underlying23 rfl Fx.out.part ?_
    go_simp
    refine hK _ _ trivial ?_
    clear hK K
    refine held_only (i := 10) rfl (by kernel_rfl) (by rfl) (fun K hK => ?_)
    refine wp_fn (R := fun v w'' => v = .agg (cells8 z).toArray ∧ Below wr.drew.heap.size wr.drew w'') (args := #[.int .i64 s, .agg (cells8 x).toArray, .agg (cells8 x).toArray]) _ _ rfl rfl Tryd.func174 (by kernel_rfl) (by kernel_rfl) ((hTT.out wr.drew hw0.out).mono fun e w'' ⟨he, hb⟩ => ⟨_, he, rfl, hb⟩) ?_
    rintro v1 w1 ⟨rfl, hb1⟩
    replace hb1 := Lib.hid hb1
    go_simp
    refine hK _ _ trivial ?_
    clear hK K
    have hO' := Lib.hid (own_below (own_below hO0.out hb1.out) (Below.heap_below w1 (.cells (cells8 z).toArray 23)))
    have hX' : Hid (Below w.heap.size w (w1.alloc (.cells (cells8 z).toArray 23))) := (hw0.out.trans (hb1.out.mono hw0.out.size)).alloc (hw0.out.trans (hb1.out.mono hw0.out.size)).size _
    have hnew : Hid (Reads (w1.alloc (.cells (cells8 z).toArray 23)) 32 (some ⟨w1.heap.size, 0, none⟩) 1 (cells8 z)) := Blk.reads (Blk.new w1 23 (cells8 z).toArray) 0 _ (by rw [cells8_len, hzl.out]) (fun k u hu => by rw [Nat.zero_add, List.getElem?_toArray]; exact hu)
    have hc1 : Hid (p + 1 ≤ maxLen) := by have := hp256.out; show _ ≤ _; unfold maxLen; omega
    have hc3 : Hid ((p + 1) * 32 ≤ 140737488355328) := by have := hp256.out; show _ ≤ _; omega
    refine held_only (i := 11) rfl (by kernel_rfl) (by rfl) (fun K hK => ?_)
    refine wp_buildAggs 29 23 1 _ rfl 32 (by decide) [cells8 z] Tryd.underlying29 size31 zero31 rfl (by decide) (by decide) q1.out rfl ?_
    rw [x1.out]
    go_simp
    refine hK _ _ trivial ?_
    clear hK K
    refine held_only (i := 12) rfl (by kernel_rfl) (by rfl) (fun K hK => ?_)
    refine wp_append_src _ (.tmp 11) (.tmp 22) 29 rfl w.heap.size 23 i0 (.agg Z32) 32 32 Tryd.underlying29 ii iz0 iz1 iz2 rfl (by decide) (.slice (some ⟨g, 0, none⟩) p cap) p ((emps s p).flatMap cells8) rfl hO'.out (some ⟨w1.heap.size, 0, none⟩) 1 1 (cells8 z) rfl hnew.out (fun e => by cases e) (cells8_one z) hc1.out hc3.out hX'.out.size ?_
    intro v3 w3 hG
    have hO2 : Hid (w3.ownsRow w.heap.size 23 32 v3 (p + 1) ((emps s (p + 1)).flatMap cells8)) := (by show World.ownsRow _ _ _ _ _ _ _; rw [hup.out, List.flatMap_append, List.flatMap_singleton]; exact hG.own)
    have hX2 : Hid (Below w.heap.size w w3) := hG.below hX'.out hX'.out.size (fun k e => (hO'.out.lt k e).1)
    obtain ⟨g3, cap3, rfl, -, -⟩ := hO2.out.form (Nat.succ_pos _)
    clear hG hO' hX' hnew hc1 hc3
    go_simp
    refine hK _ _ trivial ?_
    clear hK K
    refine Held.tk0 (i := 13) (v := .slice (some ⟨g3, 0, none⟩) (p + 1) cap3) rfl trivial (fun w' hw' => by first | go_simp | rfl) ?_
    (intro K k; go_simp; apply k; clear k K)
    refine held_end (by kernel_rfl) ?_
    go_wp2_with fail
    go_roundw
    case rel => exact ⟨j + 1, p + 1, _, _, rfl, by go_num, (show p + 1 = j + 1 + 1 by have := hp.out; omega), hj1.out, hO2.out, hX2.out⟩
    case measure => (have := hj1.out; simp [intOf]; omega)
  ·obtain rfl : j = 256 := by have := hj.out; omega
   obtain rfl : p = 257 := hp.out
   go_wp2_with fail
   go_ret
   exact ⟨_, _, rfl, hO.out, hX.out⟩

set_option maxRecDepth 100000 in
set_option maxHeartbeats 1000000 in
theorem refempties_any (s : Int) (w : World) (hs63 : s < 9223372036854775808) :
  Calls Tryd.prog 143 #[.int .i64 s] w fun e w' => ∃ g c, e = .returned (.slice (some ⟨g, 0, none⟩) 257 c) ∧ w'.ownsRow w.heap.size 23 32 (.slice (some ⟨g, 0, none⟩) 257 c) 257 ((emps s 257).flatMap cells8) ∧ Below w.heap.size w w' := by
 obtain ⟨i0, ii, iz0, iz1, iz2⟩ := info_partsN info32
 obtain ⟨x0, hx0⟩ : ∃ x, Hid (emp s 0 = x) := ⟨_, Lib.hid rfl⟩
 have hx0l : Hid (x0.length = 32) := by show _ = _; rw [← hx0.out]; exact emp_len s 0
 have q0 : Hid (∀ v ∈ [cells8 x0], v.length = 32) := by intro v hv; simp only [List.mem_singleton] at hv; rw [hv, cells8_len, hx0l.out]
 have x00 : Hid ([cells8 x0].flatten.toArray = (cells8 x0).toArray) := by show _ = _; simp
 have he1 : Hid ((emps s 1).flatMap cells8 = cells8 x0) := by show _ = _; rw [← hx0.out]; simp [emps]
 have hE0 : Hid (∀ w', Calls Tryd.prog 74 #[.int .i64 s, .int .i64 5, .slice none 0 0] w' fun e w'' => e = .returned (.agg (cells8 x0).toArray) ∧ Below w'.heap.size w' w'') := fun w' => by rw [← hx0.out]; exact refOf_any [] 0 rfl none 0 s 5 hs63 w' (by simp) (by omega) (fun h => absurd h (Nat.lt_irrefl 0))
 have hT := Lib.hid (fun x (hx : x.length = 32) w' (_ : Below w.heap.size w w') => refbranch_any x x hx hx s w' hs63)
 clear hs63
 go_enter Tryd.func143, Tryd.ntmps143
 go_wp2_with (first
  | (go_at_call 74; refine (hE0.out w).mono ?_; rintro e w1 ⟨rfl, hk1⟩; have hb1 : Hid (Below w.heap.size w w1) := hk1; clear hk1)
  | ((with_reducible change wpList _ _ _ (⟨some 7, _, _, _, _, _⟩ :: _) _ _); refine wpList_buildAggs (o := ⟨some 7, _, _, _, _, _⟩) rfl 29 23 1 _ rfl 32 (by decide) [cells8 x0] Tryd.underlying29 size31 zero31 rfl (by decide) (by decide) q0.out rfl ?_; rw [x00.out]))
 have hO1 : Hid ((w1.alloc (.cells (cells8 x0).toArray 23)).ownsRow w.heap.size 23 32 (.slice (some ⟨w1.heap.size, 0, none⟩) 1 1) 1 ((emps s 1).flatMap cells8)) := by
  show World.ownsRow _ _ _ _ _ _ _
  rw [he1.out]
  exact World.ownsRow_lit (base := w.heap.size) (e := 23) (size := 32) w1 (cells8 x0).toArray 1 hb1.out.size (by decide) (by rw [List.size_toArray, cells8_len, hx0l.out])
 have hb2 : Hid (Below w.heap.size w (w1.alloc (.cells (cells8 x0).toArray 23))) := hb1.out.alloc hb1.out.size _
 go_loopw [3, 4] (fun uv v wr => ∃ (j p g cap : Nat), uv = .slice (some ⟨g, 0, none⟩) p cap ∧ v = .int .i64 ((j : Int) + 1) ∧ Hid (p = j + 1) ∧ Hid (j ≤ 256) ∧ Hid (wr.ownsRow w.heap.size 23 32 (.slice (some ⟨g, 0, none⟩) p cap) p ((emps s p).flatMap cells8)) ∧ Hid (Below w.heap.size w wr)) (fun _ v _ => 257 - (intOf v).toNat)
 case atStart => exact ⟨0, 1, _, _, rfl, rfl, rfl, Nat.zero_le _, hO1.out, hb2.out⟩
 case round =>
  clear hO1 hb2 hb1 hE0 q0 x00 he1
  obtain ⟨j, p, g, cap, rfl, rfl, hp, hj, hO, hX⟩ := hrel
  by_cases hlt : j < 256
  ·obtain ⟨x, hx⟩ : ∃ x, Hid (emp s j = x) := ⟨_, Lib.hid rfl⟩
   have hxl : Hid (x.length = 32) := by show _ = _; rw [← hx.out]; exact emp_len s j
   have Fx := Lib.hid (fit (x := x) hxl.out)
   obtain ⟨z, hz⟩ : ∃ z, Hid (emp s (j + 1) = z) := ⟨_, Lib.hid rfl⟩
   have hzl : Hid (z.length = 32) := by show _ = _; rw [← hz.out]; exact emp_len s (j + 1)
   have hxL : (emps s p)[j]? = some x := by rw [emps_at s (by rw [hp.out]; omega), hx.out]
   have hup : Hid (emps s (p + 1) = emps s p ++ [z]) := by show _ = _; rw [emps_succ, ← hz.out, hp.out]
   have hRD := own_rd hO.out (emps_digs s p) (emps_len s p) _ _ rfl
   have hc : Hid (∀ k v, (cells8 x)[k]? = some v → wr.cell? ⟨g, j * 32 + k, none⟩ = some v) := fun k v hv => by
    obtain ⟨b, o, e, hbl, hc⟩ := hRD.at_ hxL
    injection e with e
    injection e with e1 e2
    subst e1 e2
    have := hc k v hv
    rwa [Nat.zero_add] at this
   have hTT : Hid (∀ w', Below w.heap.size w w' → Calls Tryd.prog 164 #[.int .i64 s, .agg (cells8 x).toArray, .agg (cells8 x).toArray] w' fun e w'' => e = .returned (.agg (cells8 z).toArray) ∧ Below w'.heap.size w' w'') := fun w' hb => by
    have := hT.out x hxl.out w' hb
    rwa [show cutTo (sum (kb 4 :: (x ++ x))) (clampN s) = z by rw [← hx.out, ← hz.out]; exact emp_step s j] at this
   have q1 : Hid (∀ v ∈ [cells8 z], v.length = 32) := by intro v hv; simp only [List.mem_singleton] at hv; rw [hv, cells8_len, hzl.out]
   have x1 : Hid ([cells8 z].flatten.toArray = (cells8 z).toArray) := by show _ = _; simp
   have hp256 : Hid (p ≤ 256) := by have := hp.out; show _ ≤ _; omega
   have z1 : (j : Int) < (p : Int) := by have := hp.out; omega
   have z2 : (j : Int) < 256 := by omega
   have z3 : (0 : Int) ≤ (j : Int) := by omega
   have z5 : (j : Int) + 1 ≤ 256 := by omega
   have z6 : IntKind.i64.wrap ((j : Int) + 1) = (j : Int) + 1 := IntWalk.i64_in _ (by omega)
   have z7 : IntKind.i64.wrap ((j : Int) + 1 - 1) = (j : Int) := by rw [IntWalk.i64_in _ (by omega)]; omega
   have z8 : IntKind.i64.wrap ((j : Int) + 1 + 1) = (j : Int) + 1 + 1 := IntWalk.i64_in _ (by omega)
   have z9 : IntKind.i64.wrap (j : Int) = (j : Int) := IntWalk.i64_in _ (by omega)
   have hj1 : Hid (j + 1 ≤ 256) := hlt
   have hw0 : Hid (Below w.heap.size w wr.drew) := hX.out.drew
   have hc0 : Hid (∀ k v, (cells8 x)[k]? = some v → wr.drew.cell? ⟨g, j * 32 + k, none⟩ = some v) := hc.out
   have hO0 : Hid (wr.drew.ownsRow w.heap.size 23 32 (.slice (some ⟨g, 0, none⟩) p cap) p ((emps s p).flatMap cells8)) := hO.out
   clear hxL hlt hz hx hRD hj hT hc
   go_wp2_with fail
   refine held_start (fun _ => True) 16 rfl (by kernel_rfl) ?_
   refine Held.tk0 (i := 0) (v := .slice (some ⟨g, 0, none⟩) p cap) rfl trivial (fun w' hw' => run_mv (.tmp 3) rfl w') ?_
   (intro K k; go_simp; apply k; clear k K)
   refine Held.tk0 (i := 1) (v := .int .i64 s) rfl trivial (fun w' hw' => run_mv (.tmp 0) rfl w') ?_
   (intro K k; go_simp; apply k; clear k K)
   refine Held.tk0 (i := 2) (v := .slice (some ⟨g, 0, none⟩) p cap) rfl trivial (fun w' hw' => run_mv (.tmp 3) rfl w') ?_
   (intro K k; go_simp; apply k; clear k K)
   refine Held.tk0 (i := 3) (v := .int .i64 ((j : Int) + 1)) rfl trivial (fun w' hw' => run_mv (.tmp 4) rfl w') ?_
   (intro K k; go_simp; apply k; clear k K)
   refine Held.tk0 (i := 4) (v := .int .i64 (j : Int)) rfl trivial (fun w' hw' => by go_simp) ?_
   (intro K k; go_simp; apply k; clear k K)
   refine Held.tk0 (i := 5) (v := .pointer (some ⟨g, j * 32, none⟩)) rfl trivial (fun w' hw' => by go_simp) ?_
   (intro K k; go_simp; apply k; clear k K)
   refine Held.tk0 (i := 7) (v := .slice (some ⟨g, 0, none⟩) p cap) rfl trivial (fun w' hw' => run_mv (.tmp 3) rfl w') ?_
   (intro K k; go_simp; apply k; clear k K)
   refine Held.tk0 (i := 8) (v := .int .i64 ((j : Int) + 1)) rfl trivial (fun w' hw' => run_mv (.tmp 4) rfl w') ?_
   (intro K k; go_simp; apply k; clear k K)
   refine Held.tk0 (i := 9) (v := .int .i64 (j : Int)) rfl trivial (fun w' hw' => by go_simp) ?_
   (intro K k; go_simp; apply k; clear k K)
   refine Held.tk0 (i := 10) (v := .pointer (some ⟨g, j * 32, none⟩)) rfl trivial (fun w' hw' => by go_simp) ?_
   (intro K k; go_simp; apply k; clear k K)
   refine held_two (i := 6) (j := 11) rfl rfl (by kernel_rfl) (by rfl) (by rfl) (fun K hK => ?_) (fun K hK => ?_)
   ·refine wp_load_part 23 (.tmp 17) rfl g (j * 32) rfl (cells8 x) _ hc0.out Tryd.underlying23 rfl Fx.out.part ?_
    go_simp
    refine hK _ _ trivial ?_
    clear hK K
    refine held_only (i := 11) rfl (by kernel_rfl) (by rfl) (fun K hK => ?_)
    refine wp_load_part 23 (.tmp 22) rfl g (j * 32) rfl (cells8 x) _ hc0.out Tryd.underlying23 rfl Fx.out.part ?_
    go_simp
    refine hK _ _ trivial ?_
    clear hK K
    refine held_only (i := 12) rfl (by kernel_rfl) (by rfl) (fun K hK => ?_)
    refine wp_fn (R := fun v w'' => v = .agg (cells8 z).toArray ∧ Below wr.drew.heap.size wr.drew w'') (args := #[.int .i64 s, .agg (cells8 x).toArray, .agg (cells8 x).toArray]) _ _ rfl rfl Tryd.func164 (by kernel_rfl) (by kernel_rfl) ((hTT.out wr.drew hw0.out).mono fun e w'' ⟨he, hb⟩ => ⟨_, he, rfl, hb⟩) ?_
    rintro v1 w1 ⟨rfl, hb1⟩
    replace hb1 := Lib.hid hb1
    go_simp
    refine hK _ _ trivial ?_
    clear hK K
    have hO' := Lib.hid (own_below (own_below hO0.out hb1.out) (Below.heap_below w1 (.cells (cells8 z).toArray 23)))
    have hX' : Hid (Below w.heap.size w (w1.alloc (.cells (cells8 z).toArray 23))) := (hw0.out.trans (hb1.out.mono hw0.out.size)).alloc (hw0.out.trans (hb1.out.mono hw0.out.size)).size _
    have hnew : Hid (Reads (w1.alloc (.cells (cells8 z).toArray 23)) 32 (some ⟨w1.heap.size, 0, none⟩) 1 (cells8 z)) := Blk.reads (Blk.new w1 23 (cells8 z).toArray) 0 _ (by rw [cells8_len, hzl.out]) (fun k u hu => by rw [Nat.zero_add, List.getElem?_toArray]; exact hu)
    have hc1 : Hid (p + 1 ≤ maxLen) := by have := hp256.out; show _ ≤ _; unfold maxLen; omega
    have hc3 : Hid ((p + 1) * 32 ≤ 140737488355328) := by have := hp256.out; show _ ≤ _; omega
    refine held_only (i := 13) rfl (by kernel_rfl) (by rfl) (fun K hK => ?_)
    refine wp_buildAggs 29 23 1 _ rfl 32 (by decide) [cells8 z] Tryd.underlying29 size31 zero31 rfl (by decide) (by decide) q1.out rfl ?_
    rw [x1.out]
    go_simp
    refine hK _ _ trivial ?_
    clear hK K
    refine held_only (i := 14) rfl (by kernel_rfl) (by rfl) (fun K hK => ?_)
    refine wp_append_src _ (.tmp 12) (.tmp 25) 29 rfl w.heap.size 23 i0 (.agg Z32) 32 32 Tryd.underlying29 ii iz0 iz1 iz2 rfl (by decide) (.slice (some ⟨g, 0, none⟩) p cap) p ((emps s p).flatMap cells8) rfl hO'.out (some ⟨w1.heap.size, 0, none⟩) 1 1 (cells8 z) rfl hnew.out (fun e => by cases e) (cells8_one z) hc1.out hc3.out hX'.out.size ?_
    intro v3 w3 hG
    have hO2 : Hid (w3.ownsRow w.heap.size 23 32 v3 (p + 1) ((emps s (p + 1)).flatMap cells8)) := (by show World.ownsRow _ _ _ _ _ _ _; rw [hup.out, List.flatMap_append, List.flatMap_singleton]; exact hG.own)
    have hX2 : Hid (Below w.heap.size w w3) := hG.below hX'.out hX'.out.size (fun k e => (hO'.out.lt k e).1)
    obtain ⟨g3, cap3, rfl, -, -⟩ := hO2.out.form (Nat.succ_pos _)
    clear hG hO' hX' hnew hc1 hc3
    go_simp
    refine hK _ _ trivial ?_
    clear hK K
    refine Held.tk0 (i := 15) (v := .slice (some ⟨g3, 0, none⟩) (p + 1) cap3) rfl trivial (fun w' hw' => by first | go_simp | rfl) ?_
    (intro K k; go_simp; apply k; clear k K)
    refine held_end (by kernel_rfl) ?_
    go_wp2_with fail
    go_roundw
    case rel => exact ⟨j + 1, p + 1, _, _, rfl, by go_num, (show p + 1 = j + 1 + 1 by have := hp.out; omega), hj1.out, hO2.out, hX2.out⟩
    case measure => (have := hj1.out; simp [intOf]; omega)
   ·refine wp_load_part 23 (.tmp 22) rfl g (j * 32) rfl (cells8 x) _ hc0.out Tryd.underlying23 rfl Fx.out.part ?_
    go_simp
    refine hK _ _ trivial ?_
    clear hK K
    refine held_only (i := 6) rfl (by kernel_rfl) (by rfl) (fun K hK => ?_)
    refine wp_load_part 23 (.tmp 17) rfl g (j * 32) rfl (cells8 x) _ hc0.out Tryd.underlying23 rfl Fx.out.part ?_
    go_simp
    refine hK _ _ trivial ?_
    clear hK K
    refine held_only (i := 12) rfl (by kernel_rfl) (by rfl) (fun K hK => ?_)
    refine wp_fn (R := fun v w'' => v = .agg (cells8 z).toArray ∧ Below wr.drew.heap.size wr.drew w'') (args := #[.int .i64 s, .agg (cells8 x).toArray, .agg (cells8 x).toArray]) _ _ rfl rfl Tryd.func164 (by kernel_rfl) (by kernel_rfl) ((hTT.out wr.drew hw0.out).mono fun e w'' ⟨he, hb⟩ => ⟨_, he, rfl, hb⟩) ?_
    rintro v1 w1 ⟨rfl, hb1⟩
    replace hb1 := Lib.hid hb1
    go_simp
    refine hK _ _ trivial ?_
    clear hK K
    have hO' := Lib.hid (own_below (own_below hO0.out hb1.out) (Below.heap_below w1 (.cells (cells8 z).toArray 23)))
    have hX' : Hid (Below w.heap.size w (w1.alloc (.cells (cells8 z).toArray 23))) := (hw0.out.trans (hb1.out.mono hw0.out.size)).alloc (hw0.out.trans (hb1.out.mono hw0.out.size)).size _
    have hnew : Hid (Reads (w1.alloc (.cells (cells8 z).toArray 23)) 32 (some ⟨w1.heap.size, 0, none⟩) 1 (cells8 z)) := Blk.reads (Blk.new w1 23 (cells8 z).toArray) 0 _ (by rw [cells8_len, hzl.out]) (fun k u hu => by rw [Nat.zero_add, List.getElem?_toArray]; exact hu)
    have hc1 : Hid (p + 1 ≤ maxLen) := by have := hp256.out; show _ ≤ _; unfold maxLen; omega
    have hc3 : Hid ((p + 1) * 32 ≤ 140737488355328) := by have := hp256.out; show _ ≤ _; omega
    refine held_only (i := 13) rfl (by kernel_rfl) (by rfl) (fun K hK => ?_)
    refine wp_buildAggs 29 23 1 _ rfl 32 (by decide) [cells8 z] Tryd.underlying29 size31 zero31 rfl (by decide) (by decide) q1.out rfl ?_
    rw [x1.out]
    go_simp
    refine hK _ _ trivial ?_
    clear hK K
    refine held_only (i := 14) rfl (by kernel_rfl) (by rfl) (fun K hK => ?_)
    refine wp_append_src _ (.tmp 12) (.tmp 25) 29 rfl w.heap.size 23 i0 (.agg Z32) 32 32 Tryd.underlying29 ii iz0 iz1 iz2 rfl (by decide) (.slice (some ⟨g, 0, none⟩) p cap) p ((emps s p).flatMap cells8) rfl hO'.out (some ⟨w1.heap.size, 0, none⟩) 1 1 (cells8 z) rfl hnew.out (fun e => by cases e) (cells8_one z) hc1.out hc3.out hX'.out.size ?_
    intro v3 w3 hG
    have hO2 : Hid (w3.ownsRow w.heap.size 23 32 v3 (p + 1) ((emps s (p + 1)).flatMap cells8)) := (by show World.ownsRow _ _ _ _ _ _ _; rw [hup.out, List.flatMap_append, List.flatMap_singleton]; exact hG.own)
    have hX2 : Hid (Below w.heap.size w w3) := hG.below hX'.out hX'.out.size (fun k e => (hO'.out.lt k e).1)
    obtain ⟨g3, cap3, rfl, -, -⟩ := hO2.out.form (Nat.succ_pos _)
    clear hG hO' hX' hnew hc1 hc3
    go_simp
    refine hK _ _ trivial ?_
    clear hK K
    refine Held.tk0 (i := 15) (v := .slice (some ⟨g3, 0, none⟩) (p + 1) cap3) rfl trivial (fun w' hw' => by first | go_simp | rfl) ?_
    (intro K k; go_simp; apply k; clear k K)
    refine held_end (by kernel_rfl) ?_
    go_wp2_with fail
    go_roundw
    case rel => exact ⟨j + 1, p + 1, _, _, rfl, by go_num, (show p + 1 = j + 1 + 1 by have := hp.out; omega), hj1.out, hO2.out, hX2.out⟩
    case measure => (have := hj1.out; simp [intOf]; omega)
  ·obtain rfl : j = 256 := by have := hj.out; omega
   obtain rfl : p = 257 := hp.out
   go_wp2_with fail
   go_ret
   exact ⟨_, _, rfl, hO.out, hX.out⟩
end Go.Proofs.YtmdkfhfkdcbpgaaDoorR.Empties

namespace Go.Proofs.YtmdkfhfkdcbpgaaDoorR.SpRows
open Go Go.RowKit Go.Proofs.YtmdkfhfkdcbpgaaDoorR Mem Sha Bytes HashMem DigestMem Digest TreeMem TreeRoot QuietTail Grown DigEq Book Held Want ProofIdx StructEq IdxAny TwiceP SparseP SpMem Formed Empties RowE

theorem qD : Tryd.prog.eqGuardType Tryd.prog.depth 23 = false := by kernel_rfl
theorem u8_in (x : Int) (h0 : 0 ≤ x) (h1 : x < 256) : IntKind.u8.wrap x = x := by
 simp only [IntKind.wrap, IntKind.bits, IntKind.signed]
 simp
 omega
theorem bit_u8 (x : BitVec 8) (m : Nat) : ∃ V U : Nat, x.toNat / 2 ^ m % 2 = U ∧ b8 x / 2 ^ m = (V : Int) ∧ bits .and .u8 (V : Int) 1 = (U : Int) ∧ IntKind.u8.wrap (V : Int) = (V : Int) ∧ U < 2 := by
 have hV := div_lt x m
 have h1 := b8_div x m
 generalize x.toNat / 2 ^ m = V at *
 exact ⟨V, V % 2, rfl, h1, (Formed.and_one ⟨V, hV⟩).1, u8_in _ (by omega) (by omega), by omega⟩
def RPost (w : World) (f : Bool) (cnt : Int) (ch d : Text) (n : Nat) (s : Int) (ds : List Text) (e : Ending) (w' : World) : Prop :=
 Below w.heap.size w w' ∧ ((okSp f cnt ch d n = false ∧ e = .returned (.tuple #[.slice none 0 0, .int .i64 8])) ∨ (okSp f cnt ch d n = true ∧ nbrs s d ds 256 = none ∧ e = .returned (.tuple #[.slice none 0 0, .int .i64 170])) ∨
  (okSp f cnt ch d n = true ∧ ∃ l g c, nbrs s d ds 256 = some l ∧ e = .returned (.tuple #[.slice (some ⟨g, 0, none⟩) 256 c, .int .i64 0]) ∧ RdD w' (some ⟨g, 0, none⟩) 256 l ∧ 256 ≤ c))
section
variable {w w' : World} {f : Bool} {cnt : Int} {ch d : Text} {n : Nat} {s : Int} {ds : List Text} {e : Ending}
theorem RPost.form (hb : Below w.heap.size w w') (h : okSp f cnt ch d n = false) (he : e = .returned (.tuple #[.slice none 0 0, .int .i64 8])) : RPost w f cnt ch d n s ds e w' := ⟨hb, .inl ⟨h, he⟩⟩
theorem RPost.bad (hb : Below w.heap.size w w') (h : okSp f cnt ch d n = true) (hn : nbrs s d ds 256 = none) (he : e = .returned (.tuple #[.slice none 0 0, .int .i64 170])) : RPost w f cnt ch d n s ds e w' := ⟨hb, .inr (.inl ⟨h, hn, he⟩)⟩
theorem RPost.good (hb : Below w.heap.size w w') (h : okSp f cnt ch d n = true) {l : List Text} {g c : Nat} (hn : nbrs s d ds 256 = some l) (he : e = .returned (.tuple #[.slice (some ⟨g, 0, none⟩) 256 c, .int .i64 0])) (hr : RdD w' (some ⟨g, 0, none⟩) 256 l) (hc : 256 ≤ c) : RPost w f cnt ch d n s ds e w' := ⟨hb, .inr (.inr ⟨h, l, g, c, hn, he, hr, hc⟩)⟩
end
theorem nbrs_up {s : Int} {d : Text} {ds : List Text} {h : Nat} {l : List Text} {x : Text} (hl : nbrs s d ds h = some l) (hx : nbr s d ds h = some x) : nbrs s d ds (h + 1) = some (l ++ [x]) := by
 show (match nbrs s d ds h with | none => none | some l => _) = _
 rw [hl]
 show (match nbr s d ds h with | none => none | some x => some (l ++ [x])) = _
 rw [hx]
theorem nbrs_stop {s : Int} {d : Text} {ds : List Text} {h : Nat} {l : List Text} (hl : nbrs s d ds h = some l) (hx : nbr s d ds h = none) (hh : h < 256) : nbrs s d ds 256 = none := by
 have h1 : nbrs s d ds (h + 1) = none := by
  show (match nbrs s d ds h with | none => none | some l => _) = _
  rw [hl]
  show (match nbr s d ds h with | none => none | some x => some (l ++ [x])) = _
  rw [hx]
 have := nbrs_none h1 (255 - h)
 rwa [show h + 1 + (255 - h) = 256 by omega] at this
theorem nbr_off {s : Int} {d : Text} {ds : List Text} {h : Nat} (hb : hbit d h = false) : nbr s d ds h = some (emp s h) := by unfold nbr; rw [if_neg (by rw [hb]; decide)]
theorem nbr_on {s : Int} {d : Text} {ds : List Text} {h : Nat} {x : Text} (hb : hbit d h = true) (hx : ds[nbits d h]? = some x) : nbr s d ds h = if x = emp s h ∨ cutTo x (clampN s) ≠ x then none else some x := by
 unfold nbr
 rw [if_pos hb, List.getD_eq_getElem?_getD, hx]
 rfl
theorem nbits_on {d : Text} {h : Nat} (hb : hbit d h = true) : nbits d (h + 1) = nbits d h + 1 := by show nbits d h + _ = _; rw [hb]; rfl
theorem nbits_off {d : Text} {h : Nat} (hb : hbit d h = false) : nbits d (h + 1) = nbits d h := by show nbits d h + _ = _; rw [hb]; rfl
theorem okSp_ones {f : Bool} {cnt : Int} {ch d : Text} {n : Nat} (h : okSp f cnt ch d n = true) : onesOf d = n := by
 by_cases hn : onesOf d = n
 ·exact hn
 ·rw [okSp_no hn] at h; cases h

set_option maxRecDepth 100000 in
set_option maxHeartbeats 2000000 in
theorem rows_any (cs : Array Value) (f : Bool) (cnt : Int) (ch d : Text) (hch : ch.length = 32) (hd : d.length = 32) (A : Option Addr) (n c : Nat) (hs : Sp cs f cnt ch d A n c) (s : Int) (ds : List Text) (w : World) (hB : Base w) (hr : RdD w A n ds) :
  Calls Tryd.prog 135 #[.agg cs, .int .i64 s] w fun e w' => RPost w f cnt ch d n s ds e w' := by
 obtain ⟨w1, hw1⟩ : ∃ w1, Hid (w1 = w.alloc (.cells cs 135)) := ⟨_, rfl⟩
 have hb0 : Hid (Below w.heap.size w w1) := by show Below _ _ _; rw [hw1.out]; exact Below.heap_below w _
 have hP1 : Hid (Blk w1 w.heap.size 135 cs) := by show Blk _ _ _ _; rw [hw1.out]; exact Blk.new w _ _
 have hsz : Hid ((Tryd.prog.info? 135).map (·.size) = some cs.size) := by show _ = _; rw [hs.size]; exact sizeSp
 have hF : Hid (∀ w', Calls Tryd.prog 158 #[.agg cs] w' fun e w'' => e = .returned (.bool (okSp f cnt ch d n)) ∧ Below w'.heap.size w' w'') := fun w' => formed_any cs f cnt ch d hch hd A n c hs w'
 have hE : Hid (∀ w', Below w.heap.size w w' → Calls Tryd.prog 159 #[.int .i64 s] w' fun e w'' => ∃ g c, e = .returned (.slice (some ⟨g, 0, none⟩) 257 c) ∧ w''.ownsRow w'.heap.size 23 32 (.slice (some ⟨g, 0, none⟩) 257 c) 257 ((emps s 257).flatMap cells8) ∧ Below w'.heap.size w' w'') := fun w' hb => empties_any s w' (hB.below hb hB.1)
 clear hB
 obtain ⟨ok, hok⟩ : ∃ b, okSp f cnt ch d n = b := ⟨_, rfl⟩
 rw [hok] at hF
 cases ok with
 | false =>
  replace hok := Lib.hid hok
  clear hE hr hs hch hd
  go_enter Tryd.func135, Tryd.ntmps135
  go_upto_region 1 with fail
  change Code.wp _ _ _ _ (w.alloc (.cells cs 135))
  rw [← hw1.out]
  go_wp2_with (first
   | ((with_reducible change wpList _ _ _ (⟨some 10, _, _, _, _, _⟩ :: _) _ _); refine wpList_load_row (o := ⟨some 10, _, _, _, _, _⟩) rfl 135 (.tmp 2) rfl (w.heap.size) rfl 135 (cs) (0, 0) _ hP1.out Tryd.underlying135 rfl hsz.out ?_)
   | (go_at_call 158; refine (hF.out w1).mono ?_; rintro e w2 ⟨rfl, hk⟩; have hb2 : Hid (Below w.heap.size w w2) := hb0.out.trans (hk.mono hb0.out.size); clear hk hF))
  go_ret2
  exact RPost.form hb2.out hok.out rfl
 | true =>
  have hones : Hid (onesOf d = n) := okSp_ones hok
  replace hok := Lib.hid hok
  have i66 : Hid (cs[66]? = some (.slice A n c)) := hs.sums
  have ibits := Lib.hid hs.bits
  have hdh := Lib.hid hd
  replace hr := Lib.hid hr
  clear hs hch hd
  go_enter Tryd.func135, Tryd.ntmps135
  go_upto_region 1 with fail
  change Code.wp _ _ _ _ (w.alloc (.cells cs 135))
  rw [← hw1.out]
  go_wp2_with (first
   | ((with_reducible change wpList _ _ _ (⟨some 10, _, _, _, _, _⟩ :: _) _ _); refine wpList_load_row (o := ⟨some 10, _, _, _, _, _⟩) rfl 135 (.tmp 2) rfl (w.heap.size) rfl 135 (cs) (0, 0) _ hP1.out Tryd.underlying135 rfl hsz.out ?_)
   | (go_at_call 158; refine (hF.out w1).mono ?_; rintro e w2 ⟨rfl, hk⟩; have hb2 : Hid (Below w.heap.size w w2) := hb0.out.trans (hk.mono hb0.out.size); have hP2 : Hid (Blk w2 w.heap.size 135 cs) := (hk.block _ hP1.out.lt).trans hP1.out; clear hk hF)
   | (go_at_call 159; refine (hE.out w2 hb2.out).mono ?_; rintro e w3 ⟨g, cg, rfl, ho, hk⟩; obtain ⟨hR0, hcg, hgB⟩ := RowE.of_own ho (emps_digs s 257) (emps_len s 257); have hb3 : Hid (Below w.heap.size w w3) := hb2.out.trans (hk.mono hb2.out.size); have hP3 : Hid (Blk w3 w.heap.size 135 cs) := (hk.block _ hP2.out.lt).trans hP2.out; have hsl := fun w => run_headD (A := some ⟨g, 0, none⟩) (n := 257) (c := cg) (k := 256) (by omega) 256 rfl w; have hgP : Hid (w.heap.size < g) := Nat.lt_of_lt_of_le hP2.out.lt hgB; replace hR0 := Lib.hid hR0; have hcg2 : Hid (256 ≤ cg) := (show 256 ≤ cg by omega); clear ho hk hE hgB hcg))
  clear hsl
  go_loopw [7, 18] (fun nx v wr => ∃ (h : Nat) (l : List Text), v = .int .i64 (h : Int) ∧ nx = .int .i64 (nbits d h : Nat) ∧ Hid (h ≤ 256) ∧ Hid (nbrs s d ds h = some l) ∧ Hid (RowE wr g (l ++ (emps s 257).drop h)) ∧ Hid (Blk wr w.heap.size 135 cs) ∧ Hid (Below w.heap.size w wr)) (fun _ v _ => 256 - (intOf v).toNat)
  case atStart => exact ⟨0, [], rfl, rfl, Nat.zero_le _, rfl, hR0.out, hP3.out, hb3.out⟩
  case round =>
   clear hR0 hP3 hb3 hP2 hb2 hP1 hb0
   obtain ⟨h, l, rfl, rfl, hh, hl, hR, hP, hW⟩ := hrel
   by_cases hlt : h < 256
   ·obtain ⟨q, hq⟩ : ∃ q, h / 8 = q := ⟨_, rfl⟩
    obtain ⟨m, hm⟩ : ∃ m, h % 8 = m := ⟨_, rfl⟩
    have z0 : (h : Int) < 256 := by omega
    have z00 : (0 : Int) ≤ (h : Int) := by omega
    have hq32 : q < 32 := by omega
    have hm8 : m < 8 := by omega
    have z1 : (0 : Int) ≤ (q : Int) := by omega
    have z2 : (q : Int) < 32 := by omega
    have z3 : (m : Int) < 8 := by omega
    have z4 : (0 : Int) ≤ (m : Int) := by omega
    have z8 : IntKind.i64.wrap (q : Int) = (q : Int) := IntWalk.i64_in _ (by omega)
    have z9 : IntKind.i64.wrap (m : Int) = (m : Int) := IntWalk.i64_in _ (by omega)
    have z10 : IntKind.i64.wrap ((h : Int) + 1) = (h : Int) + 1 := IntWalk.i64_in _ (by omega)
    have e1 : (h : Int).tdiv 8 = (q : Int) := by rw [Int.tdiv_eq_ediv_of_nonneg (by omega)]; omega
    have e2 : (h : Int).tmod 8 = (m : Int) := by rw [Int.tmod_eq_emod_of_nonneg (by omega)]; omega
    obtain ⟨x, hx⟩ : ∃ x, d[q]? = some x := ⟨_, List.getElem?_eq_getElem (by rw [hdh.out]; omega)⟩
    have c8 : wr.cell? ⟨w.heap.size, 34 + q, none⟩ = some (.int .u8 (b8 x)) := (hP.out.cell _).trans (ibits.out q _ (by unfold cells8; rw [List.getElem?_map, hx]; rfl))
    obtain ⟨V, U, hU, e4, e5, e6, hU2⟩ := bit_u8 x m
    have hbe : hbit d h = (U == 1) := by
     unfold SparseP.hbit
     rw [hq, hm, List.getD_eq_getElem?_getD, hx]
     show (x.toNat / 2 ^ m % 2 == 1) = _
     rw [hU]
    have hll : Hid (l.length = h) := nbrs_len hl.out
    have hyE : Hid ((emps s 257)[h]? = some (emp s h)) := emps_at s (by omega)
    have hlth : Hid (h < 256) := hlt
    clear hlt hU hx hq hm
    by_cases hU0 : U = 0
    ·subst hU0
     have hnb : Hid (nbits d (h + 1) = nbits d h) := nbits_off hbe
     have hl1 : Hid (nbrs s d ds (h + 1) = some (l ++ [emp s h])) := nbrs_up hl.out (nbr_off hbe)
     have hR1 : Hid (RowE wr g ((l ++ [emp s h]) ++ (emps s 257).drop (h + 1))) := by have := hR.out; rw [mix_same l _ h _ hyE.out] at this; exact this
     clear hbe hR hyE hU2 hl
     go_wp2_with fail
     go_roundw
     case rel => exact ⟨h + 1, _, by go_num, by rw [hnb.out], hlth.out, hl1.out, hR1.out, hP.out, hW.out⟩
     case measure => (have := hlth.out; simp [intOf]; omega)
    ·obtain rfl : U = 1 := by omega
     have hbt : hbit d h = true := hbe
     have hnlt : nbits d h < n := by
      rw [← hones.out, ← nbits_all d hdh.out]
      exact nbits_lt d hbt hlth.out
     have hnb : Hid (nbits d (h + 1) = nbits d h + 1) := nbits_on hbt
     obtain ⟨xd, hxd⟩ : ∃ xd, ds[nbits d h]? = some xd := ⟨_, List.getElem?_eq_getElem (by rw [hr.out.1]; exact hnlt)⟩
     have hon := Lib.hid (nbr_on (s := s) hbt hxd)
     have hxl := Lib.hid (hr.out.2.1.at_ hxd)
     have Fx := Lib.hid (fit (x := xd) hxl.out)
     obtain ⟨b, o, rfl, hbw, hdc0⟩ := hr.out.at_ hxd
     obtain ⟨nb, hnbe⟩ : ∃ nb, Hid (nbits d h = nb) := ⟨_, Lib.hid rfl⟩
     rw [hnbe.out] at hnlt hdc0 hnb ⊢
     have hdc : Hid (∀ k v, (cells8 xd)[k]? = some v → wr.cell? ⟨b, o + nb * 32 + k, none⟩ = some v) := fun k v hv => (hW.out.cell (p := ⟨b, o + nb * 32 + k, none⟩) hbw).trans (hdc0 k v hv)
     have c66 : wr.cell? ⟨w.heap.size, 66, none⟩ = some (.slice (some ⟨b, o, none⟩) n c) := (hP.out.cell _).trans i66.out
     obtain ⟨y, hy⟩ : ∃ y, Hid (emp s h = y) := ⟨_, Lib.hid rfl⟩
     have hyl : Hid (y.length = 32) := by show _ = _; rw [← hy.out]; exact emp_len s h
     rw [hy.out] at hyE hon
     have Fy := Lib.hid (fit (x := y) hyl.out)
     have hnle := nbits_le d h
     rw [hnbe.out] at hnle
     have z11 : (nb : Int) < (n : Int) := by omega
     have z12 : (0 : Int) ≤ (nb : Int) := by omega
     have z13 : IntKind.i64.wrap ((nb : Int) + 1) = (nb : Int) + 1 := IntWalk.i64_in _ (by have := hlth.out; omega)
     obtain ⟨t1, ht1⟩ : ∃ t1, Hid (cutTo xd (clampN s) = t1) := ⟨_, Lib.hid rfl⟩
     have ht1l : Hid (t1.length = 32) := by show _ = _; rw [← ht1.out]; exact cutTo_len _ _ hxl.out (clampN_ok s).2
     rw [ht1.out] at hon
     have hcut : Hid (∀ w', Calls Tryd.prog 120 #[.agg (cells8 xd).toArray, .int .i64 s] w' fun e w'' => e = .returned (.agg (cells8 t1).toArray) ∧ Below w'.heap.size w' w'') := fun w' => by
      have := cut_any xd hxl.out s w'
      rwa [ht1.out] at this
     obtain ⟨wr0, hwr0⟩ : ∃ w0, Hid (w0 = wr) := ⟨_, Lib.hid rfl⟩
     clear hbe hbt hdc0 hbw hxd hU2 hnlt hnle hwr0
     go_wp2_with (first
      | ((with_reducible change wpList _ _ _ (⟨some 35, _, _, _, _, _⟩ :: _) _ _); refine wpList_load_part (o := ⟨some 35, _, _, _, _, _⟩) rfl 23 (.tmp 34) rfl (b) (o + nb * 32) rfl (cells8 xd) _ hdc.out Tryd.underlying23 rfl Fx.out.part ?_)
      | ((with_reducible change wpList _ _ _ ({ dst := none, op := Op.store 23 (.tmp 9) _, type := _, pos := _, after := _, guard := _ } :: _) _ _); refine wpList_store_whole (o := ⟨none, _, _, _, _, _⟩) rfl 23 (.tmp 9) (.tmp 35) rfl (wr.heap.size) ((cells8 xd).toArray) rfl rfl 23 (Z32) (Blk.new wr _ _) Fx.out.size Fx.out.zero Fx.out.one ?_; intro w4 hB4 hk4; have hb4 := Lib.hid (kept_fresh hk4); replace hB4 := Lib.hid hB4; clear hk4))
     have hRw := Lib.hid (hR.out.below hb4.out)
     have hyc : Hid (∀ w', Below w4.heap.size w4 w' → ∀ k v, (cells8 y)[k]? = some v → w'.cell? ⟨g, h * 32 + k, none⟩ = some v) := fun w' hb k v hv => (hb.cell (p := ⟨g, h * 32 + k, none⟩) hRw.out.lt).trans (hRw.out.cell (mix_at l _ h y hll.out hyE.out) k v hv)
     have hxc : Hid (∀ w', Below w4.heap.size w4 w' → Blk w' wr.heap.size 23 (cells8 xd).toArray) := fun w' hb => (hb.block _ hB4.out.lt).trans hB4.out
     have hWw : Hid (Below w.heap.size w w4) := hW.out.trans (hb4.out.mono hW.out.size)
     have hPw : Hid (Blk w4 w.heap.size 135 cs) := (hb4.out.block _ hP.out.lt).trans hP.out
     by_cases hxy : xd = y
     ·have hq1 : Hid (∀ w, (binOp .eql 23 (.agg (cells8 xd).toArray) (.agg (cells8 y).toArray)).run Tryd.prog w = .ok (.bool true) w) := fun w => by rw [eql_dig xd y hxl.out hyl.out w, decide_eq_true hxy]
      have hstop : Hid (nbrs s d ds 256 = none) := nbrs_stop hl.out (by rw [hon.out, if_pos (.inl hxy)]) hlth.out
      clear hon hxy
      refine q_region (Class w4) (by kernel_rfl) (by kernel_rfl) (Class.mk_ ((Below.refl _ _).drew)) ?_
      refine q_row rfl 23 (.tmp 9) rfl wr.heap.size rfl 23 ((cells8 xd).toArray) (0, 0) _ (fun w' hw' => hxc.out w' hw'.below) Tryd.underlying23 rfl Fx.out.size ?_
      (intro K k; go_simp; apply k; clear k K)
      refine q_move rfl (.tmp 6) rfl ?_
      (intro K k; go_simp; apply k; clear k K)
      refine q_move rfl (.tmp 8) rfl ?_
      (intro K k; go_simp; apply k; clear k K)
      refine Want.qv0 (.pointer (some ⟨g, h * 32, none⟩)) ?_
      (intro K k; go_simp; apply k; clear k K)
      refine q_part rfl 23 (.tmp 41) rfl g (h * 32) rfl (cells8 y) _ (fun w' hw' => hyc.out w' hw'.below) Tryd.underlying23 rfl Fy.out.part ?_
      (intro K k; go_simp; apply k; clear k K)
      refine q_val (v := .bool true) rfl (fun w' hw' => run_cmp rfl rfl rfl qD (hq1.out w')) ?_
      (intro K k; go_simp; apply k; clear k K)
      refine q_move rfl (.tmp 43) rfl ?_
      (intro K k; go_simp; apply k; clear k K)
      refine q_skip rfl ?_
      (intro K k; go_simp; apply k; clear k K)
      refine q_skip rfl ?_
      (intro K k; go_simp; apply k; clear k K)
      refine q_skip rfl ?_
      (intro K k; go_simp; apply k; clear k K)
      refine q_skip rfl ?_
      (intro K k; go_simp; apply k; clear k K)
      refine q_skip rfl ?_
      (intro K k; go_simp; apply k; clear k K)
      refine Want.qv0 (.bool true) ?_
      (intro K k; go_simp; apply k; clear k K)
      refine q_nil ?_
      intro w6 hw6
      have h6 : Hid (Below w4.heap.size w4 w6) := hw6.below
      clear hw6
      go_wp2_with fail
      go_ret2
      exact RPost.bad (hWw.out.trans (h6.out.mono hWw.out.size)) hok.out hstop.out rfl
     ·have hq1 : Hid (∀ w, (binOp .eql 23 (.agg (cells8 xd).toArray) (.agg (cells8 y).toArray)).run Tryd.prog w = .ok (.bool false) w) := fun w => by rw [eql_dig xd y hxl.out hyl.out w, decide_eq_false hxy]
      by_cases hct : t1 = xd
      ·have hq2 : Hid (∀ w, (binOp .neq 23 (.agg (cells8 t1).toArray) (.agg (cells8 xd).toArray)).run Tryd.prog w = .ok (.bool false) w) := fun w => by rw [neq_dig t1 xd ht1l.out hxl.out w, decide_eq_true hct]; rfl
       have hl1 : Hid (nbrs s d ds (h + 1) = some (l ++ [xd])) := nbrs_up hl.out (by rw [hon.out, if_neg (fun h => h.elim hxy (fun h => h hct))])
       clear hon hxy hct
       refine q_region (Class w4) (by kernel_rfl) (by kernel_rfl) (Class.mk_ ((Below.refl _ _).drew)) ?_
       refine q_row rfl 23 (.tmp 9) rfl wr.heap.size rfl 23 ((cells8 xd).toArray) (0, 0) _ (fun w' hw' => hxc.out w' hw'.below) Tryd.underlying23 rfl Fx.out.size ?_
       (intro K k; go_simp; apply k; clear k K)
       refine q_move rfl (.tmp 6) rfl ?_
       (intro K k; go_simp; apply k; clear k K)
       refine q_move rfl (.tmp 8) rfl ?_
       (intro K k; go_simp; apply k; clear k K)
       refine Want.qv0 (.pointer (some ⟨g, h * 32, none⟩)) ?_
       (intro K k; go_simp; apply k; clear k K)
       refine q_part rfl 23 (.tmp 41) rfl g (h * 32) rfl (cells8 y) _ (fun w' hw' => hyc.out w' hw'.below) Tryd.underlying23 rfl Fy.out.part ?_
       (intro K k; go_simp; apply k; clear k K)
       refine q_val (v := .bool false) rfl (fun w' hw' => run_cmp rfl rfl rfl qD (hq1.out w')) ?_
       (intro K k; go_simp; apply k; clear k K)
       refine q_move rfl (.tmp 43) rfl ?_
       (intro K k; go_simp; apply k; clear k K)
       refine q_row rfl 23 (.tmp 9) rfl wr.heap.size rfl 23 ((cells8 xd).toArray) (0, 0) _ (fun w' hw' => hxc.out w' hw'.below) Tryd.underlying23 rfl Fx.out.size ?_
       (intro K k; go_simp; apply k; clear k K)
       refine q_move rfl (.tmp 1) rfl ?_
       (intro K k; go_simp; apply k; clear k K)
       refine q_fn (v := .agg (cells8 t1).toArray) (args := #[.agg (cells8 xd).toArray, .int .i64 s]) rfl _ _ rfl rfl Tryd.func120 (by kernel_rfl) (by kernel_rfl) (fun w' hw' => (hcut.out w').mono (fun e w'' ⟨he, hb⟩ => ⟨he, hw'.next hb⟩)) ?_
       (intro K k; go_simp; apply k; clear k K)
       refine q_row rfl 23 (.tmp 9) rfl wr.heap.size rfl 23 ((cells8 xd).toArray) (0, 0) _ (fun w' hw' => hxc.out w' hw'.below) Tryd.underlying23 rfl Fx.out.size ?_
       (intro K k; go_simp; apply k; clear k K)
       refine q_val (v := .bool false) rfl (fun w' hw' => run_cmp rfl rfl rfl qD (hq2.out w')) ?_
       (intro K k; go_simp; apply k; clear k K)
       refine Want.qv0 (.bool false) ?_
       (intro K k; go_simp; apply k; clear k K)
       refine q_nil ?_
       intro w6 hw6
       have h6 : Hid (Below w4.heap.size w4 w6) := hw6.below
       clear hw6
       have hR6 := hRw.out.below h6.out
       have hP6 : Hid (Blk w6 w.heap.size 135 cs) := (h6.out.block _ hPw.out.lt).trans hPw.out
       have hW6 : Hid (Below w.heap.size w w6) := hWw.out.trans (h6.out.mono hWw.out.size)
       have hB6 := Lib.hid (hxc.out w6 h6.out)
       obtain ⟨hD6, cur, hcur, hH⟩ := hR6
       replace hcur := Lib.hid hcur
       have hml : (l ++ (emps s 257).drop h).length = 257 := by rw [mix_len l _ h hll.out (by rw [emps_len]; have := hlth.out; omega), emps_len]
       have hnew := hH.set_ hD6 h (by rw [hml]; have := hlth.out; omega) xd hxl.out
       rw [set_mix l _ h xd hll.out (by rw [emps_len]; have := hlth.out; omega)] at hnew
       have hDn : Hid (Digs ((l ++ [xd]) ++ (emps s 257).drop (h + 1))) := by
        show Digs _
        rw [← set_mix l _ h xd hll.out (by rw [emps_len]; have := hlth.out; omega)]
        intro z hz
        rcases List.mem_or_eq_of_mem_set hz with hz | rfl
        ·exact hD6 z hz
        ·exact hxl.out
       have hfit6 : Hid (h * 32 + (cells8 xd).toArray.size ≤ cur.size) := by
        have h1 := hH.1
        rw [hml] at h1
        have h2 := hlth.out
        show _ ≤ _
        rw [List.size_toArray, cells8_len, hxl.out]
        omega
       replace hnew := Lib.hid hnew
       have hbw6 : Hid (Below w.heap.size w (w6.setRow g (cur.toList.take (h * 32) ++ (cells8 xd).toArray.toList ++ cur.toList.drop (h * 32 + (cells8 xd).toArray.size)).toArray)) := below_setRow hW6.out (Nat.le_of_lt hgP.out) _
       have hPw6 : Hid (Blk (w6.setRow g (cur.toList.take (h * 32) ++ (cells8 xd).toArray.toList ++ cur.toList.drop (h * 32 + (cells8 xd).toArray.size)).toArray) w.heap.size 135 cs) := (setRow_other w6 g _ _ (by have := hgP.out; omega)).trans hP6.out
       have hRw6 : Hid (RowE (w6.setRow g (cur.toList.take (h * 32) ++ (cells8 xd).toArray.toList ++ cur.toList.drop (h * 32 + (cells8 xd).toArray.size)).toArray) g ((l ++ [xd]) ++ (emps s 257).drop (h + 1))) := ⟨hDn.out, _, setRow_heap _ _ _ _ _ _ hcur.out, hnew.out⟩
       clear hml hH hD6 hnew hDn
       go_wp2_with (first
        | ((with_reducible change wpList _ _ _ (⟨some 53, _, _, _, _, _⟩ :: _) _ _); refine wpList_load_row (o := ⟨some 53, _, _, _, _, _⟩) rfl 23 (.tmp 9) rfl (wr.heap.size) rfl 23 ((cells8 xd).toArray) (0, 0) _ hB6.out Tryd.underlying23 rfl Fx.out.size ?_)
        | ((with_reducible change wpList _ _ _ ({ dst := none, op := Op.store 23 _ _, type := _, pos := _, after := _, guard := _ } :: _) _ _); refine wpList_store_part (o := ⟨none, _, _, _, _, _⟩) rfl 23 (.tmp 54) (.tmp 53) rfl g (h * 32) ((cells8 xd).toArray) rfl rfl 23 cur hcur.out Fx.out.size hfit6.out Fx.out.one ?_; generalize w6.setRow g (cur.toList.take (h * 32) ++ (cells8 xd).toArray.toList ++ cur.toList.drop (h * 32 + (cells8 xd).toArray.size)).toArray = w8 at hbw6 hPw6 hRw6 ⊢))
       go_roundw
       case rel => exact ⟨h + 1, _, by go_num, by rw [hnb.out]; go_num, hlth.out, hl1.out, hRw6.out, hPw6.out, hbw6.out⟩
       case measure => (have := hlth.out; simp [intOf]; omega)
      ·have hq2 : Hid (∀ w, (binOp .neq 23 (.agg (cells8 t1).toArray) (.agg (cells8 xd).toArray)).run Tryd.prog w = .ok (.bool true) w) := fun w => by rw [neq_dig t1 xd ht1l.out hxl.out w, decide_eq_false hct]; rfl
       have hstop : Hid (nbrs s d ds 256 = none) := nbrs_stop hl.out (by rw [hon.out, if_pos (.inr hct)]) hlth.out
       clear hon hxy hct
       refine q_region (Class w4) (by kernel_rfl) (by kernel_rfl) (Class.mk_ ((Below.refl _ _).drew)) ?_
       refine q_row rfl 23 (.tmp 9) rfl wr.heap.size rfl 23 ((cells8 xd).toArray) (0, 0) _ (fun w' hw' => hxc.out w' hw'.below) Tryd.underlying23 rfl Fx.out.size ?_
       (intro K k; go_simp; apply k; clear k K)
       refine q_move rfl (.tmp 6) rfl ?_
       (intro K k; go_simp; apply k; clear k K)
       refine q_move rfl (.tmp 8) rfl ?_
       (intro K k; go_simp; apply k; clear k K)
       refine Want.qv0 (.pointer (some ⟨g, h * 32, none⟩)) ?_
       (intro K k; go_simp; apply k; clear k K)
       refine q_part rfl 23 (.tmp 41) rfl g (h * 32) rfl (cells8 y) _ (fun w' hw' => hyc.out w' hw'.below) Tryd.underlying23 rfl Fy.out.part ?_
       (intro K k; go_simp; apply k; clear k K)
       refine q_val (v := .bool false) rfl (fun w' hw' => run_cmp rfl rfl rfl qD (hq1.out w')) ?_
       (intro K k; go_simp; apply k; clear k K)
       refine q_move rfl (.tmp 43) rfl ?_
       (intro K k; go_simp; apply k; clear k K)
       refine q_row rfl 23 (.tmp 9) rfl wr.heap.size rfl 23 ((cells8 xd).toArray) (0, 0) _ (fun w' hw' => hxc.out w' hw'.below) Tryd.underlying23 rfl Fx.out.size ?_
       (intro K k; go_simp; apply k; clear k K)
       refine q_move rfl (.tmp 1) rfl ?_
       (intro K k; go_simp; apply k; clear k K)
       refine q_fn (v := .agg (cells8 t1).toArray) (args := #[.agg (cells8 xd).toArray, .int .i64 s]) rfl _ _ rfl rfl Tryd.func120 (by kernel_rfl) (by kernel_rfl) (fun w' hw' => (hcut.out w').mono (fun e w'' ⟨he, hb⟩ => ⟨he, hw'.next hb⟩)) ?_
       (intro K k; go_simp; apply k; clear k K)
       refine q_row rfl 23 (.tmp 9) rfl wr.heap.size rfl 23 ((cells8 xd).toArray) (0, 0) _ (fun w' hw' => hxc.out w' hw'.below) Tryd.underlying23 rfl Fx.out.size ?_
       (intro K k; go_simp; apply k; clear k K)
       refine q_val (v := .bool true) rfl (fun w' hw' => run_cmp rfl rfl rfl qD (hq2.out w')) ?_
       (intro K k; go_simp; apply k; clear k K)
       refine Want.qv0 (.bool true) ?_
       (intro K k; go_simp; apply k; clear k K)
       refine q_nil ?_
       intro w6 hw6
       have h6 : Hid (Below w4.heap.size w4 w6) := hw6.below
       clear hw6
       go_wp2_with fail
       go_ret2
       exact RPost.bad (hWw.out.trans (h6.out.mono hWw.out.size)) hok.out hstop.out rfl
   ·obtain rfl : h = 256 := by have := hh.out; omega
    have hll : l.length = 256 := nbrs_len hl.out
    have hfin := hR.out.rd_take 256 (by rw [List.length_append]; omega)
    rw [List.take_append_of_le_length (by omega), List.take_of_length_le (by omega)] at hfin
    replace hfin := Lib.hid hfin
    clear hll
    go_wp2_with fail
    go_ret2
    exact RPost.good hW.out hok.out hl.out rfl hfin.out hcg2.out
end Go.Proofs.YtmdkfhfkdcbpgaaDoorR.SpRows

namespace Go.Proofs.YtmdkfhfkdcbpgaaDoorR.SpTop
open Go Go.RowKit Go.Proofs.YtmdkfhfkdcbpgaaDoorR Mem Sha Bytes HashMem DigestMem TreeMem TreeRoot QuietTail Grown DigEq Held IdxAny TwiceP RowsY SparseP SpMem Formed SpRows LeadM Lead

def spCheck (s : Int) (root k : Text) (f : Bool) (cnt : Int) (ch d : Text) (n : Nat) (ds : List Text) : Int := if okSp f cnt ch d n = true then checkOf s root k f cnt ch d ds else 8
theorem spCheck_no {s : Int} {root k : Text} {f : Bool} {cnt : Int} {ch d : Text} {n : Nat} {ds : List Text} (h : okSp f cnt ch d n = false) : spCheck s root k f cnt ch d n ds = 8 := by unfold spCheck; rw [if_neg (by rw [h]; decide)]
theorem spCheck_bad {s : Int} {root k : Text} {f : Bool} {cnt : Int} {ch d : Text} {n : Nat} {ds : List Text} (h : okSp f cnt ch d n = true) (hn : nbrs s d ds 256 = none) : spCheck s root k f cnt ch d n ds = 170 := by unfold spCheck checkOf; rw [if_pos h, hn]
theorem spCheck_yes {s : Int} {root k : Text} {f : Bool} {cnt : Int} {ch d : Text} {n : Nat} {ds l : List Text} (h : okSp f cnt ch d n = true) (hn : nbrs s d ds 256 = some l) : spCheck s root k f cnt ch d n ds = if (lead s k (txt0 k f cnt ch) l 256).2 = root then 0 else 171 := by unfold spCheck checkOf; rw [if_pos h, hn]
theorem okSp_cnt {f : Bool} {cnt : Int} {ch d : Text} {n : Nat} (h : okSp f cnt ch d n = true) : f = true → 0 ≤ cnt ∧ cnt ≤ 1099511627776 := fun hf => by
 subst hf
 unfold okSp at h
 have h2 := (Bool.and_eq_true _ _ ▸ h).2
 have := of_decide_eq_true (show decide (1 ≤ cnt ∧ cnt ≤ 1099511627776) = true from h2)
 omega
set_option maxRecDepth 100000 in
set_option maxHeartbeats 2000000 in
theorem check_any (root k : Text) (hrt : root.length = 32) (hk : k.length = 32) (cs : Array Value) (f : Bool) (cnt : Int) (ch d : Text) (hch : ch.length = 32) (hd : d.length = 32) (A : Option Addr) (n c : Nat) (hs : Sp cs f cnt ch d A n c) (s : Int) (ds : List Text) (w : World) (hB : Base w) (hr : RdD w A n ds) :
  Calls Tryd.prog 85 #[.int .i64 s, .agg (cells8 root).toArray, .agg (cells8 k).toArray, .agg cs] w fun e w' => e = .returned (.int .i64 (spCheck s root k f cnt ch d n ds)) ∧ Below w.heap.size w w' := by
 obtain ⟨w1, hw1⟩ : ∃ w1, Hid (w1 = (((w.alloc (.cells (cells8 root).toArray 23)).alloc (.cells (cells8 k).toArray 23)).alloc (.cells cs 135))) := ⟨_, rfl⟩
 have hb1 : Hid (Below w.heap.size w w1) := by show Below _ _ _; rw [hw1.out]; exact (((Below.refl _ w).alloc (Nat.le_refl _) _).alloc (by simp) _).alloc (by simp; omega) _
 have hP1 : Hid (Blk w1 (w.heap.size + 2) 135 cs) := by
  show Blk _ _ _ _
  rw [hw1.out]
  have := Blk.new ((w.alloc (.cells (cells8 root).toArray 23)).alloc (.cells (cells8 k).toArray 23)) 135 cs
  rwa [show ((w.alloc (.cells (cells8 root).toArray 23)).alloc (.cells (cells8 k).toArray 23)).heap.size = (w.heap.size + 2) by simp] at this
 have hR1 : Hid (Blk w1 w.heap.size 23 (cells8 root).toArray) := by show Blk _ _ _ _; rw [hw1.out]; exact ((Blk.new w _ _).alloc _).alloc _
 have hK1 : Hid (Blk w1 (w.heap.size + 1) 23 (cells8 k).toArray) := by
  show Blk _ _ _ _
  rw [hw1.out]
  have := Blk.new (w.alloc (.cells (cells8 root).toArray 23)) 23 (cells8 k).toArray
  rw [show (w.alloc (.cells (cells8 root).toArray 23)).heap.size = w.heap.size + 1 by simp] at this
  exact this.alloc _
 have hsz : Hid ((Tryd.prog.info? 135).map (·.size) = some cs.size) := by show _ = _; rw [hs.size]; exact sizeSp
 have Fk := Lib.hid (fit (x := k) hk)
 have Fr := Lib.hid (fit (x := root) hrt)
 have hrw := rows_any cs f cnt ch d hch hd A n c hs s ds w1 (hB.below hb1.out hB.1) (hr.below hb1.out)
 have hcon : Calls Tryd.prog 135 #[.agg cs, .int .i64 s] w1 fun e w' => RPost w1 f cnt ch d n s ds e w' := hrw
 cases hok : okSp f cnt ch d n with
 | false =>
  rw [spCheck_no hok]
  have hcon2 : Hid (Calls Tryd.prog 135 #[.agg cs, .int .i64 s] w1 fun e w' => e = .returned (.tuple #[.slice none 0 0, .int .i64 8]) ∧ Below w1.heap.size w1 w') := hcon.mono fun e w' h => by
   rcases h with ⟨hb, h | h | h⟩
   ·exact ⟨h.2, hb⟩
   ·rw [hok] at h; cases h.1
   ·rw [hok] at h; cases h.1
  clear hcon hrw hB hr hs hch hd hrt hk hok
  go_enter Tryd.func85, Tryd.ntmps85
  go_upto_region 1 with fail
  change Code.wp _ _ _ _ (((w.alloc (.cells (cells8 root).toArray 23)).alloc (.cells (cells8 k).toArray 23)).alloc (.cells cs 135))
  rw [← hw1.out]
  go_wp2_with (first
   | ((with_reducible change wpList _ _ _ (⟨some 14, _, _, _, _, _⟩ :: _) _ _); refine wpList_load_row (o := ⟨some 14, _, _, _, _, _⟩) rfl 135 (.tmp 7) rfl ((w.heap.size + 2)) rfl 135 (cs) (0, 0) _ hP1.out Tryd.underlying135 rfl hsz.out ?_)
   | (go_at_call 135; refine hcon2.out.mono ?_; rintro e w2 ⟨rfl, hk2⟩; have hb2 : Hid (Below w.heap.size w w2) := hb1.out.trans (hk2.mono hb1.out.size); clear hk2 hcon2))
  go_ret
  exact ⟨rfl, hb2.out⟩
 | true =>
  cases hnb : nbrs s d ds 256 with
  | none =>
   rw [spCheck_bad hok hnb]
   have hcon2 : Hid (Calls Tryd.prog 135 #[.agg cs, .int .i64 s] w1 fun e w' => e = .returned (.tuple #[.slice none 0 0, .int .i64 170]) ∧ Below w1.heap.size w1 w') := hcon.mono fun e w' h => by
    rcases h with ⟨hb, h | h | h⟩
    ·rw [hok] at h; cases h.1
    ·exact ⟨h.2.2, hb⟩
    ·obtain ⟨-, l, g, c, h, -⟩ := h
     rw [hnb] at h; cases h
   clear hcon hrw hB hr hs hch hd hrt hk hok hnb
   go_enter Tryd.func85, Tryd.ntmps85
   go_upto_region 1 with fail
   change Code.wp _ _ _ _ (((w.alloc (.cells (cells8 root).toArray 23)).alloc (.cells (cells8 k).toArray 23)).alloc (.cells cs 135))
   rw [← hw1.out]
   go_wp2_with (first
    | ((with_reducible change wpList _ _ _ (⟨some 14, _, _, _, _, _⟩ :: _) _ _); refine wpList_load_row (o := ⟨some 14, _, _, _, _, _⟩) rfl 135 (.tmp 7) rfl ((w.heap.size + 2)) rfl 135 (cs) (0, 0) _ hP1.out Tryd.underlying135 rfl hsz.out ?_)
    | (go_at_call 135; refine hcon2.out.mono ?_; rintro e w2 ⟨rfl, hk2⟩; have hb2 : Hid (Below w.heap.size w w2) := hb1.out.trans (hk2.mono hb1.out.size); clear hk2 hcon2))
   go_ret
   exact ⟨rfl, hb2.out⟩
  | some l =>
   rw [spCheck_yes hok hnb]
   have hcon2 : Hid (Calls Tryd.prog 135 #[.agg cs, .int .i64 s] w1 fun e w' => ∃ g cg, e = .returned (.tuple #[.slice (some ⟨g, 0, none⟩) 256 cg, .int .i64 0]) ∧ RdD w' (some ⟨g, 0, none⟩) 256 l ∧ Below w1.heap.size w1 w') := hcon.mono fun e w' h => by
    rcases h with ⟨hb, h | h | h⟩
    ·rw [hok] at h; cases h.1
    ·rw [hnb] at h; cases h.2.1
    ·obtain ⟨-, l', g, c, h1, h2, h3, -⟩ := h
     rw [hnb] at h1
     obtain rfl := Option.some.inj h1
     exact ⟨g, c, h2, h3, hb⟩
   have hLd : Hid (∀ g cg w', Below w.heap.size w w' → RdD w' (some ⟨g, 0, none⟩) 256 l → Calls Tryd.prog 136 #[.agg cs, .int .i64 s, .agg (cells8 k).toArray, .slice (some ⟨g, 0, none⟩) 256 cg] w' fun e w'' => ∃ v, e = .returned (.tuple #[v, .agg (cells8 (lead s k (txt0 k f cnt ch) l 256).2).toArray]) ∧ Below w'.heap.size w' w'') := fun g cg w' hb hr => (lead_any cs f cnt ch d hch A n c hs (okSp_cnt hok) s k hk l 256 (Nat.le_refl _) (some ⟨g, 0, none⟩) cg w' (hB.below hb hB.1) hr).mono fun e w'' ⟨v, xs, he, _, _, hb⟩ => ⟨v, he, hb⟩
   have hdg := lead_dig s k (txt0 k f cnt ch) l 256
   obtain ⟨dg, hdge⟩ : ∃ dg, (lead s k (txt0 k f cnt ch) l 256).2 = dg := ⟨_, rfl⟩
   rw [hdge] at hdg hLd ⊢
   have Fd := Lib.hid (fit (x := dg) hdg)
   have hneq := Lib.hid (neq_dig dg root hdg hrt)
   clear hcon hrw hB hr hs hch hd hrt hk hok hnb hdge hdg
   by_cases he : dg = root
   ·have hne : ∀ w, (binOp .neq 23 (.agg (cells8 dg).toArray) (.agg (cells8 root).toArray)).run Tryd.prog w = .ok (.bool false) w := fun w => by rw [hneq.out w, decide_eq_true he]; rfl
    rw [if_pos he]
    clear hneq he
    go_enter Tryd.func85, Tryd.ntmps85
    go_upto_region 1 with fail
    change Code.wp _ _ _ _ (((w.alloc (.cells (cells8 root).toArray 23)).alloc (.cells (cells8 k).toArray 23)).alloc (.cells cs 135))
    rw [← hw1.out]
    go_wp2_with (first
     | ((with_reducible change wpList _ _ _ (⟨some 14, _, _, _, _, _⟩ :: _) _ _); refine wpList_load_row (o := ⟨some 14, _, _, _, _, _⟩) rfl 135 (.tmp 7) rfl ((w.heap.size + 2)) rfl 135 (cs) (0, 0) _ hP1.out Tryd.underlying135 rfl hsz.out ?_)
     | (go_at_call 135; refine hcon2.out.mono ?_; rintro e w2 ⟨g, cg, rfl, hrd, hk2⟩; have hb2 : Hid (Below w.heap.size w w2) := hb1.out.trans (hk2.mono hb1.out.size); have hP2 : Hid (Blk w2 (w.heap.size + 2) 135 cs) := (hk2.block _ hP1.out.lt).trans hP1.out; have hR2 : Hid (Blk w2 w.heap.size 23 (cells8 root).toArray) := (hk2.block _ hR1.out.lt).trans hR1.out; have hK2 : Hid (Blk w2 (w.heap.size + 1) 23 (cells8 k).toArray) := (hk2.block _ hK1.out.lt).trans hK1.out; replace hrd := Lib.hid hrd; clear hk2 hcon2 hP1 hR1 hK1)
     | ((with_reducible change wpList _ _ _ (⟨some 23, _, _, _, _, _⟩ :: _) _ _); refine wpList_load_row (o := ⟨some 23, _, _, _, _, _⟩) rfl 135 (.tmp 7) rfl ((w.heap.size + 2)) rfl 135 (cs) (0, 0) _ hP2.out Tryd.underlying135 rfl hsz.out ?_)
     | ((with_reducible change wpList _ _ _ (⟨some 25, _, _, _, _, _⟩ :: _) _ _); refine wpList_load_row (o := ⟨some 25, _, _, _, _, _⟩) rfl 23 (.tmp 6) rfl ((w.heap.size + 1)) rfl 23 ((cells8 k).toArray) (0, 0) _ hK2.out Tryd.underlying23 rfl Fk.out.size ?_)
     | (go_at_call 136; refine (hLd.out g cg w2 hb2.out hrd.out).mono ?_; rintro e w3 ⟨v3, rfl, hk3⟩; have hb3 : Hid (Below w.heap.size w w3) := hb2.out.trans (hk3.mono hb2.out.size); have hR3 : Hid (Blk w3 w.heap.size 23 (cells8 root).toArray) := (hk3.block _ hR2.out.lt).trans hR2.out; clear hk3 hLd hrd)
     | ((with_reducible change wpList _ _ _ ({ dst := none, op := Op.store 23 (.tmp 12) _, type := _, pos := _, after := _, guard := _ } :: _) _ _); refine wpList_store_whole (o := ⟨none, _, _, _, _, _⟩) rfl 23 (.tmp 12) (.tmp 29) rfl (w3.heap.size) ((cells8 dg).toArray) rfl rfl 23 (Z32) (Blk.new w3 _ _) Fd.out.size Fd.out.zero Fd.out.one ?_; intro w6 hB6 hk6; have hk36 := kept_fresh hk6; have hR6 : Hid (Blk w6 w.heap.size 23 (cells8 root).toArray) := (hk36.block _ hR3.out.lt).trans hR3.out; have hb6 : Hid (Below w.heap.size w w6) := hb3.out.trans (hk36.mono hb3.out.size); replace hB6 := Lib.hid hB6; clear hk6 hk36)
     | ((with_reducible change wpList _ _ _ (⟨some 30, _, _, _, _, _⟩ :: _) _ _); refine wpList_load_row (o := ⟨some 30, _, _, _, _, _⟩) rfl 23 (.tmp 12) rfl (w3.heap.size) rfl 23 ((cells8 dg).toArray) (0, 0) _ hB6.out Tryd.underlying23 rfl Fd.out.size ?_)
     | ((with_reducible change wpList _ _ _ (⟨some 31, _, _, _, _, _⟩ :: _) _ _); refine wpList_load_row (o := ⟨some 31, _, _, _, _, _⟩) rfl 23 (.tmp 5) rfl (w.heap.size) rfl 23 ((cells8 root).toArray) (0, 0) _ hR6.out Tryd.underlying23 rfl Fr.out.size ?_))
    go_ret
    exact ⟨rfl, hb6.out⟩
   ·have hne : ∀ w, (binOp .neq 23 (.agg (cells8 dg).toArray) (.agg (cells8 root).toArray)).run Tryd.prog w = .ok (.bool true) w := fun w => by rw [hneq.out w, decide_eq_false he]; rfl
    rw [if_neg he]
    clear hneq he
    go_enter Tryd.func85, Tryd.ntmps85
    go_upto_region 1 with fail
    change Code.wp _ _ _ _ (((w.alloc (.cells (cells8 root).toArray 23)).alloc (.cells (cells8 k).toArray 23)).alloc (.cells cs 135))
    rw [← hw1.out]
    go_wp2_with (first
     | ((with_reducible change wpList _ _ _ (⟨some 14, _, _, _, _, _⟩ :: _) _ _); refine wpList_load_row (o := ⟨some 14, _, _, _, _, _⟩) rfl 135 (.tmp 7) rfl ((w.heap.size + 2)) rfl 135 (cs) (0, 0) _ hP1.out Tryd.underlying135 rfl hsz.out ?_)
     | (go_at_call 135; refine hcon2.out.mono ?_; rintro e w2 ⟨g, cg, rfl, hrd, hk2⟩; have hb2 : Hid (Below w.heap.size w w2) := hb1.out.trans (hk2.mono hb1.out.size); have hP2 : Hid (Blk w2 (w.heap.size + 2) 135 cs) := (hk2.block _ hP1.out.lt).trans hP1.out; have hR2 : Hid (Blk w2 w.heap.size 23 (cells8 root).toArray) := (hk2.block _ hR1.out.lt).trans hR1.out; have hK2 : Hid (Blk w2 (w.heap.size + 1) 23 (cells8 k).toArray) := (hk2.block _ hK1.out.lt).trans hK1.out; replace hrd := Lib.hid hrd; clear hk2 hcon2 hP1 hR1 hK1)
     | ((with_reducible change wpList _ _ _ (⟨some 23, _, _, _, _, _⟩ :: _) _ _); refine wpList_load_row (o := ⟨some 23, _, _, _, _, _⟩) rfl 135 (.tmp 7) rfl ((w.heap.size + 2)) rfl 135 (cs) (0, 0) _ hP2.out Tryd.underlying135 rfl hsz.out ?_)
     | ((with_reducible change wpList _ _ _ (⟨some 25, _, _, _, _, _⟩ :: _) _ _); refine wpList_load_row (o := ⟨some 25, _, _, _, _, _⟩) rfl 23 (.tmp 6) rfl ((w.heap.size + 1)) rfl 23 ((cells8 k).toArray) (0, 0) _ hK2.out Tryd.underlying23 rfl Fk.out.size ?_)
     | (go_at_call 136; refine (hLd.out g cg w2 hb2.out hrd.out).mono ?_; rintro e w3 ⟨v3, rfl, hk3⟩; have hb3 : Hid (Below w.heap.size w w3) := hb2.out.trans (hk3.mono hb2.out.size); have hR3 : Hid (Blk w3 w.heap.size 23 (cells8 root).toArray) := (hk3.block _ hR2.out.lt).trans hR2.out; clear hk3 hLd hrd)
     | ((with_reducible change wpList _ _ _ ({ dst := none, op := Op.store 23 (.tmp 12) _, type := _, pos := _, after := _, guard := _ } :: _) _ _); refine wpList_store_whole (o := ⟨none, _, _, _, _, _⟩) rfl 23 (.tmp 12) (.tmp 29) rfl (w3.heap.size) ((cells8 dg).toArray) rfl rfl 23 (Z32) (Blk.new w3 _ _) Fd.out.size Fd.out.zero Fd.out.one ?_; intro w6 hB6 hk6; have hk36 := kept_fresh hk6; have hR6 : Hid (Blk w6 w.heap.size 23 (cells8 root).toArray) := (hk36.block _ hR3.out.lt).trans hR3.out; have hb6 : Hid (Below w.heap.size w w6) := hb3.out.trans (hk36.mono hb3.out.size); replace hB6 := Lib.hid hB6; clear hk6 hk36)
     | ((with_reducible change wpList _ _ _ (⟨some 30, _, _, _, _, _⟩ :: _) _ _); refine wpList_load_row (o := ⟨some 30, _, _, _, _, _⟩) rfl 23 (.tmp 12) rfl (w3.heap.size) rfl 23 ((cells8 dg).toArray) (0, 0) _ hB6.out Tryd.underlying23 rfl Fd.out.size ?_)
     | ((with_reducible change wpList _ _ _ (⟨some 31, _, _, _, _, _⟩ :: _) _ _); refine wpList_load_row (o := ⟨some 31, _, _, _, _, _⟩) rfl 23 (.tmp 5) rfl (w.heap.size) rfl 23 ((cells8 root).toArray) (0, 0) _ hR6.out Tryd.underlying23 rfl Fr.out.size ?_))
    go_ret
    exact ⟨rfl, hb6.out⟩

set_option maxRecDepth 100000 in
set_option maxHeartbeats 2000000 in
theorem climb_sp (k : Text) (hk : k.length = 32) (cs : Array Value) (f : Bool) (cnt : Int) (ch d : Text) (hch : ch.length = 32) (hd : d.length = 32) (A : Option Addr) (n c : Nat) (hs : Sp cs f cnt ch d A n c) (s : Int) (ds : List Text) (w : World) (hB : Base w) (hr : RdD w A n ds) (hok : okSp f cnt ch d n = true) (l : List Text) (hnb : nbrs s d ds 256 = some l) :
  Calls Tryd.prog 202 #[.int .i64 s, .agg (cells8 k).toArray, .agg cs] w fun e w' => ∃ v xs, e = .returned (.tuple #[v, .int .i64 0]) ∧ w'.ownsRow w.heap.size 27 1 v 257 xs ∧ Ty w' xs (lead s k (txt0 k f cnt ch) l 256).1 ∧ Below w.heap.size w w' := by
 obtain ⟨w1, hw1⟩ : ∃ w1, Hid (w1 = ((w.alloc (.cells (cells8 k).toArray 23)).alloc (.cells cs 135))) := ⟨_, rfl⟩
 have hb1 : Hid (Below w.heap.size w w1) := by show Below _ _ _; rw [hw1.out]; exact ((Below.refl _ w).alloc (Nat.le_refl _) _).alloc (by simp) _
 have hP1 : Hid (Blk w1 (w.heap.size + 1) 135 cs) := by
  show Blk _ _ _ _
  rw [hw1.out]
  have := Blk.new (w.alloc (.cells (cells8 k).toArray 23)) 135 cs
  rwa [show (w.alloc (.cells (cells8 k).toArray 23)).heap.size = (w.heap.size + 1) by simp] at this
 have hK1 : Hid (Blk w1 w.heap.size 23 (cells8 k).toArray) := by show Blk _ _ _ _; rw [hw1.out]; exact (Blk.new w _ _).alloc _
 have hsz : Hid ((Tryd.prog.info? 135).map (·.size) = some cs.size) := by show _ = _; rw [hs.size]; exact sizeSp
 have Fk := Lib.hid (fit (x := k) hk)
 have hcon2 : Hid (Calls Tryd.prog 135 #[.agg cs, .int .i64 s] w1 fun e w' => ∃ g cg, e = .returned (.tuple #[.slice (some ⟨g, 0, none⟩) 256 cg, .int .i64 0]) ∧ RdD w' (some ⟨g, 0, none⟩) 256 l ∧ Below w1.heap.size w1 w') := (rows_any cs f cnt ch d hch hd A n c hs s ds w1 (hB.below hb1.out hB.1) (hr.below hb1.out)).mono fun e w' h => by
  rcases h with ⟨hb, h | h | h⟩
  ·rw [hok] at h; cases h.1
  ·rw [hnb] at h; cases h.2.1
  ·obtain ⟨-, l', g, c, h1, h2, h3, -⟩ := h
   rw [hnb] at h1
   obtain rfl := Option.some.inj h1
   exact ⟨g, c, h2, h3, hb⟩
 have hLd : Hid (∀ g cg w', Below w.heap.size w w' → RdD w' (some ⟨g, 0, none⟩) 256 l → Calls Tryd.prog 136 #[.agg cs, .int .i64 s, .agg (cells8 k).toArray, .slice (some ⟨g, 0, none⟩) 256 cg] w' fun e w'' => ∃ v xs, e = .returned (.tuple #[v, .agg (cells8 (lead s k (txt0 k f cnt ch) l 256).2).toArray]) ∧ w''.ownsRow w'.heap.size 27 1 v 257 xs ∧ Ty w'' xs (lead s k (txt0 k f cnt ch) l 256).1 ∧ Below w'.heap.size w' w'') := fun g cg w' hb hr => lead_any cs f cnt ch d hch A n c hs (okSp_cnt hok) s k hk l 256 (Nat.le_refl _) (some ⟨g, 0, none⟩) cg w' (hB.below hb hB.1) hr
 have hdg := lead_dig s k (txt0 k f cnt ch) l 256
 obtain ⟨⟨ts, dg⟩, hdge⟩ : ∃ X, lead s k (txt0 k f cnt ch) l 256 = X := ⟨_, rfl⟩
 rw [hdge] at hdg hLd ⊢
 dsimp only at hdg hLd ⊢
 have Fd := Lib.hid (fit (x := dg) hdg)
 clear hB hr hs hch hd hk hok hnb hdge hdg
 go_enter Tryd.func202, Tryd.ntmps202
 go_upto_region 1 with fail
 change Code.wp _ _ _ _ ((w.alloc (.cells (cells8 k).toArray 23)).alloc (.cells cs 135))
 rw [← hw1.out]
 go_wp2_with (first
  | ((with_reducible change wpList _ _ _ (⟨some 13, _, _, _, _, _⟩ :: _) _ _); refine wpList_load_row (o := ⟨some 13, _, _, _, _, _⟩) rfl 135 (.tmp 5) rfl ((w.heap.size + 1)) rfl 135 (cs) (0, 0) _ hP1.out Tryd.underlying135 rfl hsz.out ?_)
  | (go_at_call 135; refine hcon2.out.mono ?_; rintro e w2 ⟨g, cg, rfl, hrd, hk2⟩; have hb2 : Hid (Below w.heap.size w w2) := hb1.out.trans (hk2.mono hb1.out.size); have hP2 : Hid (Blk w2 (w.heap.size + 1) 135 cs) := (hk2.block _ hP1.out.lt).trans hP1.out; have hK2 : Hid (Blk w2 w.heap.size 23 (cells8 k).toArray) := (hk2.block _ hK1.out.lt).trans hK1.out; replace hrd := Lib.hid hrd; clear hk2 hcon2 hP1 hK1)
  | ((with_reducible change wpList _ _ _ (⟨some 22, _, _, _, _, _⟩ :: _) _ _); refine wpList_load_row (o := ⟨some 22, _, _, _, _, _⟩) rfl 135 (.tmp 5) rfl ((w.heap.size + 1)) rfl 135 (cs) (0, 0) _ hP2.out Tryd.underlying135 rfl hsz.out ?_)
  | ((with_reducible change wpList _ _ _ (⟨some 24, _, _, _, _, _⟩ :: _) _ _); refine wpList_load_row (o := ⟨some 24, _, _, _, _, _⟩) rfl 23 (.tmp 4) rfl (w.heap.size) rfl 23 ((cells8 k).toArray) (0, 0) _ hK2.out Tryd.underlying23 rfl Fk.out.size ?_)
  | (go_at_call 136; refine (hLd.out g cg w2 hb2.out hrd.out).mono ?_; rintro e w3 ⟨v3, xs3, rfl, ho3, hy3, hk3⟩; have hb3 : Hid (Below w.heap.size w w3) := hb2.out.trans (hk3.mono hb2.out.size); obtain ⟨A3, c3, rfl, -⟩ := Append.Own.reads ho3; replace ho3 := Lib.hid ho3; replace hy3 := Lib.hid hy3; clear hk3 hLd hrd)
  | ((with_reducible change wpList _ _ _ ({ dst := none, op := Op.store 23 (.tmp 11) _, type := _, pos := _, after := _, guard := _ } :: _) _ _); refine wpList_store_whole (o := ⟨none, _, _, _, _, _⟩) rfl 23 (.tmp 11) (.tmp 28) rfl (w3.heap.size) ((cells8 dg).toArray) rfl rfl 23 (Z32) (Blk.new w3 _ _) Fd.out.size Fd.out.zero Fd.out.one ?_; intro w6 hB6 hk6; have hk36 := Lib.hid (kept_fresh hk6); have hb6 : Hid (Below w.heap.size w w6) := hb3.out.trans (hk36.out.mono hb3.out.size); clear hk6 hB6))
 go_ret2
 exact ⟨_, xs3, rfl, own_low (TreeRefRoot.own_below ho3.out hk36.out) hb2.out.size, hy3.out.below hk36.out, hb6.out⟩
end Go.Proofs.YtmdkfhfkdcbpgaaDoorR.SpTop

namespace Go.Proofs.YtmdkfhfkdcbpgaaDoorR.RefClimbM
open Go Go.RowKit Go.Proofs.YtmdkfhfkdcbpgaaDoorR Mem Sha Bytes DigestMem TwiceP SparseP SpRows LeadM

theorem getD_of {x : Text} {i : Nat} (h : i < x.length) : x[i]? = some (x.getD i 0) := by
 rw [List.getD_eq_getElem?_getD, List.getElem?_eq_getElem h]
 rfl
theorem cut_same {x : Text} (hx : x.length = 32) {m : Nat} (hm : m ≤ 32) (h : ∀ i, m ≤ i → i < 32 → x.getD i 0 = 0) : cutTo x m = x := by
 apply List.ext_getElem?
 intro i
 unfold cutTo
 rw [splice_get _ _ _ (by rw [List.length_replicate]; omega), List.length_replicate]
 by_cases h1 : i < m
 ·rw [if_pos h1]
 ·rw [if_neg h1]
  by_cases h2 : i < 32
  ·rw [if_pos (by omega), List.getElem?_replicate, if_pos (by omega), getD_of (by omega), h i (by omega) h2]
  ·rw [if_neg (by omega)]
theorem cut_other {x : Text} (hx : x.length = 32) {m : Nat} (hm : m ≤ 32) {i : Nat} (h1 : m ≤ i) (h2 : i < 32) (h : ¬ x.getD i 0 = 0) : cutTo x m ≠ x := fun e => by
 have h3 : (cutTo x m)[i]? = x[i]? := by rw [e]
 unfold cutTo at h3
 rw [splice_get _ _ _ (by rw [List.length_replicate]; omega), List.length_replicate, if_neg (by omega), if_pos (by omega), List.getElem?_replicate, if_pos (by omega), getD_of (by omega)] at h3
 exact h (Option.some.inj h3).symm
theorem nbrs_at {s : Int} {d : Text} {ds : List Text} : ∀ {n : Nat} {l : List Text}, nbrs s d ds n = some l → ∀ h, h < n → ∃ x, l[h]? = some x ∧ nbr s d ds h = some x
 | 0, _, _, h, hh => by omega
 | n + 1, l, e, h, hh => by
  unfold nbrs at e
  split at e
  ·cases e
  ·rename_i l' h1
   split at e
   ·cases e
   ·rename_i x h2
    cases e
    have hl := nbrs_len h1
    rcases Nat.lt_or_ge h n with h3 | h3
    ·obtain ⟨y, a, b⟩ := nbrs_at h1 h h3
     exact ⟨y, by rw [List.getElem?_append_left (by omega)]; exact a, b⟩
    ·obtain rfl : h = n := by omega
     exact ⟨x, by rw [List.getElem?_append_right (by omega), hl, Nat.sub_self]; rfl, h2⟩
theorem nbr_is {s : Int} {d : Text} {ds : List Text} {h : Nat} {x y : Text} (hb : hbit d h = true) (hx : ds[nbits d h]? = some x) (hn : nbr s d ds h = some y) : x = y := by
 rw [nbr_on hb hx] at hn
 split at hn
 ·cases hn
 ·exact Option.some.inj hn
theorem pieces3 {w : World} {a b c : Addr} {x y z : Text} (ha : Reads w 1 (some a) 32 (cells8 x)) (hb : Reads w 1 (some b) 8 (cells8 y)) (hc : Reads w 1 (some c) 32 (cells8 z)) (hx : x.length = 32) (hy : y.length = 8) (hz : z.length = 32) : Pieces (w.alloc (.cells #[.slice (some a) 32 32, .slice (some b) 8 8, .slice (some c) 32 32] 27)) (some ⟨w.heap.size, 0, none⟩) [x, y, z] := fun _ => by
 have hP : Blk (w.alloc (.cells #[.slice (some a) 32 32, .slice (some b) 8 8, .slice (some c) 32 32] 27)) w.heap.size 27 #[.slice (some a) 32 32, .slice (some b) 8 8, .slice (some c) 32 32] := Blk.new w 27 _
 have hbl := Below.heap_below w (.cells #[.slice (some a) 32 32, .slice (some b) 8 8, .slice (some c) 32 32] 27)
 refine ⟨w.heap.size, 0, rfl, hP.lt, fun i q hq => ?_⟩
 match i with
 | 0 =>
  obtain rfl := Option.some.inj hq
  exact ⟨some a, 32, by rw [hP.cell, hx]; rfl, by omega, by rw [hx]; exact ha.below hbl, fun h => by cases h⟩
 | 1 =>
  obtain rfl := Option.some.inj hq
  exact ⟨some b, 8, by rw [hP.cell, hy]; rfl, by omega, by rw [hy]; exact hb.below hbl, fun h => by cases h⟩
 | 2 =>
  obtain rfl := Option.some.inj hq
  exact ⟨some c, 32, by rw [hP.cell, hz]; rfl, by omega, by rw [hz]; exact hc.below hbl, fun h => by cases h⟩
 | i + 3 => simp at hq
theorem results_tct {P : Program} {fn : Func} {p u u2 : Tmp} {ty : TypeId} (h : fn.results = #[.tmp u, .cell p ty, .tmp u2]) (tmps : Array Value) (w : World) (g : Nat) (t : TypeId) (cs : Array Value) (fr : Nat × Nat) (d : TypeDesc)
  (hp : tmps.getD p undef = .pointer (some ⟨g, 0, none⟩)) (hg : w.heap[g]? = some (.cells cs t fr))
  (hu : P.underlying ty = some d) (hd : (match d with | .struct _ | .array _ _ => true | _ => false) = true) (hi : (P.info? ty).map (·.size) = some cs.size) :
  (results fn tmps).run P w = .ok (.tuple #[tmps.getD u undef, .agg cs, tmps.getD u2 undef]) w := by
 have hp' : tmps[p]?.getD undef = .pointer (some ⟨g, 0, none⟩) := by simpa using hp
 simp [results, h, hp', asAddr, run_loadVar_row w g t ty cs fr d hg hu hd hi, Result.andThen]
theorem b8_zero (x : BitVec 8) : b8 x = 0 ↔ x = 0 := by
 unfold b8
 constructor
 ·intro h
  apply BitVec.eq_of_toNat_eq
  simp
  omega
 ·rintro rfl
  rfl
end Go.Proofs.YtmdkfhfkdcbpgaaDoorR.RefClimbM
