/-
  Texts of the claim, put into one file: DigestTop.
-/
import Derived.Test.YthkdlaohaekilaaDoorZ31
import Derived.StillTailTactics

namespace Go.Proofs.YthkdlaohaekilaaDoor.DigestTop
open Go Go.RowKit Go.Proofs.YthkdlaohaekilaaDoor Go.Proofs.YthkdlaohaekilaaDoor.Mem Go.Proofs.YthkdlaohaekilaaDoor.Sha Go.Proofs.YthkdlaohaekilaaDoor.ShaWalk Go.Proofs.YthkdlaohaekilaaDoor.Bytes Go.Proofs.YthkdlaohaekilaaDoor.HashMem Go.Proofs.YthkdlaohaekilaaDoor.Hash Go.Proofs.YthkdlaohaekilaaDoor.HashSum Go.Proofs.YthkdlaohaekilaaDoor.DigestMem Go.Proofs.YthkdlaohaekilaaDoor.Digest Go.Proofs.YthkdlaohaekilaaDoor.DigestOf

section
variable (w : World) (oa ob oc od : Obj)
theorem pairE : Below w.heap.size w ((((w.alloc oa).alloc ob).alloc oc).drew.alloc od) := ((((Below.refl _ w).alloc (Nat.le_refl _) _).alloc (by simp) _).alloc (by simp; omega) _).drew.alloc (by simp; omega) _
theorem pairA : ((((w.alloc oa).alloc ob).alloc oc).drew.alloc od).heap[w.heap.size]? = some oa := by
  rw [Below.heap_alloc _ _ _ (by simp; omega), heap_drew, Below.heap_alloc _ _ _ (by simp; omega)]
  exact heap_alloc2_old w _ _
theorem pairB : ((((w.alloc oa).alloc ob).alloc oc).drew.alloc od).heap[w.heap.size + 1]? = some ob := by
  rw [Below.heap_alloc _ _ _ (by simp), heap_drew, Below.heap_alloc _ _ _ (by simp)]
  exact heap_alloc2_new w _ _
theorem pairC : ((((w.alloc oa).alloc ob).alloc oc).drew.alloc od).heap[w.heap.size + 2]? = some oc := by
  rw [Below.heap_alloc _ _ _ (by simp), heap_drew]
  have h := heap_alloc_new ((w.alloc oa).alloc ob) oc
  have e : ((w.alloc oa).alloc ob).heap.size = w.heap.size + 2 := by simp
  rw [e] at h
  exact h
theorem pairD : ((((w.alloc oa).alloc ob).alloc oc).drew.alloc od).heap[w.heap.size + 3]? = some od := by
  have h := heap_alloc_new (((w.alloc oa).alloc ob).alloc oc).drew od
  have e : (((w.alloc oa).alloc ob).alloc oc).drew.heap.size = w.heap.size + 3 := by simp
  rw [e] at h
  exact h
end
set_option maxRecDepth 100000 in
set_option maxHeartbeats 600000 in
theorem leaf_any (q : Text) (k : Nat) (hk : q.length = k) (A : Option Addr) (c : Nat) (size : Int) (w : World) (hB : Base w) (hlen : k < 140737488355328) (hr : Reads w 1 A k (cells8 q)) (hc : k ≤ c) (hnil : A = none → k = 0 ∧ c = 0) :
    Calls Tryd.prog 21 #[.int .i64 size, .slice A k c] w fun e w' => e = .returned (.agg (cells8 (cutTo (sum (kb 0 :: q)) (clampN size))).toArray) ∧ Below w.heap.size w w' := by
  subst hk
  have hfl : [q].flatten = q := by simp
  rw [← hfl]
  obtain ⟨x, hx⟩ : ∃ x, Hid (x = cutTo (sum (kb 0 :: [q].flatten)) (clampN size)) := ⟨_, rfl⟩
  have hxl : x.length = 32 := by rw [hx.out]; exact cutTo_len _ _ (sum_len _) (clampN_ok size).2
  rw [← hx.out]
  have hz := Lib.hid (dig_size x hxl)
  have hz32 : Hid ((Z32 : Array Value).size = (cells8 x).toArray.size) := by show _ = _; simp [cells8_len, hxl, Z32]
  have ho := Lib.hid (dig_one x)
  clear hxl
  replace hB := Lib.hid hB
  replace hlen := Lib.hid hlen
  clear hfl
  have hR : Hid (Blk ((w.alloc (.cells Z32 23)).alloc (.cells #[.slice A q.length c] 27)) w.heap.size 23 Z32) := heap_alloc2_old w _ _
  have hbw : Hid (Below w.heap.size w ((w.alloc (.cells Z32 23)).alloc (.cells #[.slice A q.length c] 27))) := ((Below.refl _ w).alloc (Nat.le_refl _) _).alloc (by simp) _
  have hpc : Hid (Pieces ((w.alloc (.cells Z32 23)).alloc (.cells #[.slice A q.length c] 27)) (some ⟨w.heap.size + 1, 0, none⟩) [q]) := fun _ => ⟨w.heap.size + 1, 0, rfl, by simp, fun i y hy => by
    match i with
    | 0 =>
      obtain rfl := Option.some.inj hy
      exact ⟨A, c, by rw [cell_of_row _ _ _ _ _ _ (heap_alloc2_new w _ _)]; rfl, hc, hr.below hbw.out, hnil⟩
    | i + 1 => simp at hy⟩
  clear hr hc hnil
  go_enter Tryd.func21, Tryd.ntmps21
  go_wp2_with (first
    | (go_at_call 69; refine (of_any [q] 1 rfl (some ⟨w.heap.size + 1, 0, none⟩) 1 size 0 _ (hB.out.below hbw.out hB.out.1) (by have := hlen.out; simp; omega) (by omega) hpc.out).mono ?_; rw [← hx.out]; rintro e w3 ⟨rfl, hb3⟩; replace hb3 := Lib.hid hb3; have hR3 : Hid (Blk w3 w.heap.size 23 Z32) := (hb3.out.block w.heap.size hR.out.lt).trans hR.out; have hbb : Hid (Below w.heap.size w w3) := hbw.out.trans (hb3.out.mono (by simp; omega)))
    | ((with_reducible change wpList _ _ _ ({ dst := none, op := Op.store 23 _ _, type := _, pos := _, after := _, guard := _ } :: _) _ _); refine wpList_store_row (o := ⟨none, _, _, _, _, _⟩) rfl 23 (.tmp 4) (.tmp 8) rfl w.heap.size (cells8 x).toArray rfl rfl 23 Z32 hR3.out hz.out hz32.out ho.out ?_))
  refine bodyPost_ret (results_cell_row rfl _ _ w.heap.size 23 (cells8 x).toArray (0, 0) _ rfl (setRow_heap _ _ _ _ _ _ hR3.out) Tryd.underlying23 rfl hz.out) rfl ?_
  exact ⟨rfl, below_setRow hbb.out (by omega) _⟩

set_option maxRecDepth 100000 in
set_option maxHeartbeats 600000 in
theorem link_any (qa qb : Text) (ha : qa.length = 32) (hb : qb.length = 32) (size : Int) (w : World) (hB : Base w) :
    Calls Tryd.prog 20 #[.int .i64 size, .agg (cells8 qa).toArray, .agg (cells8 qb).toArray] w fun e w' => e = .returned (.agg (cells8 (cutTo (sum (kb 2 :: (qa ++ qb))) (clampN size))).toArray) ∧ Below w.heap.size w w' := by
  have hfl : [qa, qb].flatten = qa ++ qb := by simp
  rw [← hfl]
  obtain ⟨x, hx⟩ : ∃ x, Hid (x = cutTo (sum (kb 2 :: [qa, qb].flatten)) (clampN size)) := ⟨_, rfl⟩
  have hxl : x.length = 32 := by rw [hx.out]; exact cutTo_len _ _ (sum_len _) (clampN_ok size).2
  rw [← hx.out]
  have hz := Lib.hid (dig_size x hxl)
  have hz32 : Hid ((Z32 : Array Value).size = (cells8 x).toArray.size) := by show _ = _; simp [cells8_len, hxl, Z32]
  have ho := Lib.hid (dig_one x)
  clear hxl
  replace hB := Lib.hid hB
  have hlen : Hid ([qa, qb].flatten.length = 64) := by show _ = _; simp [ha, hb]
  clear hfl
  obtain ⟨W, hW⟩ : ∃ W, Hid (W = ((((w.alloc (.cells (cells8 qa).toArray 23)).alloc (.cells (cells8 qb).toArray 23)).alloc (.cells Z32 23)).drew.alloc (.cells #[.slice (some ⟨w.heap.size, 0, none⟩) 32 32, .slice (some ⟨w.heap.size + 1, 0, none⟩) 32 32] 27))) := ⟨_, rfl⟩
  have hA0 : W.heap[w.heap.size]? = some (.cells (cells8 qa).toArray 23 (0, 0)) := by rw [hW.out]; exact pairA w _ _ _ _
  have hA1 : W.heap[w.heap.size + 1]? = some (.cells (cells8 qb).toArray 23 (0, 0)) := by rw [hW.out]; exact pairB w _ _ _ _
  have hR : Hid (Blk W (w.heap.size + 2) 23 Z32) := by show Blk _ _ _ _; rw [hW.out]; exact pairC w _ _ _ _
  have hP : W.heap[w.heap.size + 3]? = some (.cells #[.slice (some ⟨w.heap.size, 0, none⟩) 32 32, .slice (some ⟨w.heap.size + 1, 0, none⟩) 32 32] 27 (0, 0)) := by rw [hW.out]; exact pairD w _ _ _ _
  have hbw : Hid (Below w.heap.size w W) := by show Below _ _ _; rw [hW.out]; exact pairE w _ _ _ _
  have hws : Hid (W.heap.size = w.heap.size + 4) := by show _ = _; rw [hW.out]; simp
  have hpc : Hid (Pieces W (some ⟨w.heap.size + 3, 0, none⟩) [qa, qb]) := fun _ => ⟨w.heap.size + 3, 0, rfl, by have := hws.out; omega, fun i y hy => by
    match i with
    | 0 =>
      obtain rfl := Option.some.inj hy
      exact ⟨some ⟨w.heap.size, 0, none⟩, 32, by rw [cell_of_row _ _ _ _ _ _ hP, ha]; rfl, by omega, rowReads hA0, fun h => by cases h⟩
    | 1 =>
      obtain rfl := Option.some.inj hy
      exact ⟨some ⟨w.heap.size + 1, 0, none⟩, 32, by rw [cell_of_row _ _ _ _ _ _ hP, hb]; rfl, by omega, rowReads hA1, fun h => by cases h⟩
    | i + 2 => simp at hy⟩
  have hxl2 : Hid ((cells8 x).length = 32) := by show _ = _; have := hz32.out; simp [Z32] at this; omega
  have hxl3 := hxl2.out
  clear hA0 hA1 hP ha hb
  go_enter Tryd.func20, Tryd.ntmps20
  go_wp2_with fail
  go_region_law (go_simp; go_at_call 69; change Calls _ _ _ ((((w.alloc (.cells (cells8 qa).toArray 23)).alloc (.cells (cells8 qb).toArray 23)).alloc (.cells Z32 23)).drew.alloc (.cells #[.slice (some ⟨w.heap.size, 0, none⟩) 32 32, .slice (some ⟨w.heap.size + 1, 0, none⟩) 32 32] 27)) _; rw [← hW.out]; refine (of_any [qa, qb] 2 rfl (some ⟨w.heap.size + 3, 0, none⟩) 2 size 2 _ (hB.out.below hbw.out hB.out.1) (by have := hlen.out; omega) (by omega) hpc.out).mono ?_; rw [← hx.out]; rintro e w3 ⟨rfl, hb3⟩; replace hb3 := Lib.hid hb3; have hR3 : Hid (Blk w3 (w.heap.size + 2) 23 Z32) := (hb3.out.block (w.heap.size + 2) hR.out.lt).trans hR.out; have hbb : Hid (Below w.heap.size w w3) := hbw.out.trans (hb3.out.mono (by have := hws.out; omega)); have hst : (storeCells ⟨w.heap.size + 1 + 1, 0, none⟩ (cells8 x)).run Tryd.prog w3 = .ok () (w3.setRow (w.heap.size + 2) (cells8 x).toArray) := storeCells_row hR3.out (by have := hxl2.out; simp [Z32]; omega) (cells8_one x))
  go_wp2_with fail
  refine bodyPost_ret (results_cell_row rfl _ _ (w.heap.size + 2) 23 (cells8 x).toArray (0, 0) _ rfl (setRow_heap _ _ _ _ _ _ hR3.out) Tryd.underlying23 rfl hz.out) rfl ?_
  exact ⟨rfl, below_setRow hbb.out (by omega) _⟩
end Go.Proofs.YthkdlaohaekilaaDoor.DigestTop
