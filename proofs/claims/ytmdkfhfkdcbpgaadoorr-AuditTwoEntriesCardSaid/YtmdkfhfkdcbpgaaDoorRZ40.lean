/-
  Texts of the claim, put into one file: Shows, Shown, AuditShows.
-/
import Derived.Test.YtmdkfhfkdcbpgaaDoorRZ36
import Derived.Test.YtmdkfhfkdcbpgaaDoorRZ39
import Derived.Test.YtmdkfhfkdcbpgaaDoorRZ16
import Derived.Test.YtmdkfhfkdcbpgaaDoorRZ15
import Derived.Test.YtmdkfhfkdcbpgaaDoorRZ20
import Derived.Test.YtmdkfhfkdcbpgaaDoorRZ23

namespace Go.Proofs.YtmdkfhfkdcbpgaaDoorR.Shows
open Go Go.RowKit Go.Proofs.YtmdkfhfkdcbpgaaDoorR Mem Sha Bytes HashMem DigestMem TreeMem TreeRoot QuietTail Grown DigEq Held Want ProofIdx ProofIdx2 ProofIdx3 StructEq IdxAny IdxEnc IdxRef IdxRef2 TwiceP RowsY SparseP SpMem Key LeadM SpTop RefClimb Fill

/-! ### The proof built -/
def Z67 : Array Value := #[Value.bool false, Value.int .i64 0, Value.int .u8 0, Value.int .u8 0, Value.int .u8 0, Value.int .u8 0, Value.int .u8 0, Value.int .u8 0, Value.int .u8 0, Value.int .u8 0, Value.int .u8 0, Value.int .u8 0, Value.int .u8 0, Value.int .u8 0, Value.int .u8 0, Value.int .u8 0, Value.int .u8 0, Value.int .u8 0, Value.int .u8 0, Value.int .u8 0, Value.int .u8 0, Value.int .u8 0, Value.int .u8 0, Value.int .u8 0, Value.int .u8 0, Value.int .u8 0, Value.int .u8 0, Value.int .u8 0, Value.int .u8 0, Value.int .u8 0, Value.int .u8 0, Value.int .u8 0, Value.int .u8 0, Value.int .u8 0, Value.int .u8 0, Value.int .u8 0, Value.int .u8 0, Value.int .u8 0, Value.int .u8 0, Value.int .u8 0, Value.int .u8 0, Value.int .u8 0, Value.int .u8 0, Value.int .u8 0, Value.int .u8 0, Value.int .u8 0, Value.int .u8 0, Value.int .u8 0, Value.int .u8 0, Value.int .u8 0, Value.int .u8 0, Value.int .u8 0, Value.int .u8 0, Value.int .u8 0, Value.int .u8 0, Value.int .u8 0, Value.int .u8 0, Value.int .u8 0, Value.int .u8 0, Value.int .u8 0, Value.int .u8 0, Value.int .u8 0, Value.int .u8 0, Value.int .u8 0, Value.int .u8 0, Value.int .u8 0, Value.slice none 0 0]
theorem z67_size : Z67.size = 67 := rfl
theorem built_any (parts : List (Nat × Value)) : Tryd.prog.built 135 parts = Instr.fill (#[((0 : Nat), (1 : Nat)), (1, 33), (34, 32), (66, 1)][·]?) Z67 parts := by kernel_rfl
theorem built_sp (f : Bool) (ent : List Value) (he : ent.length = 33) (d : Text) (hd : d.length = 32) (A : Option Addr) (n c : Nat) : Tryd.prog.built 135 [(0, .bool f), (1, .agg ent.toArray), (2, .agg (cells8 d).toArray), (3, .slice A n c)] = some (spCells f ent d A n c).toArray := by
 have hdl : (cells8 d).length = 32 := by rw [cells8_len, hd]
 rw [built_any]
 refine (fill_one (place := (#[((0 : Nat), (1 : Nat)), (1, 33), (34, 32), (66, 1)][·]?)) (i := 0) (v := .bool f) (xs := [.bool f]) (old := [.bool false]) (pre := []) (post := Value.int .i64 0 :: (List.replicate 64 (Value.int .u8 0) ++ [Value.slice none 0 0])) (off := 0) (size := 1) rfl rfl rfl rfl rfl).trans ?_
 refine (fill_one (place := (#[((0 : Nat), (1 : Nat)), (1, 33), (34, 32), (66, 1)][·]?)) (i := 1) (v := .agg ent.toArray) (xs := ent) (old := Value.int .i64 0 :: List.replicate 32 (Value.int .u8 0)) (pre := [.bool f]) (post := List.replicate 32 (Value.int .u8 0) ++ [Value.slice none 0 0]) (off := 1) (size := 33) rfl rfl he rfl rfl).trans ?_
 have e1 : ([Value.bool f] ++ ent ++ (List.replicate 32 (Value.int .u8 0) ++ [Value.slice none 0 0])) = ([Value.bool f] ++ ent) ++ List.replicate 32 (Value.int .u8 0) ++ [Value.slice none 0 0] := by simp
 rw [e1]
 refine (fill_one (place := (#[((0 : Nat), (1 : Nat)), (1, 33), (34, 32), (66, 1)][·]?)) (i := 2) (v := .agg (cells8 d).toArray) (xs := cells8 d) (old := List.replicate 32 (Value.int .u8 0)) (pre := [.bool f] ++ ent) (post := [Value.slice none 0 0]) (off := 34) (size := 32) rfl rfl hdl (by simp [he]) rfl).trans ?_
 have e2 : ([Value.bool f] ++ ent ++ cells8 d ++ [Value.slice none 0 0]) = ([Value.bool f] ++ ent ++ cells8 d) ++ [Value.slice none 0 0] ++ [] := by simp
 rw [e2]
 refine (fill_one (place := (#[((0 : Nat), (1 : Nat)), (1, 33), (34, 32), (66, 1)][·]?)) (i := 3) (v := .slice A n c) (xs := [Value.slice A n c]) (old := [Value.slice none 0 0]) (pre := [.bool f] ++ ent ++ cells8 d) (post := []) (off := 66) (size := 1) rfl rfl rfl (by simp [he, hdl]) rfl).trans ?_
 rw [fill_nil, List.append_nil]
 rfl
theorem sp_one {f : Bool} {ent : List Value} (h : ∀ v ∈ ent, v.oneCell' = true) {d : Text} {A : Option Addr} {n c : Nat} : (spCells f ent d A n c).toArray.all (·.oneCell') = true := by
 rw [List.all_toArray]
 refine List.all_eq_true.2 fun v hv => ?_
 unfold spCells at hv
 simp only [List.mem_append, List.mem_singleton] at hv
 rcases hv with ((rfl | hv) | hv) | rfl
 ·rfl
 ·exact h v hv
 ·exact cells8_one d v hv
 ·rfl
theorem ent_one (cnt : Int) (ch : Text) : ∀ v ∈ entC cnt ch, v.oneCell' = true := fun v hv => by
 rcases List.mem_cons.1 hv with rfl | hv
 ·rfl
 ·exact cells8_one ch v hv
theorem sizeIx : (Tryd.prog.info? 70).map (·.size) = some 68 := by kernel_rfl
def showsOf (s : Int) (root : Text) (nmS : ByteArray) (f : Bool) (cnt : Int) (ch d : Text) (n : Nat) (ds : List Text) : Int := if okIx nmS f cnt ch d n = true then checkOf s root (ixKey (nm nmS)) f cnt ch d ds else 170
theorem okIx_sp {nmS : ByteArray} {f : Bool} {cnt : Int} {ch d : Text} {n : Nat} (h : okIx nmS f cnt ch d n = true) : okSp f cnt ch d n = true := by
 have h1 := okIx_ones h
 have h2 : okEnt f cnt ch = true := by
  unfold okIx at h
  simp only [Bool.and_eq_true] at h
  exact h.1
 unfold okSp
 rw [h2, decide_eq_true h1]
 rfl
theorem shows_yes {s : Int} {root : Text} {nmS : ByteArray} {f : Bool} {cnt : Int} {ch d : Text} {n : Nat} {ds : List Text} (h : okIx nmS f cnt ch d n = true) : showsOf s root nmS f cnt ch d n ds = spCheck s root (ixKey (nm nmS)) f cnt ch d n ds := by unfold showsOf spCheck; rw [if_pos h, if_pos (okIx_sp h)]
theorem shows_no {s : Int} {root : Text} {nmS : ByteArray} {f : Bool} {cnt : Int} {ch d : Text} {n : Nat} {ds : List Text} (h : okIx nmS f cnt ch d n = false) : showsOf s root nmS f cnt ch d n ds = 170 := by unfold showsOf; rw [if_neg (by rw [h]; decide)]
set_option maxRecDepth 100000 in
set_option maxHeartbeats 2000000 in
theorem said_any (s : ByteArray) (f : Bool) (cnt : Int) (ch : Text) (hch : ch.length = 32) (d : Text) (hd : d.length = 32) (A : Option Addr) (n c : Nat) (w : World) :
  Calls Tryd.prog 87 #[.agg (idxCells s f (entC cnt ch) d A n c).toArray] w fun e w' => e = .returned (.agg (spCells f (entC cnt ch) d A n c).toArray) ∧ Below w.heap.size w w' := by
 obtain ⟨cs, hcs⟩ : ∃ cs : Array Value, (idxCells s f (entC cnt ch) d A n c).toArray = cs := ⟨_, rfl⟩
 have i1 : cs[1]? = some (.bool f) := by rw [← hcs, List.getElem?_toArray]; exact idx_found
 have i2 : ∀ j v, (entC cnt ch)[j]? = some v → cs[2 + j]? = some v := fun j v hv => by rw [← hcs, List.getElem?_toArray]; exact idx_ent j v hv
 have i3 : ∀ j v, (cells8 d)[j]? = some v → cs[35 + j]? = some v := fun j v hv => by rw [← hcs, List.getElem?_toArray]; exact idx_bitmap (entC_len hch) j v hv
 have i4 : cs[67]? = some (.slice A n c) := by rw [← hcs, List.getElem?_toArray]; exact idx_way (entC_len hch) hd
 rw [hcs]
 clear hcs
 obtain ⟨w1, hw1⟩ : ∃ w1, Hid (w1 = (w.alloc (.cells cs 70)).alloc (.cells Z67 135)) := ⟨_, rfl⟩
 have hP : Hid (Blk w1 w.heap.size 70 cs) := by show Blk _ _ _ _; rw [hw1.out]; exact (Blk.new w _ _).alloc _
 have hR : Hid (Blk w1 (w.heap.size + 1) 135 Z67) := by
  show Blk _ _ _ _
  rw [hw1.out]
  have := Blk.new (w.alloc (.cells cs 70)) 135 Z67
  rwa [show (w.alloc (.cells cs 70)).heap.size = w.heap.size + 1 by simp] at this
 have hb1 : Hid (Below w.heap.size w w1) := by show Below _ _ _; rw [hw1.out]; exact ((Below.refl _ w).alloc (Nat.le_refl _) _).alloc (by simp) _
 have e1 : w1.cell? ⟨w.heap.size, 1, none⟩ = some (.bool f) := (hP.out.cell 1).trans i1
 have e4 : w1.cell? ⟨w.heap.size, 67, none⟩ = some (.slice A n c) := (hP.out.cell 67).trans i4
 have h2 : Hid (∀ j v, (entC cnt ch)[j]? = some v → w1.cell? ⟨w.heap.size, 2 + j, none⟩ = some v) := fun j v hv => (hP.out.cell (2 + j)).trans (i2 j v hv)
 have h3 : Hid (∀ j v, (cells8 d)[j]? = some v → w1.cell? ⟨w.heap.size, 35 + j, none⟩ = some v) := fun j v hv => (hP.out.cell (35 + j)).trans (i3 j v hv)
 have sE : Hid ((Tryd.prog.info? 68).map (·.size) = some (entC cnt ch).length) := by show _ = _; rw [entC_len hch]; exact sizeEnt
 have sD : Hid ((Tryd.prog.info? 23).map (·.size) = some (cells8 d).length) := by show _ = _; rw [cells8_len, hd]; exact size31
 have hrun : Hid (∀ w, (Instr.build 135 #[(0, .bool f), (1, .agg (entC cnt ch).toArray), (2, .agg (cells8 d).toArray), (3, .slice A n c)]).run Tryd.prog w = .ok (.agg (spCells f (entC cnt ch) d A n c).toArray) w) := fun w => run_build w _ _ _ (built_sp f (entC cnt ch) (entC_len hch) d hd A n c)
 have hl : (spCells f (entC cnt ch) d A n c).length = 67 := sp_len (entC_len hch) hd
 have sS : Hid ((Tryd.prog.info? 135).map (·.size) = some (spCells f (entC cnt ch) d A n c).toArray.size) := by show _ = _; rw [List.size_toArray, hl]; exact sizeSp
 have sz : Hid (Z67.size = (spCells f (entC cnt ch) d A n c).toArray.size) := by show _ = _; rw [z67_size, List.size_toArray, hl]
 have so : Hid ((spCells f (entC cnt ch) d A n c).toArray.all (·.oneCell') = true) := sp_one (ent_one cnt ch)
 obtain ⟨sp, hsp⟩ : ∃ sp, Hid ((spCells f (entC cnt ch) d A n c).toArray = sp) := ⟨_, Lib.hid rfl⟩
 rw [hsp.out] at hrun sS sz so ⊢
 clear hl i1 i2 i3 i4 hch hd
 go_enter Tryd.func87, Tryd.ntmps87
 go_upto_region 1 with fail
 change Code.wp _ _ _ _ ((w.alloc (.cells cs 70)).alloc (.cells Z67 135))
 rw [← hw1.out]
 go_wp2_with (first
  | ((with_reducible change wpList _ _ _ (⟨some 6, _, _, _, _, _⟩ :: _) _ _); refine wpList_load_part (o := ⟨some 6, _, _, _, _, _⟩) rfl 68 (.tmp 5) rfl (w.heap.size) (2) rfl (entC cnt ch) _ h2.out Tryd.underlying68 rfl sE.out ?_)
  | ((with_reducible change wpList _ _ _ (⟨some 8, _, _, _, _, _⟩ :: _) _ _); refine wpList_load_part (o := ⟨some 8, _, _, _, _, _⟩) rfl 23 (.tmp 7) rfl (w.heap.size) (35) rfl (cells8 d) _ h3.out Tryd.underlying23 rfl sD.out ?_)
  | ((with_reducible change wpList _ _ _ (⟨some 11, _, _, _, _, _⟩ :: _) _ _); refine wpList_buildF (o := ⟨some 11, _, _, _, _, _⟩) rfl 135 #[(0, .tmp 4), (1, .tmp 6), (2, .tmp 8), (3, .tmp 10)] rfl #[(0, .bool f), (1, .agg (entC cnt ch).toArray), (2, .agg (cells8 d).toArray), (3, .slice A n c)] (by simp; exact ⟨rfl, rfl, rfl, rfl⟩) (.agg sp) (hrun.out w1) ?_)
  | ((with_reducible change wpList _ _ _ ({ dst := none, op := Op.store 135 _ _, type := _, pos := _, after := _, guard := _ } :: _) _ _); refine wpList_store_row (o := ⟨none, _, _, _, _, _⟩) rfl 135 (.tmp 2) (.tmp 11) rfl (w.heap.size + 1) (sp) rfl rfl 135 (Z67) hR.out sS.out sz.out so.out ?_))
 refine bodyPost_ret (results_cell_row rfl _ _ (w.heap.size + 1) 135 sp (0, 0) _ rfl (setRow_heap _ _ _ _ _ _ hR.out) Tryd.underlying135 rfl sS.out) rfl ?_
 exact ⟨rfl, below_setRow hb1.out (by omega) _⟩

set_option maxRecDepth 100000 in
set_option maxHeartbeats 2000000 in
theorem refsaid_any (s : ByteArray) (f : Bool) (cnt : Int) (ch : Text) (hch : ch.length = 32) (d : Text) (hd : d.length = 32) (A : Option Addr) (n c : Nat) (w : World) :
  Calls Tryd.prog 91 #[.agg (idxCells s f (entC cnt ch) d A n c).toArray] w fun e w' => e = .returned (.agg (spCells f (entC cnt ch) d A n c).toArray) ∧ Below w.heap.size w w' := by
 obtain ⟨cs, hcs⟩ : ∃ cs : Array Value, (idxCells s f (entC cnt ch) d A n c).toArray = cs := ⟨_, rfl⟩
 have i1 : cs[1]? = some (.bool f) := by rw [← hcs, List.getElem?_toArray]; exact idx_found
 have i2 : ∀ j v, (entC cnt ch)[j]? = some v → cs[2 + j]? = some v := fun j v hv => by rw [← hcs, List.getElem?_toArray]; exact idx_ent j v hv
 have i3 : ∀ j v, (cells8 d)[j]? = some v → cs[35 + j]? = some v := fun j v hv => by rw [← hcs, List.getElem?_toArray]; exact idx_bitmap (entC_len hch) j v hv
 have i4 : cs[67]? = some (.slice A n c) := by rw [← hcs, List.getElem?_toArray]; exact idx_way (entC_len hch) hd
 rw [hcs]
 clear hcs
 obtain ⟨w1, hw1⟩ : ∃ w1, Hid (w1 = (w.alloc (.cells cs 70)).alloc (.cells Z67 135)) := ⟨_, rfl⟩
 have hP : Hid (Blk w1 w.heap.size 70 cs) := by show Blk _ _ _ _; rw [hw1.out]; exact (Blk.new w _ _).alloc _
 have hR : Hid (Blk w1 (w.heap.size + 1) 135 Z67) := by
  show Blk _ _ _ _
  rw [hw1.out]
  have := Blk.new (w.alloc (.cells cs 70)) 135 Z67
  rwa [show (w.alloc (.cells cs 70)).heap.size = w.heap.size + 1 by simp] at this
 have hb1 : Hid (Below w.heap.size w w1) := by show Below _ _ _; rw [hw1.out]; exact ((Below.refl _ w).alloc (Nat.le_refl _) _).alloc (by simp) _
 have e1 : w1.cell? ⟨w.heap.size, 1, none⟩ = some (.bool f) := (hP.out.cell 1).trans i1
 have e4 : w1.cell? ⟨w.heap.size, 67, none⟩ = some (.slice A n c) := (hP.out.cell 67).trans i4
 have h2 : Hid (∀ j v, (entC cnt ch)[j]? = some v → w1.cell? ⟨w.heap.size, 2 + j, none⟩ = some v) := fun j v hv => (hP.out.cell (2 + j)).trans (i2 j v hv)
 have h3 : Hid (∀ j v, (cells8 d)[j]? = some v → w1.cell? ⟨w.heap.size, 35 + j, none⟩ = some v) := fun j v hv => (hP.out.cell (35 + j)).trans (i3 j v hv)
 have sE : Hid ((Tryd.prog.info? 68).map (·.size) = some (entC cnt ch).length) := by show _ = _; rw [entC_len hch]; exact sizeEnt
 have sD : Hid ((Tryd.prog.info? 23).map (·.size) = some (cells8 d).length) := by show _ = _; rw [cells8_len, hd]; exact size31
 have hrun : Hid (∀ w, (Instr.build 135 #[(0, .bool f), (1, .agg (entC cnt ch).toArray), (2, .agg (cells8 d).toArray), (3, .slice A n c)]).run Tryd.prog w = .ok (.agg (spCells f (entC cnt ch) d A n c).toArray) w) := fun w => run_build w _ _ _ (built_sp f (entC cnt ch) (entC_len hch) d hd A n c)
 have hl : (spCells f (entC cnt ch) d A n c).length = 67 := sp_len (entC_len hch) hd
 have sS : Hid ((Tryd.prog.info? 135).map (·.size) = some (spCells f (entC cnt ch) d A n c).toArray.size) := by show _ = _; rw [List.size_toArray, hl]; exact sizeSp
 have sz : Hid (Z67.size = (spCells f (entC cnt ch) d A n c).toArray.size) := by show _ = _; rw [z67_size, List.size_toArray, hl]
 have so : Hid ((spCells f (entC cnt ch) d A n c).toArray.all (·.oneCell') = true) := sp_one (ent_one cnt ch)
 obtain ⟨sp, hsp⟩ : ∃ sp, Hid ((spCells f (entC cnt ch) d A n c).toArray = sp) := ⟨_, Lib.hid rfl⟩
 rw [hsp.out] at hrun sS sz so ⊢
 clear hl i1 i2 i3 i4 hch hd
 go_enter Tryd.func91, Tryd.ntmps91
 go_upto_region 1 with fail
 change Code.wp _ _ _ _ ((w.alloc (.cells cs 70)).alloc (.cells Z67 135))
 rw [← hw1.out]
 go_wp2_with (first
  | ((with_reducible change wpList _ _ _ (⟨some 6, _, _, _, _, _⟩ :: _) _ _); refine wpList_load_part (o := ⟨some 6, _, _, _, _, _⟩) rfl 68 (.tmp 5) rfl (w.heap.size) (2) rfl (entC cnt ch) _ h2.out Tryd.underlying68 rfl sE.out ?_)
  | ((with_reducible change wpList _ _ _ (⟨some 8, _, _, _, _, _⟩ :: _) _ _); refine wpList_load_part (o := ⟨some 8, _, _, _, _, _⟩) rfl 23 (.tmp 7) rfl (w.heap.size) (35) rfl (cells8 d) _ h3.out Tryd.underlying23 rfl sD.out ?_)
  | ((with_reducible change wpList _ _ _ (⟨some 11, _, _, _, _, _⟩ :: _) _ _); refine wpList_buildF (o := ⟨some 11, _, _, _, _, _⟩) rfl 135 #[(0, .tmp 4), (1, .tmp 6), (2, .tmp 8), (3, .tmp 10)] rfl #[(0, .bool f), (1, .agg (entC cnt ch).toArray), (2, .agg (cells8 d).toArray), (3, .slice A n c)] (by simp; exact ⟨rfl, rfl, rfl, rfl⟩) (.agg sp) (hrun.out w1) ?_)
  | ((with_reducible change wpList _ _ _ ({ dst := none, op := Op.store 135 _ _, type := _, pos := _, after := _, guard := _ } :: _) _ _); refine wpList_store_row (o := ⟨none, _, _, _, _, _⟩) rfl 135 (.tmp 2) (.tmp 11) rfl (w.heap.size + 1) (sp) rfl rfl 135 (Z67) hR.out sS.out sz.out so.out ?_))
 refine bodyPost_ret (results_cell_row rfl _ _ (w.heap.size + 1) 135 sp (0, 0) _ rfl (setRow_heap _ _ _ _ _ _ hR.out) Tryd.underlying135 rfl sS.out) rfl ?_
 exact ⟨rfl, below_setRow hb1.out (by omega) _⟩

set_option maxRecDepth 100000 in
set_option maxHeartbeats 2000000 in
theorem refcheck_any (root k : Text) (hrt : root.length = 32) (hk : k.length = 32) (cs : Array Value) (f : Bool) (cnt : Int) (ch d : Text) (hch : ch.length = 32) (hd : d.length = 32) (A : Option Addr) (n c : Nat) (hs : Sp cs f cnt ch d A n c) (s : Int) (hs63 : s < 9223372036854775808) (ds : List Text) (w : World) (hr : RdD w A n ds) :
  Calls Tryd.prog 89 #[.int .i64 s, .agg (cells8 root).toArray, .agg (cells8 k).toArray, .agg cs] w fun e w' => e = .returned (.int .i64 (spCheck s root k f cnt ch d n ds)) ∧ Below w.heap.size w w' := by
 obtain ⟨w1, hw1⟩ : ∃ w1, Hid (w1 = (((w.alloc (.cells (cells8 root).toArray 23)).alloc (.cells (cells8 k).toArray 23)).alloc (.cells cs 135))) := ⟨_, rfl⟩
 have hb1 : Hid (Below w.heap.size w w1) := by show Below _ _ _; rw [hw1.out]; exact (((Below.refl _ w).alloc (Nat.le_refl _) _).alloc (by simp) _).alloc (by simp; omega) _
 have hP1 : Hid (Blk w1 (w.heap.size + 2) 135 cs) := by
  show Blk _ _ _ _
  rw [hw1.out]
  have := Blk.new ((w.alloc (.cells (cells8 root).toArray 23)).alloc (.cells (cells8 k).toArray 23)) 135 cs
  rwa [show ((w.alloc (.cells (cells8 root).toArray 23)).alloc (.cells (cells8 k).toArray 23)).heap.size = w.heap.size + 2 by simp] at this
 have hR1 : Hid (Blk w1 w.heap.size 23 (cells8 root).toArray) := by show Blk _ _ _ _; rw [hw1.out]; exact ((Blk.new w _ _).alloc _).alloc _
 have hK1 : Hid (Blk w1 (w.heap.size + 1) 23 (cells8 k).toArray) := by
  show Blk _ _ _ _
  rw [hw1.out]
  have := Blk.new (w.alloc (.cells (cells8 root).toArray 23)) 23 (cells8 k).toArray
  rw [show (w.alloc (.cells (cells8 root).toArray 23)).heap.size = w.heap.size + 1 by simp] at this
  exact this.alloc _
 have hsz : Hid ((Tryd.prog.info? 135).map (·.size) = some cs.size) := by show _ = _; rw [hs.size]; exact sizeSp
 have Fk := Lib.hid (fit (x := k) hk)
 have Fr := Lib.hid (fit (x := root) hrt)
 have hcon := refclimb_any k hk cs f cnt ch d hch hd A n c hs s hs63 ds w1 (hr.below hb1.out)
 cases hok : okSp f cnt ch d n with
 | false =>
  rw [spCheck_no hok]
  have hcon2 : Hid (Calls Tryd.prog 102 #[.int .i64 s, .agg (cells8 k).toArray, .agg cs] w1 fun e w' => ∃ v, e = .returned (.tuple #[v, .agg Z32, .int .i64 8]) ∧ Below w1.heap.size w1 w') := hcon.mono fun e w' h => by
   rcases h with ⟨hb, h | h | h⟩
   ·exact ⟨_, h.2, hb⟩
   ·rw [hok] at h; cases h.1
   ·rw [hok] at h; cases h.1
  clear hcon hr hs hch hd hrt hk hok hs63
  go_enter Tryd.func89, Tryd.ntmps89
  go_upto_region 1 with fail
  change Code.wp _ _ _ _ (((w.alloc (.cells (cells8 root).toArray 23)).alloc (.cells (cells8 k).toArray 23)).alloc (.cells cs 135))
  rw [← hw1.out]
  go_wp2_with (first
   | ((with_reducible change wpList _ _ _ (⟨some 14, _, _, _, _, _⟩ :: _) _ _); refine wpList_load_row (o := ⟨some 14, _, _, _, _, _⟩) rfl 23 (.tmp 6) rfl ((w.heap.size + 1)) rfl 23 ((cells8 k).toArray) (0, 0) _ hK1.out Tryd.underlying23 rfl Fk.out.size ?_)
   | ((with_reducible change wpList _ _ _ (⟨some 15, _, _, _, _, _⟩ :: _) _ _); refine wpList_load_row (o := ⟨some 15, _, _, _, _, _⟩) rfl 135 (.tmp 7) rfl ((w.heap.size + 2)) rfl 135 (cs) (0, 0) _ hP1.out Tryd.underlying135 rfl hsz.out ?_)
   | (go_at_call 102; refine hcon2.out.mono ?_; rintro e w2 ⟨v2, rfl, hk2⟩; have hb2 : Hid (Below w.heap.size w w2) := hb1.out.trans (hk2.mono hb1.out.size); have hR2 : Hid (Blk w2 w.heap.size 23 (cells8 root).toArray) := (hk2.block _ hR1.out.lt).trans hR1.out; clear hk2 hcon2)
   | ((with_reducible change wpList _ _ _ ({ dst := none, op := Op.store 23 (.tmp 10) _, type := _, pos := _, after := _, guard := _ } :: _) _ _); refine wpList_store_whole (o := ⟨none, _, _, _, _, _⟩) rfl 23 (.tmp 10) (.tmp 18) rfl (w2.heap.size) (Z32) rfl rfl 23 (Z32) (Blk.new w2 _ _) fitZ rfl oneZ ?_; intro w6 hB6 hk6; have hk26 := kept_fresh hk6; have hR6 : Hid (Blk w6 w.heap.size 23 (cells8 root).toArray) := (hk26.block _ hR2.out.lt).trans hR2.out; have hb6 : Hid (Below w.heap.size w w6) := hb2.out.trans (hk26.mono hb2.out.size); replace hB6 := Lib.hid hB6; clear hk6 hk26)
   | ((with_reducible change wpList _ _ _ (⟨some 23, _, _, _, _, _⟩ :: _) _ _); refine wpList_load_row (o := ⟨some 23, _, _, _, _, _⟩) rfl 23 (.tmp 10) rfl (w2.heap.size) rfl 23 (Z32) (0, 0) _ hB6.out Tryd.underlying23 rfl fitZ ?_)
   | ((with_reducible change wpList _ _ _ (⟨some 24, _, _, _, _, _⟩ :: _) _ _); refine wpList_load_row (o := ⟨some 24, _, _, _, _, _⟩) rfl 23 (.tmp 5) rfl (w.heap.size) rfl 23 ((cells8 root).toArray) (0, 0) _ hR6.out Tryd.underlying23 rfl Fr.out.size ?_))
  go_ret
  exact ⟨rfl, hb6.out⟩
 | true =>
  cases hnb : nbrs s d ds 256 with
  | none =>
   rw [spCheck_bad hok hnb]
   have hcon2 : Hid (Calls Tryd.prog 102 #[.int .i64 s, .agg (cells8 k).toArray, .agg cs] w1 fun e w' => ∃ v, e = .returned (.tuple #[v, .agg Z32, .int .i64 170]) ∧ Below w1.heap.size w1 w') := hcon.mono fun e w' h => by
    rcases h with ⟨hb, h | h | h⟩
    ·rw [hok] at h; cases h.1
    ·exact ⟨_, h.2.2, hb⟩
    ·obtain ⟨-, l, v, xs, h, -⟩ := h
     rw [hnb] at h; cases h
   clear hcon hr hs hch hd hrt hk hok hnb hs63
   go_enter Tryd.func89, Tryd.ntmps89
   go_upto_region 1 with fail
   change Code.wp _ _ _ _ (((w.alloc (.cells (cells8 root).toArray 23)).alloc (.cells (cells8 k).toArray 23)).alloc (.cells cs 135))
   rw [← hw1.out]
   go_wp2_with (first
    | ((with_reducible change wpList _ _ _ (⟨some 14, _, _, _, _, _⟩ :: _) _ _); refine wpList_load_row (o := ⟨some 14, _, _, _, _, _⟩) rfl 23 (.tmp 6) rfl ((w.heap.size + 1)) rfl 23 ((cells8 k).toArray) (0, 0) _ hK1.out Tryd.underlying23 rfl Fk.out.size ?_)
    | ((with_reducible change wpList _ _ _ (⟨some 15, _, _, _, _, _⟩ :: _) _ _); refine wpList_load_row (o := ⟨some 15, _, _, _, _, _⟩) rfl 135 (.tmp 7) rfl ((w.heap.size + 2)) rfl 135 (cs) (0, 0) _ hP1.out Tryd.underlying135 rfl hsz.out ?_)
    | (go_at_call 102; refine hcon2.out.mono ?_; rintro e w2 ⟨v2, rfl, hk2⟩; have hb2 : Hid (Below w.heap.size w w2) := hb1.out.trans (hk2.mono hb1.out.size); have hR2 : Hid (Blk w2 w.heap.size 23 (cells8 root).toArray) := (hk2.block _ hR1.out.lt).trans hR1.out; clear hk2 hcon2)
    | ((with_reducible change wpList _ _ _ ({ dst := none, op := Op.store 23 (.tmp 10) _, type := _, pos := _, after := _, guard := _ } :: _) _ _); refine wpList_store_whole (o := ⟨none, _, _, _, _, _⟩) rfl 23 (.tmp 10) (.tmp 18) rfl (w2.heap.size) (Z32) rfl rfl 23 (Z32) (Blk.new w2 _ _) fitZ rfl oneZ ?_; intro w6 hB6 hk6; have hk26 := kept_fresh hk6; have hR6 : Hid (Blk w6 w.heap.size 23 (cells8 root).toArray) := (hk26.block _ hR2.out.lt).trans hR2.out; have hb6 : Hid (Below w.heap.size w w6) := hb2.out.trans (hk26.mono hb2.out.size); replace hB6 := Lib.hid hB6; clear hk6 hk26)
    | ((with_reducible change wpList _ _ _ (⟨some 23, _, _, _, _, _⟩ :: _) _ _); refine wpList_load_row (o := ⟨some 23, _, _, _, _, _⟩) rfl 23 (.tmp 10) rfl (w2.heap.size) rfl 23 (Z32) (0, 0) _ hB6.out Tryd.underlying23 rfl fitZ ?_)
    | ((with_reducible change wpList _ _ _ (⟨some 24, _, _, _, _, _⟩ :: _) _ _); refine wpList_load_row (o := ⟨some 24, _, _, _, _, _⟩) rfl 23 (.tmp 5) rfl (w.heap.size) rfl 23 ((cells8 root).toArray) (0, 0) _ hR6.out Tryd.underlying23 rfl Fr.out.size ?_))
   go_ret
   exact ⟨rfl, hb6.out⟩
  | some l =>
   rw [spCheck_yes hok hnb]
   have hcon2 : Hid (Calls Tryd.prog 102 #[.int .i64 s, .agg (cells8 k).toArray, .agg cs] w1 fun e w' => ∃ v, e = .returned (.tuple #[v, .agg (cells8 (lead s k (txt0 k f cnt ch) l 256).2).toArray, .int .i64 0]) ∧ Below w1.heap.size w1 w') := hcon.mono fun e w' h => by
    rcases h with ⟨hb, h | h | h⟩
    ·rw [hok] at h; cases h.1
    ·rw [hnb] at h; cases h.2.1
    ·obtain ⟨-, l', v, xs, h1, h2, -⟩ := h
     rw [hnb] at h1
     obtain rfl := Option.some.inj h1
     exact ⟨v, h2, hb⟩
   have hdg := lead_dig s k (txt0 k f cnt ch) l 256
   obtain ⟨dg, hdge⟩ : ∃ dg, (lead s k (txt0 k f cnt ch) l 256).2 = dg := ⟨_, rfl⟩
   rw [hdge] at hdg hcon2 ⊢
   have Fd := Lib.hid (fit (x := dg) hdg)
   have hneq := Lib.hid (neq_dig dg root hdg hrt)
   clear hcon hr hs hch hd hrt hk hok hnb hdge hdg hs63
   by_cases he : dg = root
   ·have hne : ∀ w, (binOp .neq 23 (.agg (cells8 dg).toArray) (.agg (cells8 root).toArray)).run Tryd.prog w = .ok (.bool false) w := fun w => by rw [hneq.out w, decide_eq_true he]; rfl
    rw [if_pos he]
    clear hneq he
    go_enter Tryd.func89, Tryd.ntmps89
    go_upto_region 1 with fail
    change Code.wp _ _ _ _ (((w.alloc (.cells (cells8 root).toArray 23)).alloc (.cells (cells8 k).toArray 23)).alloc (.cells cs 135))
    rw [← hw1.out]
    go_wp2_with (first
     | ((with_reducible change wpList _ _ _ (⟨some 14, _, _, _, _, _⟩ :: _) _ _); refine wpList_load_row (o := ⟨some 14, _, _, _, _, _⟩) rfl 23 (.tmp 6) rfl ((w.heap.size + 1)) rfl 23 ((cells8 k).toArray) (0, 0) _ hK1.out Tryd.underlying23 rfl Fk.out.size ?_)
     | ((with_reducible change wpList _ _ _ (⟨some 15, _, _, _, _, _⟩ :: _) _ _); refine wpList_load_row (o := ⟨some 15, _, _, _, _, _⟩) rfl 135 (.tmp 7) rfl ((w.heap.size + 2)) rfl 135 (cs) (0, 0) _ hP1.out Tryd.underlying135 rfl hsz.out ?_)
     | (go_at_call 102; refine hcon2.out.mono ?_; rintro e w2 ⟨v2, rfl, hk2⟩; have hb2 : Hid (Below w.heap.size w w2) := hb1.out.trans (hk2.mono hb1.out.size); have hR2 : Hid (Blk w2 w.heap.size 23 (cells8 root).toArray) := (hk2.block _ hR1.out.lt).trans hR1.out; clear hk2 hcon2)
     | ((with_reducible change wpList _ _ _ ({ dst := none, op := Op.store 23 (.tmp 10) _, type := _, pos := _, after := _, guard := _ } :: _) _ _); refine wpList_store_whole (o := ⟨none, _, _, _, _, _⟩) rfl 23 (.tmp 10) (.tmp 18) rfl (w2.heap.size) ((cells8 dg).toArray) rfl rfl 23 (Z32) (Blk.new w2 _ _) Fd.out.size Fd.out.zero Fd.out.one ?_; intro w6 hB6 hk6; have hk26 := kept_fresh hk6; have hR6 : Hid (Blk w6 w.heap.size 23 (cells8 root).toArray) := (hk26.block _ hR2.out.lt).trans hR2.out; have hb6 : Hid (Below w.heap.size w w6) := hb2.out.trans (hk26.mono hb2.out.size); replace hB6 := Lib.hid hB6; clear hk6 hk26)
     | ((with_reducible change wpList _ _ _ (⟨some 23, _, _, _, _, _⟩ :: _) _ _); refine wpList_load_row (o := ⟨some 23, _, _, _, _, _⟩) rfl 23 (.tmp 10) rfl (w2.heap.size) rfl 23 ((cells8 dg).toArray) (0, 0) _ hB6.out Tryd.underlying23 rfl Fd.out.size ?_)
     | ((with_reducible change wpList _ _ _ (⟨some 24, _, _, _, _, _⟩ :: _) _ _); refine wpList_load_row (o := ⟨some 24, _, _, _, _, _⟩) rfl 23 (.tmp 5) rfl (w.heap.size) rfl 23 ((cells8 root).toArray) (0, 0) _ hR6.out Tryd.underlying23 rfl Fr.out.size ?_))
    go_ret
    exact ⟨rfl, hb6.out⟩
   ·have hne : ∀ w, (binOp .neq 23 (.agg (cells8 dg).toArray) (.agg (cells8 root).toArray)).run Tryd.prog w = .ok (.bool true) w := fun w => by rw [hneq.out w, decide_eq_false he]; rfl
    rw [if_neg he]
    clear hneq he
    go_enter Tryd.func89, Tryd.ntmps89
    go_upto_region 1 with fail
    change Code.wp _ _ _ _ (((w.alloc (.cells (cells8 root).toArray 23)).alloc (.cells (cells8 k).toArray 23)).alloc (.cells cs 135))
    rw [← hw1.out]
    go_wp2_with (first
     | ((with_reducible change wpList _ _ _ (⟨some 14, _, _, _, _, _⟩ :: _) _ _); refine wpList_load_row (o := ⟨some 14, _, _, _, _, _⟩) rfl 23 (.tmp 6) rfl ((w.heap.size + 1)) rfl 23 ((cells8 k).toArray) (0, 0) _ hK1.out Tryd.underlying23 rfl Fk.out.size ?_)
     | ((with_reducible change wpList _ _ _ (⟨some 15, _, _, _, _, _⟩ :: _) _ _); refine wpList_load_row (o := ⟨some 15, _, _, _, _, _⟩) rfl 135 (.tmp 7) rfl ((w.heap.size + 2)) rfl 135 (cs) (0, 0) _ hP1.out Tryd.underlying135 rfl hsz.out ?_)
     | (go_at_call 102; refine hcon2.out.mono ?_; rintro e w2 ⟨v2, rfl, hk2⟩; have hb2 : Hid (Below w.heap.size w w2) := hb1.out.trans (hk2.mono hb1.out.size); have hR2 : Hid (Blk w2 w.heap.size 23 (cells8 root).toArray) := (hk2.block _ hR1.out.lt).trans hR1.out; clear hk2 hcon2)
     | ((with_reducible change wpList _ _ _ ({ dst := none, op := Op.store 23 (.tmp 10) _, type := _, pos := _, after := _, guard := _ } :: _) _ _); refine wpList_store_whole (o := ⟨none, _, _, _, _, _⟩) rfl 23 (.tmp 10) (.tmp 18) rfl (w2.heap.size) ((cells8 dg).toArray) rfl rfl 23 (Z32) (Blk.new w2 _ _) Fd.out.size Fd.out.zero Fd.out.one ?_; intro w6 hB6 hk6; have hk26 := kept_fresh hk6; have hR6 : Hid (Blk w6 w.heap.size 23 (cells8 root).toArray) := (hk26.block _ hR2.out.lt).trans hR2.out; have hb6 : Hid (Below w.heap.size w w6) := hb2.out.trans (hk26.mono hb2.out.size); replace hB6 := Lib.hid hB6; clear hk6 hk26)
     | ((with_reducible change wpList _ _ _ (⟨some 23, _, _, _, _, _⟩ :: _) _ _); refine wpList_load_row (o := ⟨some 23, _, _, _, _, _⟩) rfl 23 (.tmp 10) rfl (w2.heap.size) rfl 23 ((cells8 dg).toArray) (0, 0) _ hB6.out Tryd.underlying23 rfl Fd.out.size ?_)
     | ((with_reducible change wpList _ _ _ (⟨some 24, _, _, _, _, _⟩ :: _) _ _); refine wpList_load_row (o := ⟨some 24, _, _, _, _, _⟩) rfl 23 (.tmp 5) rfl (w.heap.size) rfl 23 ((cells8 root).toArray) (0, 0) _ hR6.out Tryd.underlying23 rfl Fr.out.size ?_))
    go_ret
    exact ⟨rfl, hb6.out⟩

set_option maxRecDepth 100000 in
set_option maxHeartbeats 2000000 in
theorem shows_any (root : Text) (hrt : root.length = 32) (nmS : ByteArray) (hnm : nmS.size < 140737488355327) (f : Bool) (cnt : Int) (ch d : Text) (hch : ch.length = 32) (hd : d.length = 32) (A : Option Addr) (n c : Nat) (s : Int) (ds : List Text) (w : World) (hB : Base w) (hr : RdD w A n ds) :
  Calls Tryd.prog 35 #[.int .i64 s, .agg (cells8 root).toArray, .agg (idxCells nmS f (entC cnt ch) d A n c).toArray] w fun e w' => e = .returned (.int .i64 (showsOf s root nmS f cnt ch d n ds)) ∧ Below w.heap.size w w' := by
 obtain ⟨cs, hcs⟩ : ∃ cs : Array Value, Hid ((idxCells nmS f (entC cnt ch) d A n c).toArray = cs) := ⟨_, Lib.hid rfl⟩
 have i0 : cs[0]? = some (.string nmS) := by rw [← hcs.out, List.getElem?_toArray]; exact idx_name
 have hsz : Hid ((Tryd.prog.info? 70).map (·.size) = some cs.size) := by show _ = _; rw [← hcs.out, List.size_toArray, idx_len (entC_len hch) hd]; exact sizeIx
 obtain ⟨sp, hsp⟩ : ∃ sp : Array Value, Hid ((spCells f (entC cnt ch) d A n c).toArray = sp) := ⟨_, Lib.hid rfl⟩
 have hSp : Sp sp f cnt ch d A n c := by rw [← hsp.out]; exact Sp.of f cnt hch hd A n c
 obtain ⟨w1, hw1⟩ : ∃ w1, Hid (w1 = (w.alloc (.cells (cells8 root).toArray 23)).alloc (.cells cs 70)) := ⟨_, rfl⟩
 have hb1 : Hid (Below w.heap.size w w1) := by show Below _ _ _; rw [hw1.out]; exact ((Below.refl _ w).alloc (Nat.le_refl _) _).alloc (by simp) _
 have hR1 : Hid (Blk w1 w.heap.size 23 (cells8 root).toArray) := by show Blk _ _ _ _; rw [hw1.out]; exact (Blk.new w _ _).alloc _
 have hP1 : Hid (Blk w1 (w.heap.size + 1) 70 cs) := by
  show Blk _ _ _ _
  rw [hw1.out]
  have := Blk.new (w.alloc (.cells (cells8 root).toArray 23)) 70 cs
  rwa [show (w.alloc (.cells (cells8 root).toArray 23)).heap.size = w.heap.size + 1 by simp] at this
 have Fr := Lib.hid (fit (x := root) hrt)
 have hkl := ixKey_len (nm nmS)
 have hKey : Hid (∀ w', Below w.heap.size w w' → Calls Tryd.prog 86 #[.string nmS] w' fun e w'' => e = .returned (.agg (cells8 (ixKey (nm nmS))).toArray) ∧ Below w'.heap.size w' w'') := fun w' hb => key_any nmS (by omega) w' (hB.below hb hB.1)
 have hSaid : Hid (∀ w', Calls Tryd.prog 87 #[.agg cs] w' fun e w'' => e = .returned (.agg sp) ∧ Below w'.heap.size w' w'') := fun w' => by rw [← hcs.out, ← hsp.out]; exact said_any nmS f cnt ch hch d hd A n c w'
 have hChk : Hid (∀ w', Below w.heap.size w w' → Calls Tryd.prog 85 #[.int .i64 s, .agg (cells8 root).toArray, .agg (cells8 (ixKey (nm nmS))).toArray, .agg sp] w' fun e w'' => e = .returned (.int .i64 (spCheck s root (ixKey (nm nmS)) f cnt ch d n ds)) ∧ Below w'.heap.size w' w'') := fun w' hb => check_any root (ixKey (nm nmS)) hrt hkl sp f cnt ch d hch hd A n c hSp s ds w' (hB.below hb hB.1) (hr.below hb)
 rw [hcs.out]
 cases hok : okIx nmS f cnt ch d n with
 | false =>
  rw [shows_no hok]
  have hEnc : Hid (Calls Tryd.prog 84 #[.agg cs] w1 fun e w' => ∃ v, e = .returned (.tuple #[v, .int .i64 170]) ∧ Below w1.heap.size w1 w') := by
   rw [← hcs.out]
   refine (encIdx_any nmS (by omega) f cnt ch hch d hd ds A n c w1 (hr.below hb1.out)).mono ?_
   rintro e w' ⟨A4, c4, b, err, rfl, -, h | h, hb⟩
   ·have := h.1
    unfold idxWant at this
    rw [hr.1, hok] at this
    cases this
   ·rw [h.2.2]
    exact ⟨_, rfl, hb⟩
  clear hr hch hd hrt hSp hok hKey hSaid hChk i0 hkl hB hnm
  go_enter Tryd.func35, Tryd.ntmps35
  go_upto_region 1 with fail
  change Code.wp _ _ _ _ ((w.alloc (.cells (cells8 root).toArray 23)).alloc (.cells cs 70))
  rw [← hw1.out]
  go_wp2_with (first
   | ((with_reducible change wpList _ _ _ (⟨some 10, _, _, _, _, _⟩ :: _) _ _); refine wpList_load_row (o := ⟨some 10, _, _, _, _, _⟩) rfl 70 (.tmp 5) rfl ((w.heap.size + 1)) rfl 70 (cs) (0, 0) _ hP1.out Tryd.underlying70 rfl hsz.out ?_)
   | (go_at_call 84; refine hEnc.out.mono ?_; rintro e w2 ⟨v2, rfl, hk⟩; have hk2 : Hid (Below w1.heap.size w1 w2) := hk; have hb2 : Hid (Below w.heap.size w w2) := hb1.out.trans (hk.mono hb1.out.size); clear hk hEnc))
  go_ret
  exact ⟨rfl, hb2.out⟩
 | true =>
  rw [shows_yes hok]
  obtain ⟨ans, hans⟩ : ∃ x, spCheck s root (ixKey (nm nmS)) f cnt ch d n ds = x := ⟨_, rfl⟩
  rw [hans] at hChk ⊢
  obtain ⟨ky, hky⟩ : ∃ x, ixKey (nm nmS) = x := ⟨_, rfl⟩
  rw [hky] at hChk hKey hkl
  have Fy := Lib.hid (fit (x := ky) hkl)
  have hEnc : Hid (Calls Tryd.prog 84 #[.agg cs] w1 fun e w' => ∃ v, e = .returned (.tuple #[v, .int .i64 0]) ∧ Below w1.heap.size w1 w') := by
   rw [← hcs.out]
   refine (encIdx_any nmS (by omega) f cnt ch hch d hd ds A n c w1 (hr.below hb1.out)).mono ?_
   rintro e w' ⟨A4, c4, b, err, rfl, -, h | h, hb⟩
   ·rw [h.2]
    exact ⟨_, rfl, hb⟩
   ·have := h.1
    unfold idxWant at this
    rw [hr.1, hok] at this
    cases this
  replace i0 := Lib.hid i0
  clear hr hch hd hrt hSp hok hans hky hkl hB hnm
  go_enter Tryd.func35, Tryd.ntmps35
  go_upto_region 1 with fail
  change Code.wp _ _ _ _ ((w.alloc (.cells (cells8 root).toArray 23)).alloc (.cells cs 70))
  rw [← hw1.out]
  go_wp2_with (first
   | ((with_reducible change wpList _ _ _ (⟨some 10, _, _, _, _, _⟩ :: _) _ _); refine wpList_load_row (o := ⟨some 10, _, _, _, _, _⟩) rfl 70 (.tmp 5) rfl ((w.heap.size + 1)) rfl 70 (cs) (0, 0) _ hP1.out Tryd.underlying70 rfl hsz.out ?_)
   | (go_at_call 84; refine hEnc.out.mono ?_; rintro e w2 ⟨v2, rfl, hk⟩; have hk2 : Hid (Below w1.heap.size w1 w2) := hk; have hb2 : Hid (Below w.heap.size w w2) := hb1.out.trans (hk.mono hb1.out.size); clear hk hEnc))
  have hR2 : Hid (Blk w2 w.heap.size 23 (cells8 root).toArray) := (hk2.out.block _ hR1.out.lt).trans hR1.out
  have hP2 : Hid (Blk w2 (w.heap.size + 1) 70 cs) := (hk2.out.block _ hP1.out.lt).trans hP1.out
  refine q_region (Class w2) (by kernel_rfl) (by kernel_rfl) (Class.mk_ ((Below.refl _ _).drew)) ?_
  refine q_move rfl (.tmp 0) rfl ?_
  (intro K k; go_simp; apply k; clear k K)
  refine q_row rfl 23 (.tmp 4) rfl w.heap.size rfl 23 ((cells8 root).toArray) (0, 0) _ (fun w' hw' => (hw'.below.block _ hR2.out.lt).trans hR2.out) Tryd.underlying23 rfl Fr.out.size ?_
  (intro K k; go_simp; apply k; clear k K)
  refine Want.qv0 (.pointer (some ⟨w.heap.size + 1, 0, none⟩)) ?_
  (intro K k; go_simp; apply k; clear k K)
  refine q_val (v := .string nmS) rfl (fun w' hw' => by have h : w'.cell? ⟨w.heap.size + 1, 0, none⟩ = some (.string nmS) := ((show Blk w' (w.heap.size + 1) 70 cs from (hw'.below.block _ hP2.out.lt).trans hP2.out).cell 0).trans i0.out; go_simp) ?_
  (intro K k; go_simp; apply k; clear k K)
  refine q_fn (v := .agg (cells8 ky).toArray) (args := #[.string nmS]) rfl _ _ rfl rfl Tryd.func86 (by kernel_rfl) (by kernel_rfl) (fun w' hw' => (hKey.out w' (hb2.out.trans (hw'.below.mono hb2.out.size))).mono (fun e w'' ⟨he, hb⟩ => ⟨he, hw'.next hb⟩)) ?_
  (intro K k; go_simp; apply k; clear k K)
  refine q_row rfl 70 (.tmp 5) rfl (w.heap.size + 1) rfl 70 (cs) (0, 0) _ (fun w' hw' => (hw'.below.block _ hP2.out.lt).trans hP2.out) Tryd.underlying70 rfl hsz.out ?_
  (intro K k; go_simp; apply k; clear k K)
  refine q_fn (v := .agg sp) (args := #[.agg cs]) rfl _ _ rfl rfl Tryd.func87 (by kernel_rfl) (by kernel_rfl) (fun w' hw' => (hSaid.out w').mono (fun e w'' ⟨he, hb⟩ => ⟨he, hw'.next hb⟩)) ?_
  (intro K k; go_simp; apply k; clear k K)
  refine q_fn (v := .int .i64 ans) (args := #[.int .i64 s, .agg (cells8 root).toArray, .agg (cells8 ky).toArray, .agg sp]) rfl _ _ rfl rfl Tryd.func85 (by kernel_rfl) (by kernel_rfl) (fun w' hw' => (hChk.out w' (hb2.out.trans (hw'.below.mono hb2.out.size))).mono (fun e w'' ⟨he, hb⟩ => ⟨he, hw'.next hb⟩)) ?_
  (intro K k; go_simp; apply k; clear k K)
  refine Want.qv0 (.int .i64 ans) ?_
  (intro K k; go_simp; apply k; clear k K)
  refine q_nil ?_
  intro w7 hw7
  have h7 : Hid (Below w2.heap.size w2 w7) := hw7.below
  go_wp2_with fail
  go_ret
  exact ⟨rfl, hb2.out.trans (h7.out.mono hb2.out.size)⟩

set_option maxRecDepth 100000 in
set_option maxHeartbeats 2000000 in
theorem refshows_any (root : Text) (hrt : root.length = 32) (nmS : ByteArray) (hnm : nmS.size < 140737488355327) (f : Bool) (cnt : Int) (ch d : Text) (hch : ch.length = 32) (hd : d.length = 32) (A : Option Addr) (n c : Nat) (s : Int) (ds : List Text) (w : World) (hs63 : s < 9223372036854775808) (hr : RdD w A n ds) :
  Calls Tryd.prog 36 #[.int .i64 s, .agg (cells8 root).toArray, .agg (idxCells nmS f (entC cnt ch) d A n c).toArray] w fun e w' => e = .returned (.int .i64 (showsOf s root nmS f cnt ch d n ds)) ∧ Below w.heap.size w w' := by
 obtain ⟨cs, hcs⟩ : ∃ cs : Array Value, Hid ((idxCells nmS f (entC cnt ch) d A n c).toArray = cs) := ⟨_, Lib.hid rfl⟩
 have i0 : cs[0]? = some (.string nmS) := by rw [← hcs.out, List.getElem?_toArray]; exact idx_name
 have hsz : Hid ((Tryd.prog.info? 70).map (·.size) = some cs.size) := by show _ = _; rw [← hcs.out, List.size_toArray, idx_len (entC_len hch) hd]; exact sizeIx
 obtain ⟨sp, hsp⟩ : ∃ sp : Array Value, Hid ((spCells f (entC cnt ch) d A n c).toArray = sp) := ⟨_, Lib.hid rfl⟩
 have hSp : Sp sp f cnt ch d A n c := by rw [← hsp.out]; exact Sp.of f cnt hch hd A n c
 obtain ⟨w1, hw1⟩ : ∃ w1, Hid (w1 = (w.alloc (.cells (cells8 root).toArray 23)).alloc (.cells cs 70)) := ⟨_, rfl⟩
 have hb1 : Hid (Below w.heap.size w w1) := by show Below _ _ _; rw [hw1.out]; exact ((Below.refl _ w).alloc (Nat.le_refl _) _).alloc (by simp) _
 have hR1 : Hid (Blk w1 w.heap.size 23 (cells8 root).toArray) := by show Blk _ _ _ _; rw [hw1.out]; exact (Blk.new w _ _).alloc _
 have hP1 : Hid (Blk w1 (w.heap.size + 1) 70 cs) := by
  show Blk _ _ _ _
  rw [hw1.out]
  have := Blk.new (w.alloc (.cells (cells8 root).toArray 23)) 70 cs
  rwa [show (w.alloc (.cells (cells8 root).toArray 23)).heap.size = w.heap.size + 1 by simp] at this
 have Fr := Lib.hid (fit (x := root) hrt)
 have hkl := ixKey_len (nm nmS)
 have hKey : Hid (∀ w', Below w.heap.size w w' → Calls Tryd.prog 90 #[.string nmS] w' fun e w'' => e = .returned (.agg (cells8 (ixKey (nm nmS))).toArray) ∧ Below w'.heap.size w' w'') := fun w' _ => refkey_any nmS hnm w'
 have hSaid : Hid (∀ w', Calls Tryd.prog 91 #[.agg cs] w' fun e w'' => e = .returned (.agg sp) ∧ Below w'.heap.size w' w'') := fun w' => by rw [← hcs.out, ← hsp.out]; exact refsaid_any nmS f cnt ch hch d hd A n c w'
 have hChk : Hid (∀ w', Below w.heap.size w w' → Calls Tryd.prog 89 #[.int .i64 s, .agg (cells8 root).toArray, .agg (cells8 (ixKey (nm nmS))).toArray, .agg sp] w' fun e w'' => e = .returned (.int .i64 (spCheck s root (ixKey (nm nmS)) f cnt ch d n ds)) ∧ Below w'.heap.size w' w'') := fun w' hb => refcheck_any root (ixKey (nm nmS)) hrt hkl sp f cnt ch d hch hd A n c hSp s hs63 ds w' (hr.below hb)
 rw [hcs.out]
 cases hok : okIx nmS f cnt ch d n with
 | false =>
  rw [shows_no hok]
  have hEnc : Hid (Calls Tryd.prog 88 #[.agg cs] w1 fun e w' => e = .returned (.slice none 0 0) ∧ Below w1.heap.size w1 w') := by
   rw [← hcs.out]
   exact refidx_no nmS f cnt ch hch d hd A n c hok w1
  clear hr hch hd hrt hSp hok hKey hSaid hChk i0 hkl hs63 hnm
  go_enter Tryd.func36, Tryd.ntmps36
  go_upto_region 1 with fail
  change Code.wp _ _ _ _ ((w.alloc (.cells (cells8 root).toArray 23)).alloc (.cells cs 70))
  rw [← hw1.out]
  go_wp2_with (first
   | ((with_reducible change wpList _ _ _ (⟨some 7, _, _, _, _, _⟩ :: _) _ _); refine wpList_load_row (o := ⟨some 7, _, _, _, _, _⟩) rfl 70 (.tmp 5) rfl ((w.heap.size + 1)) rfl 70 (cs) (0, 0) _ hP1.out Tryd.underlying70 rfl hsz.out ?_)
   | (go_at_call 88; refine hEnc.out.mono ?_; rintro e w2 ⟨rfl, hk⟩; have hk2 : Hid (Below w1.heap.size w1 w2) := hk; have hb2 : Hid (Below w.heap.size w w2) := hb1.out.trans (hk.mono hb1.out.size); have X4 := fun ww => Lib.run_eql_slice_nil (P := Tryd.prog) ww 27 5 none 0 0 0 0 Tryd.underlying27; clear hk hEnc))
  go_ret
  exact ⟨rfl, hb2.out⟩
 | true =>
  rw [shows_yes hok]
  obtain ⟨ans, hans⟩ : ∃ x, spCheck s root (ixKey (nm nmS)) f cnt ch d n ds = x := ⟨_, rfl⟩
  rw [hans] at hChk ⊢
  obtain ⟨ky, hky⟩ : ∃ x, ixKey (nm nmS) = x := ⟨_, rfl⟩
  rw [hky] at hChk hKey hkl
  have Fy := Lib.hid (fit (x := ky) hkl)
  have hEnc : Hid (Calls Tryd.prog 88 #[.agg cs] w1 fun e w' => ∃ g k c', e = .returned (.slice (some ⟨g, 0, none⟩) k c') ∧ Below w1.heap.size w1 w') := by
   rw [← hcs.out]
   refine (refidx_yes nmS f cnt ch hch d hd ds A n c hok w1 (hr.below hb1.out)).mono ?_
   rintro e w' ⟨v, rfl, ho, hb⟩
   obtain ⟨g, c', rfl, -, -⟩ := ho.form (by have := idxB_len (s := nmS) (f := f) (cnt := cnt) (ch := ch) (d := d) (ds := ds) hch hd hr.2.1; rw [this]; cases f <;> simp <;> omega)
   exact ⟨g, _, c', rfl, hb⟩
  replace i0 := Lib.hid i0
  clear hr hch hd hrt hSp hok hans hky hkl hs63 hnm
  go_enter Tryd.func36, Tryd.ntmps36
  go_upto_region 1 with fail
  change Code.wp _ _ _ _ ((w.alloc (.cells (cells8 root).toArray 23)).alloc (.cells cs 70))
  rw [← hw1.out]
  go_wp2_with (first
   | ((with_reducible change wpList _ _ _ (⟨some 7, _, _, _, _, _⟩ :: _) _ _); refine wpList_load_row (o := ⟨some 7, _, _, _, _, _⟩) rfl 70 (.tmp 5) rfl ((w.heap.size + 1)) rfl 70 (cs) (0, 0) _ hP1.out Tryd.underlying70 rfl hsz.out ?_)
   | (go_at_call 88; refine hEnc.out.mono ?_; rintro e w2 ⟨g2, k2, c2, rfl, hk⟩; have X4 := fun ww => Lib.run_eql_slice_nil (P := Tryd.prog) ww 27 5 (some ⟨g2, 0, none⟩) k2 c2 0 0 Tryd.underlying27; have hk2 : Hid (Below w1.heap.size w1 w2) := hk; have hb2 : Hid (Below w.heap.size w w2) := hb1.out.trans (hk.mono hb1.out.size); clear hk hEnc))
  have hR2 : Hid (Blk w2 w.heap.size 23 (cells8 root).toArray) := (hk2.out.block _ hR1.out.lt).trans hR1.out
  have hP2 : Hid (Blk w2 (w.heap.size + 1) 70 cs) := (hk2.out.block _ hP1.out.lt).trans hP1.out
  refine q_region (Class w2) (by kernel_rfl) (by kernel_rfl) (Class.mk_ ((Below.refl _ _).drew)) ?_
  refine q_move rfl (.tmp 0) rfl ?_
  (intro K k; go_simp; apply k; clear k K)
  refine q_row rfl 23 (.tmp 4) rfl w.heap.size rfl 23 ((cells8 root).toArray) (0, 0) _ (fun w' hw' => (hw'.below.block _ hR2.out.lt).trans hR2.out) Tryd.underlying23 rfl Fr.out.size ?_
  (intro K k; go_simp; apply k; clear k K)
  refine Want.qv0 (.pointer (some ⟨w.heap.size + 1, 0, none⟩)) ?_
  (intro K k; go_simp; apply k; clear k K)
  refine q_val (v := .string nmS) rfl (fun w' hw' => by have h : w'.cell? ⟨w.heap.size + 1, 0, none⟩ = some (.string nmS) := ((show Blk w' (w.heap.size + 1) 70 cs from (hw'.below.block _ hP2.out.lt).trans hP2.out).cell 0).trans i0.out; go_simp) ?_
  (intro K k; go_simp; apply k; clear k K)
  refine q_fn (v := .agg (cells8 ky).toArray) (args := #[.string nmS]) rfl _ _ rfl rfl Tryd.func90 (by kernel_rfl) (by kernel_rfl) (fun w' hw' => (hKey.out w' (hb2.out.trans (hw'.below.mono hb2.out.size))).mono (fun e w'' ⟨he, hb⟩ => ⟨he, hw'.next hb⟩)) ?_
  (intro K k; go_simp; apply k; clear k K)
  refine q_row rfl 70 (.tmp 5) rfl (w.heap.size + 1) rfl 70 (cs) (0, 0) _ (fun w' hw' => (hw'.below.block _ hP2.out.lt).trans hP2.out) Tryd.underlying70 rfl hsz.out ?_
  (intro K k; go_simp; apply k; clear k K)
  refine q_fn (v := .agg sp) (args := #[.agg cs]) rfl _ _ rfl rfl Tryd.func91 (by kernel_rfl) (by kernel_rfl) (fun w' hw' => (hSaid.out w').mono (fun e w'' ⟨he, hb⟩ => ⟨he, hw'.next hb⟩)) ?_
  (intro K k; go_simp; apply k; clear k K)
  refine q_fn (v := .int .i64 ans) (args := #[.int .i64 s, .agg (cells8 root).toArray, .agg (cells8 ky).toArray, .agg sp]) rfl _ _ rfl rfl Tryd.func89 (by kernel_rfl) (by kernel_rfl) (fun w' hw' => (hChk.out w' (hb2.out.trans (hw'.below.mono hb2.out.size))).mono (fun e w'' ⟨he, hb⟩ => ⟨he, hw'.next hb⟩)) ?_
  (intro K k; go_simp; apply k; clear k K)
  refine Want.qv0 (.int .i64 ans) ?_
  (intro K k; go_simp; apply k; clear k K)
  refine q_nil ?_
  intro w7 hw7
  have h7 : Hid (Below w2.heap.size w2 w7) := hw7.below
  go_wp2_with fail
  go_ret
  exact ⟨rfl, hb2.out.trans (h7.out.mono hb2.out.size)⟩

end Go.Proofs.YtmdkfhfkdcbpgaaDoorR.Shows

namespace Go.Proofs.YtmdkfhfkdcbpgaaDoorR.Shown
open Go Go.RowKit Go.Proofs.YtmdkfhfkdcbpgaaDoorR Mem Sha Bytes HashMem DigestMem TreeMem TreeRoot QuietTail Grown Held Want ProofIdx2 ProofIdx3 StructEq IdxAny RowsY SparseP SpMem Key LeadM SpTop RefClimb Shows

def shV (s : Int) (root : Text) (ix : List Value) : List Value := Value.int .i64 s :: (cells8 root ++ ix)
section
variable {s : Int} {root : Text} {ix : List Value}
theorem shV_0 : (shV s root ix)[0]? = some (.int .i64 s) := rfl
theorem shV_root (j : Nat) (v : Value) (hv : (cells8 root)[j]? = some v) : (shV s root ix)[1 + j]? = some v := by
 rw [Nat.add_comm, shV, List.getElem?_cons_succ, List.getElem?_append_left (List.getElem?_eq_some_iff.1 hv).1]
 exact hv
theorem shV_ix (h : root.length = 32) (j : Nat) (v : Value) (hv : ix[j]? = some v) : (shV s root ix)[33 + j]? = some v := by
 have hl : (cells8 root).length = 32 := by rw [cells8_len, h]
 rw [show 33 + j = (32 + j) + 1 by omega, shV, List.getElem?_cons_succ, List.getElem?_append_right (by omega), hl, Nat.add_sub_cancel_left]
 exact hv
end
def rowsOf (s : Int) (nmS : ByteArray) (f : Bool) (cnt : Int) (ch d : Text) (n : Nat) (ds : List Text) : List Text := if okSp f cnt ch d n = true then climbTs s (ixKey (nm nmS)) f cnt ch d ds else []
theorem rows_len (s : Int) (nmS : ByteArray) (f : Bool) (cnt : Int) (ch d : Text) (n : Nat) (ds : List Text) : (rowsOf s nmS f cnt ch d n ds).length ≤ 257 := by
 unfold rowsOf climbTs
 split
 ·split
  ·exact Nat.zero_le _
  ·rw [lead_len]; exact Nat.le_refl _
 ·exact Nat.zero_le _
theorem rows_small {s : Int} {nmS : ByteArray} {f : Bool} {cnt : Int} {ch d : Text} {n : Nat} {ds : List Text} (hch : ch.length = 32) (hds : Digs ds) (hn : ds.length = n) (hd : d.length = 32) : ∀ q ∈ rowsOf s nmS f cnt ch d n ds, 0 < q.length ∧ q.length < 140737488355328 := by
 intro q hq
 unfold rowsOf climbTs at hq
 split at hq
 ·rename_i hok
  split at hq
  ·cases hq
  ·rename_i l hl
   have h0 := txt0_len (k := ixKey (nm nmS)) (f := f) (cnt := cnt) (ixKey_len _) hch
   have hb : (txt0 (ixKey (nm nmS)) f cnt ch).length ≤ 73 ∧ 0 < (txt0 (ixKey (nm nmS)) f cnt ch).length := by rw [h0]; cases f <;> decide
   have hDl : Digs l := nbrs_digs hds (m := 256) (by rw [nbits_all d hd, SpRows.okSp_ones hok, hn]; exact Nat.le_refl _) (Nat.le_refl _) hl
   have hall : ∀ h, h ≤ 256 → ∀ q ∈ (lead s (ixKey (nm nmS)) (txt0 (ixKey (nm nmS)) f cnt ch) l h).1, 0 < q.length ∧ q.length ≤ 73 := by
    intro h
    induction h with
    | zero =>
     intro _ q hq
     obtain rfl := List.mem_singleton.1 hq
     exact ⟨hb.2, hb.1⟩
    | succ h ih =>
     intro hh q hq
     rcases List.mem_append.1 hq with hq | hq
     ·exact ih (by omega) q hq
     ·obtain rfl := List.mem_singleton.1 hq
      have hll := nbrs_len hl
      obtain ⟨y, hy⟩ : ∃ y, l[h]? = some y := ⟨_, List.getElem?_eq_getElem (by omega)⟩
      have hyl : (l.getD h []).length = 32 := by rw [List.getD_eq_getElem?_getD, hy]; exact hDl.at_ hy
      rw [upT_len (lead_dig _ _ _ _ _) hyl]
      omega
   have := hall 256 (Nat.le_refl _) q hq
   omega
 ·cases hq

theorem _root_.Go.Proofs.YtmdkfhfkdcbpgaaDoorR.Mem.Blk.onR {w w' : World} {g : Nat} {t : TypeId} {cs : Array Value} (h : Blk w g t cs) (hb : Below w.heap.size w w') : Blk w' g t cs := (hb.block g h.lt).trans h
set_option maxRecDepth 100000 in
set_option maxHeartbeats 2000000 in
theorem taken_any (s : Int) (root : Text) (hrt : root.length = 32) (nmS : ByteArray) (hnm : nmS.size < 140737488355327) (f : Bool) (cnt : Int) (ch d : Text) (hch : ch.length = 32) (hd : d.length = 32) (A : Option Addr) (n c : Nat) (ds : List Text) (w : World) (hB : Base w) (hr : RdD w A n ds) :
  Calls Tryd.prog 200 #[.agg (shV s root (idxCells nmS f (entC cnt ch) d A n c)).toArray] w fun e w' => e = .returned (.bool (showsOf s root nmS f cnt ch d n ds == 0)) ∧ Below w.heap.size w w' := by
 obtain ⟨cs, hcs⟩ : ∃ cs, Hid ((shV s root (idxCells nmS f (entC cnt ch) d A n c)).toArray = cs) := ⟨_, Lib.hid rfl⟩
 have hil : (idxCells nmS f (entC cnt ch) d A n c).length = 68 := idx_len (entC_len hch) hd
 obtain ⟨W, hW⟩ : ∃ W, Hid (W = w.alloc (.cells cs 156)) := ⟨_, rfl⟩
 have hb0 : Hid (Below w.heap.size w W) := by show Below _ _ _; rw [hW.out]; exact Below.heap_below w _
 have hP : Hid (Blk W w.heap.size 156 cs) := by show Blk _ _ _ _; rw [hW.out]; exact Blk.new w _ _
 have q0 : Hid (∀ w', Below W.heap.size W w' → w'.cell? ⟨w.heap.size, 0, none⟩ = some (.int .i64 s)) := fun w' h => by rw [(Blk.onR hP.out h).cell 0, ← hcs.out, List.getElem?_toArray]; exact shV_0
 have qx : Hid (∀ w', Below W.heap.size W w' → ∀ j v, (idxCells nmS f (entC cnt ch) d A n c)[j]? = some v → w'.cell? ⟨w.heap.size, 33 + j, none⟩ = some v) := fun w' h j v hv => by rw [(Blk.onR hP.out h).cell (33 + j), ← hcs.out, List.getElem?_toArray]; exact shV_ix hrt j v hv
 have sX : Hid ((Tryd.prog.info? 70).map (·.size) = some (idxCells nmS f (entC cnt ch) d A n c).length) := by show _ = _; rw [hil]; exact sizeIx
 have qr : Hid (∀ j v, (cells8 root)[j]? = some v → W.cell? ⟨w.heap.size, 1 + j, none⟩ = some v) := fun j v hv => by rw [hP.out.cell (1 + j), ← hcs.out, List.getElem?_toArray]; exact shV_root j v hv
 have e0 := q0.out W (Below.refl _ _)
 have qx0 := Lib.hid (qx.out W (Below.refl _ _))
 have sR : Hid ((Tryd.prog.info? 23).map (·.size) = some (cells8 root).length) := by show _ = _; rw [cells8_len, hrt]; exact size31
 have hSh := Lib.hid (fun w' (hb : Below w.heap.size w w') => shows_any root hrt nmS hnm f cnt ch d hch hd A n c s ds w' (hB.below hb hB.1) (hr.below hb))
 obtain ⟨a, ha⟩ : ∃ a, showsOf s root nmS f cnt ch d n ds = a := ⟨_, rfl⟩
 rw [ha] at hSh ⊢
 obtain ⟨bb, hbb⟩ : ∃ b, (a == 0) = b := ⟨_, rfl⟩
 rw [hcs.out, hbb]
 clear hil hrt hnm hch hd hB hr hcs q0 qx hP ha
 go_enter Tryd.func200, Tryd.ntmps200
 go_upto_region 1 with fail
 change Code.wp _ _ _ _ (w.alloc (.cells cs 156))
 rw [← hW.out]
 clear hW
 go_wp2_with (first
  | ((with_reducible change wpList _ _ _ (⟨some 6, _, _, _, _, _⟩ :: _) _ _); refine wpList_load_part (o := ⟨some 6, _, _, _, _, _⟩) rfl 23 (.tmp 5) rfl (w.heap.size) (1) rfl (cells8 root) _ qr.out Tryd.underlying23 rfl sR.out ?_)
  | ((with_reducible change wpList _ _ _ (⟨some 8, _, _, _, _, _⟩ :: _) _ _); refine wpList_load_part (o := ⟨some 8, _, _, _, _, _⟩) rfl 70 (.tmp 7) rfl (w.heap.size) (33) rfl (idxCells nmS f (entC cnt ch) d A n c) _ qx0.out Tryd.underlying70 rfl sX.out ?_))
 refine (hSh.out W hb0.out).mono ?_
 rintro e w1 ⟨rfl, hk1⟩
 have hb1 : Hid (Below w.heap.size w w1) := hb0.out.trans (hk1.mono hb0.out.size)
 clear hk1 hSh e0 qr qx0
 go_wp2_with fail
 go_ret
 exact ⟨rfl, hb1.out⟩

set_option maxRecDepth 100000 in
set_option maxHeartbeats 2000000 in
theorem texts_any (s : Int) (root : Text) (hrt : root.length = 32) (nmS : ByteArray) (hnm : nmS.size < 140737488355327) (f : Bool) (cnt : Int) (ch d : Text) (hch : ch.length = 32) (hd : d.length = 32) (A : Option Addr) (n c : Nat) (ds : List Text) (w : World) (hB : Base w) (hr : RdD w A n ds) (hok : okSp f cnt ch d n = true) (l : List Text) (hnb : nbrs s d ds 256 = some l) :
  Calls Tryd.prog 201 #[.agg (shV s root (idxCells nmS f (entC cnt ch) d A n c)).toArray] w fun e w' => ∃ v xs, e = .returned v ∧ w'.ownsRow w.heap.size 27 1 v (rowsOf s nmS f cnt ch d n ds).length xs ∧ Ty w' xs (rowsOf s nmS f cnt ch d n ds) ∧ Below w.heap.size w w' := by
 obtain ⟨cs, hcs⟩ : ∃ cs, Hid ((shV s root (idxCells nmS f (entC cnt ch) d A n c)).toArray = cs) := ⟨_, Lib.hid rfl⟩
 have hil : (idxCells nmS f (entC cnt ch) d A n c).length = 68 := idx_len (entC_len hch) hd
 obtain ⟨W, hW⟩ : ∃ W, Hid (W = w.alloc (.cells cs 156)) := ⟨_, rfl⟩
 have hb0 : Hid (Below w.heap.size w W) := by show Below _ _ _; rw [hW.out]; exact Below.heap_below w _
 have hP : Hid (Blk W w.heap.size 156 cs) := by show Blk _ _ _ _; rw [hW.out]; exact Blk.new w _ _
 have q0 : Hid (∀ w', Below W.heap.size W w' → w'.cell? ⟨w.heap.size, 0, none⟩ = some (.int .i64 s)) := fun w' h => by rw [(Blk.onR hP.out h).cell 0, ← hcs.out, List.getElem?_toArray]; exact shV_0
 have qx : Hid (∀ w', Below W.heap.size W w' → ∀ j v, (idxCells nmS f (entC cnt ch) d A n c)[j]? = some v → w'.cell? ⟨w.heap.size, 33 + j, none⟩ = some v) := fun w' h j v hv => by rw [(Blk.onR hP.out h).cell (33 + j), ← hcs.out, List.getElem?_toArray]; exact shV_ix hrt j v hv
 have sX : Hid ((Tryd.prog.info? 70).map (·.size) = some (idxCells nmS f (entC cnt ch) d A n c).length) := by show _ = _; rw [hil]; exact sizeIx
 have hro : rowsOf s nmS f cnt ch d n ds = (lead s (ixKey (nm nmS)) (txt0 (ixKey (nm nmS)) f cnt ch) l 256).1 := by unfold rowsOf climbTs; rw [if_pos hok, hnb]
 have hrl : (rowsOf s nmS f cnt ch d n ds).length = 257 := by rw [hro, lead_len]
 obtain ⟨sp, hsp⟩ : ∃ sp : Array Value, Hid ((spCells f (entC cnt ch) d A n c).toArray = sp) := ⟨_, Lib.hid rfl⟩
 have hSp : Sp sp f cnt ch d A n c := by rw [← hsp.out]; exact Sp.of f cnt hch hd A n c
 have hKey : Hid (∀ w', Below w.heap.size w w' → Calls Tryd.prog 86 #[.string nmS] w' fun e w'' => e = .returned (.agg (cells8 (ixKey (nm nmS))).toArray) ∧ Below w'.heap.size w' w'') := fun w' hb => key_any nmS (by omega) w' (hB.below hb hB.1)
 obtain ⟨xc, hxc⟩ : ∃ xc : Array Value, Hid ((idxCells nmS f (entC cnt ch) d A n c).toArray = xc) := ⟨_, Lib.hid rfl⟩
 have hSaid : Hid (∀ w', Calls Tryd.prog 87 #[.agg xc] w' fun e w'' => e = .returned (.agg sp) ∧ Below w'.heap.size w' w'') := fun w' => by rw [← hxc.out, ← hsp.out]; exact said_any nmS f cnt ch hch d hd A n c w'
 have hCl : Hid (∀ w', Below w.heap.size w w' → Calls Tryd.prog 202 #[.int .i64 s, .agg (cells8 (ixKey (nm nmS))).toArray, .agg sp] w' fun e w'' => ∃ v xs, e = .returned (.tuple #[v, .int .i64 0]) ∧ w''.ownsRow w'.heap.size 27 1 v 257 xs ∧ Ty w'' xs (lead s (ixKey (nm nmS)) (txt0 (ixKey (nm nmS)) f cnt ch) l 256).1 ∧ Below w'.heap.size w' w'') := fun w' hb => climb_sp (ixKey (nm nmS)) (ixKey_len _) sp f cnt ch d hch hd A n c hSp s ds w' (hB.below hb hB.1) (hr.below hb) hok l hnb
 have q33 : Hid (∀ w', Below W.heap.size W w' → w'.cell? ⟨w.heap.size, 33, none⟩ = some (.string nmS)) := fun w' h => qx.out w' h 0 _ idx_name
 rw [hro] at hrl ⊢
 obtain ⟨ts, hts⟩ : ∃ ts, (lead s (ixKey (nm nmS)) (txt0 (ixKey (nm nmS)) f cnt ch) l 256).1 = ts := ⟨_, rfl⟩
 rw [hts] at hrl hCl ⊢
 obtain ⟨ky, hky⟩ : ∃ x, ixKey (nm nmS) = x := ⟨_, rfl⟩
 rw [hky] at hCl hKey
 rw [hcs.out, hrl]
 clear hil hrt hnm hch hd hB hr hcs hP hro hrl hts hky hSp hok hnb
 go_enter Tryd.func201, Tryd.ntmps201
 go_upto_region 1 with fail
 change Code.wp _ _ _ _ (w.alloc (.cells cs 156))
 rw [← hW.out]
 clear hW
 have s0 : Hid (Below W.heap.size W W.drew) := (Below.refl _ _).drew
 refine held_start (fun w' => Below W.heap.size W w') 15 rfl (by kernel_rfl) ?_
 refine Held.tk0 (i := 0) (v := .pointer (some ⟨w.heap.size, 0, none⟩)) rfl s0.out (fun w' hw' => by go_simp) ?_
 (intro K k; go_simp; apply k; clear k K)
 refine Held.tk0 (i := 1) (v := .int .i64 s) rfl s0.out (fun w' hw' => by have h := q0.out w' hw'; go_simp) ?_
 (intro K k; go_simp; apply k; clear k K)
 refine Held.tk0 (i := 2) (v := .pointer (some ⟨w.heap.size, 33, none⟩)) rfl s0.out (fun w' hw' => by go_simp) ?_
 (intro K k; go_simp; apply k; clear k K)
 refine Held.tk0 (i := 3) (v := .pointer (some ⟨w.heap.size, 33, none⟩)) rfl s0.out (fun w' hw' => by go_simp) ?_
 (intro K k; go_simp; apply k; clear k K)
 refine Held.tk0 (i := 4) (v := .string nmS) rfl s0.out (fun w' hw' => by have h := q33.out w' hw'; go_simp) ?_
 (intro K k; go_simp; apply k; clear k K)
 refine Held.tk0 (i := 6) (v := .pointer (some ⟨w.heap.size, 33, none⟩)) rfl s0.out (fun w' hw' => by go_simp) ?_
 (intro K k; go_simp; apply k; clear k K)
 refine Held.tk0 (i := 7) (v := .agg (idxCells nmS f (entC cnt ch) d A n c).toArray) rfl s0.out (fun w' hw' => exec_part 70 (.tmp 12) rfl (w.heap.size) (33) rfl (idxCells nmS f (entC cnt ch) d A n c) _ (qx.out w' hw') Tryd.underlying70 rfl sX.out) ?_
 (intro K k; go_simp; apply k; clear k K)
 rw [hxc.out]
 refine held_only (i := 5) rfl (by kernel_rfl) (by rfl) (fun K hK => ?_)
 refine wp_fn (R := fun v w'' => v = .agg (cells8 ky).toArray ∧ Below W.heap.size W w'') (args := #[.string nmS]) _ _ rfl rfl Tryd.func86 (by kernel_rfl) (by kernel_rfl) ((hKey.out _ (hb0.out.trans (s0.out.mono hb0.out.size))).mono fun e w'' ⟨he, hb⟩ => ⟨_, he, rfl, s0.out.trans hb⟩) ?_
 rintro v1 w1 ⟨rfl, h1⟩
 replace h1 := Lib.hid h1
 go_simp
 refine hK _ _ h1.out ?_
 clear hK K
 refine held_only (i := 8) rfl (by kernel_rfl) (by rfl) (fun K hK => ?_)
 refine wp_fn (R := fun v w'' => v = .agg sp ∧ Below W.heap.size W w'') (args := #[.agg xc]) _ _ rfl rfl Tryd.func87 (by kernel_rfl) (by kernel_rfl) ((hSaid.out _).mono fun e w'' ⟨he, hb⟩ => ⟨_, he, rfl, h1.out.trans (hb.mono h1.out.size)⟩) ?_
 rintro v2 w2 ⟨rfl, h2⟩
 replace h2 := Lib.hid h2
 go_simp
 refine hK _ _ h2.out ?_
 clear hK K
 refine held_only (i := 9) rfl (by kernel_rfl) (by rfl) (fun K hK => ?_)
 refine wp_fn (R := fun v w'' => ∃ v1 xs, v = .tuple #[v1, .int .i64 0] ∧ w''.ownsRow w2.heap.size 27 1 v1 257 xs ∧ Ty w'' xs ts ∧ Below W.heap.size W w'') (args := #[.int .i64 s, .agg (cells8 ky).toArray, .agg sp]) _ _ rfl rfl Tryd.func202 (by kernel_rfl) (by kernel_rfl) ((hCl.out _ (hb0.out.trans (h2.out.mono hb0.out.size))).mono fun e w'' ⟨v1, xs, he, ho, hy, hb⟩ => ⟨_, he, v1, xs, rfl, ho, hy, h2.out.trans (hb.mono h2.out.size)⟩) ?_
 rintro vv w3 ⟨v3, xs3, rfl, ho3, hy3, h3⟩
 obtain ⟨A3, c3, rfl, -⟩ := Append.Own.reads ho3
 replace ho3 := Lib.hid ho3
 replace hy3 := Lib.hid hy3
 replace h3 := Lib.hid h3
 go_simp
 refine hK _ _ h3.out ?_
 clear hK K
 refine Held.tk0 (i := 10) (v := .tuple #[.slice A3 257 c3, .int .i64 0]) rfl h3.out (fun w' hw' => run_mv (.tmp 15) rfl w') ?_
 (intro K k; go_simp; apply k; clear k K)
 refine Held.tk0 (i := 11) (v := .slice A3 257 c3) rfl h3.out (fun w' hw' => by go_simp) ?_
 (intro K k; go_simp; apply k; clear k K)
 refine Held.tk0 (i := 12) (v := .int .i64 0) rfl h3.out (fun w' hw' => by go_simp) ?_
 (intro K k; go_simp; apply k; clear k K)
 refine Held.tk0 (i := 13) (v := .slice A3 257 c3) rfl h3.out (fun w' hw' => by first | go_simp | rfl) ?_
 (intro K k; go_simp; apply k; clear k K)
 refine Held.tk0 (i := 14) (v := .int .i64 0) rfl h3.out (fun w' hw' => by first | go_simp | rfl) ?_
 (intro K k; go_simp; apply k; clear k K)
 refine held_end (by kernel_rfl) ?_
 go_wp2_with fail
 go_ret
 exact ⟨_, xs3, rfl, own_low ho3.out (hb0.out.trans (h2.out.mono hb0.out.size)).size, hy3.out, hb0.out.trans (h3.out.mono hb0.out.size)⟩

def RowsP (w : World) (B : Nat) (A : Option Addr) (tn c : Nat) (ts : List Text) : Prop :=
 ∃ xs, ts.length = tn ∧ w.ownsRow B 27 1 (.slice A tn c) tn xs ∧ Ty w xs ts ∧ (∀ q ∈ ts, ∃ b, q[0]? = some b ∧ b ≠ 0) ∧ (tn = 0 → A = none)
theorem RowsP.below {w w' : World} {B tn c : Nat} {A : Option Addr} {ts : List Text} (h : RowsP w B A tn c ts) (hb : Below w.heap.size w w') : RowsP w' B A tn c ts := by
 obtain ⟨xs, h1, h2, h3, h4, h5⟩ := h
 exact ⟨xs, h1, TreeRefRoot.own_below h2 hb, h3.below hb, h4, h5⟩
theorem z32_cells : ∀ (j : Nat) (v : Value), (Z32 : Array Value)[j]? = some v → v = .int .u8 0 := by
 intro j v hv
 have := Array.mem_of_getElem? hv
 simp [Z32] at this
 exact this
theorem RowsP.keptN {w w' : World} {B tn c m : Nat} {A : Option Addr} {ts : List Text} (h : RowsP w B A tn c ts) (hB : Blk w m 23 Z32) (hk : Kept (· = m) w w') : RowsP w' B A tn c ts := by
 obtain ⟨xs, h1, h2, h3, h4, h5⟩ := h
 refine ⟨xs, h1, RefIncl0.own_kept h2 hk (fun k e hkm => ?_), fun i q hq => ?_, h4, h5⟩
 ·have hkm : k = m := hkm
  subst hkm
  rcases Nat.eq_zero_or_pos tn with h0 | h0
  ·rw [h5 h0] at e; cases e
  ·obtain ⟨g, cap, e1, -, -⟩ := h2.form h0
   injection e1 with e1 _ e3
   subst e1 e3
   obtain rfl : g = k := Option.some.inj (show some g = some k from e)
   obtain ⟨q, hq⟩ : ∃ q, ts[0]? = some q := ⟨_, List.getElem?_eq_getElem (by omega)⟩
   obtain ⟨-, g2, c2, a1, -⟩ := h3 0 q hq
   have h6 := h2.cellAt 0 (by omega)
   rw [a1, hB.cell] at h6
   cases z32_cells _ _ h6
 ·obtain ⟨hl, g, cq, a1, a2, a3⟩ := h3 i q hq
  refine ⟨hl, g, cq, a1, a2, a3.kept hk (fun b o e hbm => ?_)⟩
  have hbm : b = m := hbm
  subst hbm
  injection e with e
  injection e with e1 e2
  subst e1 e2
  obtain ⟨b0, hb0, hne⟩ := h4 q (List.mem_of_getElem? hq)
  obtain ⟨b', o', e', -, hc⟩ := a3.at_ (by omega)
  injection e' with e'
  injection e' with e1 e2
  subst e1 e2
  have h6 := hc 0 (cell8 b0) (by unfold cells8; rw [List.getElem?_map, hb0]; rfl)
  rw [hB.cell] at h6
  have h7 := z32_cells _ _ h6
  unfold cell8 at h7
  injection h7 with _ h7
  exact hne ((RefClimbM.b8_zero b0).1 h7)
theorem rows_first {s : Int} {nmS : ByteArray} {f : Bool} {cnt : Int} {ch d : Text} {n : Nat} {ds : List Text} : ∀ q ∈ rowsOf s nmS f cnt ch d n ds, ∃ b, q[0]? = some b ∧ b ≠ 0 := by
 intro q hq
 unfold rowsOf climbTs at hq
 split at hq
 ·split at hq
  ·cases hq
  ·rename_i l hl
   have hall : ∀ h, ∀ q ∈ (lead s (ixKey (nm nmS)) (txt0 (ixKey (nm nmS)) f cnt ch) l h).1, ∃ b, q[0]? = some b ∧ b ≠ 0 := by
    intro h
    induction h with
    | zero =>
     intro q hq
     obtain rfl := List.mem_singleton.1 hq
     unfold txt0
     cases f
     ·exact ⟨_, rfl, by decide⟩
     ·exact ⟨_, rfl, by decide⟩
    | succ h ih =>
     intro q hq
     rcases List.mem_append.1 hq with hq | hq
     ·exact ih q hq
     ·obtain rfl := List.mem_singleton.1 hq
      exact ⟨_, rfl, by decide⟩
   exact hall 256 q hq
 ·cases hq
set_option maxRecDepth 100000 in
set_option maxHeartbeats 2000000 in
theorem refrows_any (s : Int) (hs63 : s < 9223372036854775808) (nmS : ByteArray) (hnm : nmS.size < 140737488355327) (f : Bool) (cnt : Int) (ch d : Text) (hch : ch.length = 32) (hd : d.length = 32) (A : Option Addr) (n c : Nat) (ds : List Text) (w : World) (hr : RdD w A n ds) :
  Calls Tryd.prog 45 #[.int .i64 s, .agg (idxCells nmS f (entC cnt ch) d A n c).toArray] w fun e w' => ∃ v xs, e = .returned v ∧ w'.ownsRow w.heap.size 27 1 v (rowsOf s nmS f cnt ch d n ds).length xs ∧ Ty w' xs (rowsOf s nmS f cnt ch d n ds) ∧ Below w.heap.size w w' ∧ ((rowsOf s nmS f cnt ch d n ds).length = 0 → v = .slice none 0 0) := by
 obtain ⟨cs, hcs⟩ : ∃ cs : Array Value, Hid ((idxCells nmS f (entC cnt ch) d A n c).toArray = cs) := ⟨_, Lib.hid rfl⟩
 have i0 : cs[0]? = some (.string nmS) := by rw [← hcs.out, List.getElem?_toArray]; exact idx_name
 have hsz : Hid ((Tryd.prog.info? 70).map (·.size) = some cs.size) := by show _ = _; rw [← hcs.out, List.size_toArray, idx_len (entC_len hch) hd]; exact sizeIx
 obtain ⟨sp, hsp⟩ : ∃ sp : Array Value, Hid ((spCells f (entC cnt ch) d A n c).toArray = sp) := ⟨_, Lib.hid rfl⟩
 have hSp : Sp sp f cnt ch d A n c := by rw [← hsp.out]; exact Sp.of f cnt hch hd A n c
 obtain ⟨W, hW⟩ : ∃ W, Hid (W = w.alloc (.cells cs 70)) := ⟨_, rfl⟩
 have hb0 : Hid (Below w.heap.size w W) := by show Below _ _ _; rw [hW.out]; exact Below.heap_below w _
 have hP : Hid (Blk W w.heap.size 70 cs) := by show Blk _ _ _ _; rw [hW.out]; exact Blk.new w _ _
 have q33 : Hid (∀ w', Below W.heap.size W w' → w'.cell? ⟨w.heap.size, 0, none⟩ = some (.string nmS)) := fun w' h => ((Blk.onR hP.out h).cell 0).trans i0
 have hKey : Hid (∀ w', Calls Tryd.prog 90 #[.string nmS] w' fun e w'' => e = .returned (.agg (cells8 (ixKey (nm nmS))).toArray) ∧ Below w'.heap.size w' w'') := fun w' => refkey_any nmS hnm w'
 have hSaid : Hid (∀ w', Calls Tryd.prog 91 #[.agg cs] w' fun e w'' => e = .returned (.agg sp) ∧ Below w'.heap.size w' w'') := fun w' => by rw [← hcs.out, ← hsp.out]; exact refsaid_any nmS f cnt ch hch d hd A n c w'
 have hfst := rows_first (s := s) (nmS := nmS) (f := f) (cnt := cnt) (ch := ch) (d := d) (n := n) (ds := ds)
 have hCl : Hid (∀ w', Below w.heap.size w w' → W.heap.size ≤ w'.heap.size → Calls Tryd.prog 102 #[.int .i64 s, .agg (cells8 (ixKey (nm nmS))).toArray, .agg sp] w' fun e w'' => ∃ (dg : Text) (err : Int) (A3 : Option Addr) (c3 : Nat), dg.length = 32 ∧ e = .returned (.tuple #[.slice A3 (rowsOf s nmS f cnt ch d n ds).length c3, .agg (cells8 dg).toArray, .int .i64 err]) ∧ RowsP w'' W.heap.size A3 (rowsOf s nmS f cnt ch d n ds).length c3 (rowsOf s nmS f cnt ch d n ds) ∧ Below w'.heap.size w' w'') := fun w' hb hle => by
  refine (refclimb_any (ixKey (nm nmS)) (ixKey_len _) sp f cnt ch d hch hd A n c hSp s hs63 ds w' (hr.below hb)).mono ?_
  rintro e w'' ⟨hk, ⟨hok, rfl⟩ | ⟨hok, hnb, rfl⟩ | ⟨hok, l, v, xs, hnb, rfl, ho, hy⟩⟩
  ·have e1 : rowsOf s nmS f cnt ch d n ds = [] := by unfold rowsOf; rw [if_neg (by rw [hok]; decide)]
   rw [e1]
   exact ⟨List.replicate 32 0, 8, none, 0, by simp, rfl, ⟨[], rfl, World.ownsRow_nil _ _ _ _, Ty.nil_ _, (fun q h => by cases h), fun _ => rfl⟩, hk⟩
  ·have e1 : rowsOf s nmS f cnt ch d n ds = [] := by unfold rowsOf climbTs; rw [if_pos hok, hnb]
   rw [e1]
   exact ⟨List.replicate 32 0, 170, none, 0, by simp, rfl, ⟨[], rfl, World.ownsRow_nil _ _ _ _, Ty.nil_ _, (fun q h => by cases h), fun _ => rfl⟩, hk⟩
  ·have e1 : rowsOf s nmS f cnt ch d n ds = (lead s (ixKey (nm nmS)) (txt0 (ixKey (nm nmS)) f cnt ch) l 256).1 := by unfold rowsOf climbTs; rw [if_pos hok, hnb]
   rw [e1] at hfst
   obtain ⟨A3, c3, rfl, -⟩ := Append.Own.reads ho
   rw [e1, lead_len]
   exact ⟨_, 0, A3, c3, lead_dig _ _ _ _ 256, rfl, ⟨xs, lead_len _ _ _ _ 256, own_low ho hle, hy, hfst, fun h => by omega⟩, hk⟩
 obtain ⟨ts, hts⟩ : ∃ ts, rowsOf s nmS f cnt ch d n ds = ts := ⟨_, rfl⟩
 obtain ⟨tn, htn⟩ : ∃ tn, ts.length = tn := ⟨_, rfl⟩
 obtain ⟨ky, hky⟩ : ∃ x, ixKey (nm nmS) = x := ⟨_, rfl⟩
 rw [hky, hts] at hCl
 rw [hky] at hKey
 rw [hcs.out, hts, htn]
 rw [htn] at hCl
 clear hnm hch hd hr hcs hts htn hky hSp i0 hs63 hfst
 go_enter Tryd.func45, Tryd.ntmps45
 go_upto_region 1 with fail
 change Code.wp _ _ _ _ (w.alloc (.cells cs 70))
 rw [← hW.out]
 clear hW
 go_cut [5] from 6 to 18 (fun v wr => ∃ (A3 : Option Addr) (c3 : Nat), v = .slice A3 tn c3 ∧ Hid (RowsP wr W.heap.size A3 tn c3 ts) ∧ Hid (Below W.heap.size W wr))
 case first =>
  have s0 : Hid (Below W.heap.size W W.drew) := (Below.refl _ _).drew
  refine held_start (fun w' => Below W.heap.size W w') 15 rfl (by kernel_rfl) ?_
  refine Held.tk0 (i := 0) (v := .int .i64 s) rfl s0.out (fun w' hw' => run_mv (.tmp 0) rfl w') ?_
  (intro K k; go_simp; apply k; clear k K)
  refine Held.tk0 (i := 1) (v := .pointer (some ⟨w.heap.size, 0, none⟩)) rfl s0.out (fun w' hw' => by go_simp) ?_
  (intro K k; go_simp; apply k; clear k K)
  refine Held.tk0 (i := 2) (v := .string nmS) rfl s0.out (fun w' hw' => by have h := q33.out w' hw'; go_simp) ?_
  (intro K k; go_simp; apply k; clear k K)
  refine Held.tk0 (i := 4) (v := .agg (cs)) rfl s0.out (fun w' hw' => exec_row 70 (.tmp 3) rfl (w.heap.size) rfl 70 (cs) (0, 0) _ ((hw'.block _ hP.out.lt).trans hP.out) Tryd.underlying70 rfl hsz.out) ?_
  (intro K k; go_simp; apply k; clear k K)
  refine held_two (i := 3) (j := 11) rfl rfl (by kernel_rfl) (by rfl) (by rfl) (fun K hK => ?_) (fun K hK => ?_)
  ·refine wp_fn (R := fun v w'' => v = .agg (cells8 ky).toArray ∧ Below W.heap.size W w'' ∧ Below (W.drew).heap.size (W.drew) w'') (args := #[.string nmS]) _ _ rfl rfl Tryd.func90 (by kernel_rfl) (by kernel_rfl) (((hKey.out (W.drew))).mono fun e w'' ⟨he, hb⟩ => ⟨_, he, rfl, s0.out.trans (hb.mono s0.out.size), hb⟩) ?_
   rintro qq w5 ⟨rfl, h5, kk1⟩
   replace h5 := Lib.hid h5
   replace kk1 := Lib.hid kk1
   clear kk1
   go_simp
   refine hK _ _ h5.out ?_
   clear hK K
   refine held_two (i := 5) (j := 11) rfl rfl (by kernel_rfl) (by rfl) (by rfl) (fun K hK => ?_) (fun K hK => ?_)
   ·refine wp_fn (R := fun v w'' => v = .agg sp ∧ Below W.heap.size W w'' ∧ Below (w5).heap.size (w5) w'') (args := #[.agg cs]) _ _ rfl rfl Tryd.func91 (by kernel_rfl) (by kernel_rfl) (((hSaid.out (w5))).mono fun e w'' ⟨he, hb⟩ => ⟨_, he, rfl, h5.out.trans (hb.mono h5.out.size), hb⟩) ?_
    rintro qq w6 ⟨rfl, h6, kk1⟩
    replace h6 := Lib.hid h6
    replace kk1 := Lib.hid kk1
    clear kk1
    go_simp
    refine hK _ _ h6.out ?_
    clear hK K
    refine held_two (i := 6) (j := 11) rfl rfl (by kernel_rfl) (by rfl) (by rfl) (fun K hK => ?_) (fun K hK => ?_)
    ·refine wp_fn (R := fun v w'' => ∃ (dg : Text) (err : Int) (A3 : Option Addr) (c3 : Nat), dg.length = 32 ∧ v = .tuple #[.slice A3 tn c3, .agg (cells8 dg).toArray, .int .i64 err] ∧ RowsP w'' W.heap.size A3 tn c3 ts ∧ Below W.heap.size W w'' ∧ Below (w6).heap.size (w6) w'') (args := #[.int .i64 s, .agg (cells8 ky).toArray, .agg sp]) _ _ rfl rfl Tryd.func102 (by kernel_rfl) (by kernel_rfl) (((hCl.out (w6) (hb0.out.trans (h6.out.mono hb0.out.size)) h6.out.size)).mono fun e w'' ⟨dg, err, A3, c3, hdl, he, hT, hb⟩ => ⟨_, he, dg, err, A3, c3, hdl, rfl, hT, h6.out.trans (hb.mono h6.out.size), hb⟩) ?_
     rintro qq w7 ⟨dg, err, A3, c3, hdl, rfl, hT, h7, kk1⟩
     replace h7 := Lib.hid h7
     replace kk1 := Lib.hid kk1
     have Fd := Lib.hid (fit (x := dg) hdl)
     replace hT := Lib.hid hT
     clear hdl
     clear kk1
     go_simp
     refine hK _ _ h7.out ?_
     clear hK K
     refine Held.tk0 (i := 7) (v := .tuple #[.slice A3 tn c3, .agg (cells8 dg).toArray, .int .i64 err]) rfl h7.out (fun w' hw' => run_mv (.tmp 15) rfl w') ?_
     (intro K k; go_simp; apply k; clear k K)
     refine Held.tk0 (i := 8) (v := .slice A3 tn c3) rfl h7.out (fun w' hw' => by go_simp) ?_
     (intro K k; go_simp; apply k; clear k K)
     refine Held.tk0 (i := 9) (v := .agg (cells8 dg).toArray) rfl h7.out (fun w' hw' => by go_simp) ?_
     (intro K k; go_simp; apply k; clear k K)
     refine Held.tk0 (i := 10) (v := .int .i64 err) rfl h7.out (fun w' hw' => by go_simp) ?_
     (intro K k; go_simp; apply k; clear k K)
     refine held_only (i := 11) rfl (by kernel_rfl) (by rfl) (fun K hK => ?_)
     have h8 := Lib.hid (h7.out.alloc h7.out.size (.cells Z32 23))
     have bb : Hid (Blk (w7.alloc (.cells Z32 23)) w7.heap.size 23 Z32) := Blk.new _ _ _
     replace hT := Lib.hid (hT.out.below (Below.heap_below _ (.cells Z32 23)))
     go_simp
     refine hK _ _ h8.out ?_
     clear hK K
     refine Held.tk0 (i := 12) (v := .slice A3 tn c3) rfl h8.out (fun w' hw' => by first | go_simp | rfl) ?_
     (intro K k; go_simp; apply k; clear k K)
     refine held_only (i := 13) rfl (by kernel_rfl) (by rfl) (fun K hK => ?_)
     refine wp_store_whole 23 (.tmp 6) (.tmp 17) rfl (w7.heap.size) ((cells8 dg).toArray) rfl rfl 23 (Z32) (bb.out) Fd.out.size Fd.out.zero Fd.out.one ?_
     intro w99 B9 k9
     have b9 : Hid (Below W.heap.size W w99) := h8.out.trans (Kept.below_of k9 (h7.out.size) h8.out.size)
     replace hT := Lib.hid (hT.out.keptN bb.out k9)
     go_simp
     refine hK _ _ b9.out ?_
     clear hK K
     refine Held.tk0 (i := 14) (v := .int .i64 err) rfl b9.out (fun w' hw' => by first | go_simp | rfl) ?_
     (intro K k; go_simp; apply k; clear k K)
     refine held_end (by kernel_rfl) ?_
     go_wp2_with fail
     go_meet
     case rel => exact ⟨A3, c3, rfl, hT.out, b9.out⟩
    ·have h7 := Lib.hid (h6.out.alloc h6.out.size (.cells Z32 23))
     have bb : Hid (Blk (w6.alloc (.cells Z32 23)) w6.heap.size 23 Z32) := Blk.new _ _ _
     go_simp
     refine hK _ _ h7.out ?_
     clear hK K
     refine held_only (i := 6) rfl (by kernel_rfl) (by rfl) (fun K hK => ?_)
     refine wp_fn (R := fun v w'' => ∃ (dg : Text) (err : Int) (A3 : Option Addr) (c3 : Nat), dg.length = 32 ∧ v = .tuple #[.slice A3 tn c3, .agg (cells8 dg).toArray, .int .i64 err] ∧ RowsP w'' W.heap.size A3 tn c3 ts ∧ Below W.heap.size W w'' ∧ Below ((w6.alloc (.cells Z32 23))).heap.size ((w6.alloc (.cells Z32 23))) w'') (args := #[.int .i64 s, .agg (cells8 ky).toArray, .agg sp]) _ _ rfl rfl Tryd.func102 (by kernel_rfl) (by kernel_rfl) (((hCl.out ((w6.alloc (.cells Z32 23))) (hb0.out.trans (h7.out.mono hb0.out.size)) h7.out.size)).mono fun e w'' ⟨dg, err, A3, c3, hdl, he, hT, hb⟩ => ⟨_, he, dg, err, A3, c3, hdl, rfl, hT, h7.out.trans (hb.mono h7.out.size), hb⟩) ?_
     rintro qq w8 ⟨dg, err, A3, c3, hdl, rfl, hT, h8, kk1⟩
     replace h8 := Lib.hid h8
     replace kk1 := Lib.hid kk1
     have Fd := Lib.hid (fit (x := dg) hdl)
     replace hT := Lib.hid hT
     clear hdl
     replace bb := Lib.hid ((kk1.out.block _ (Blk.lt bb.out)).trans bb.out)
     clear kk1
     go_simp
     refine hK _ _ h8.out ?_
     clear hK K
     refine Held.tk0 (i := 7) (v := .tuple #[.slice A3 tn c3, .agg (cells8 dg).toArray, .int .i64 err]) rfl h8.out (fun w' hw' => run_mv (.tmp 15) rfl w') ?_
     (intro K k; go_simp; apply k; clear k K)
     refine Held.tk0 (i := 8) (v := .slice A3 tn c3) rfl h8.out (fun w' hw' => by go_simp) ?_
     (intro K k; go_simp; apply k; clear k K)
     refine Held.tk0 (i := 9) (v := .agg (cells8 dg).toArray) rfl h8.out (fun w' hw' => by go_simp) ?_
     (intro K k; go_simp; apply k; clear k K)
     refine Held.tk0 (i := 10) (v := .int .i64 err) rfl h8.out (fun w' hw' => by go_simp) ?_
     (intro K k; go_simp; apply k; clear k K)
     refine Held.tk0 (i := 12) (v := .slice A3 tn c3) rfl h8.out (fun w' hw' => by first | go_simp | rfl) ?_
     (intro K k; go_simp; apply k; clear k K)
     refine held_only (i := 13) rfl (by kernel_rfl) (by rfl) (fun K hK => ?_)
     refine wp_store_whole 23 (.tmp 6) (.tmp 17) rfl (w6.heap.size) ((cells8 dg).toArray) rfl rfl 23 (Z32) (bb.out) Fd.out.size Fd.out.zero Fd.out.one ?_
     intro w99 B9 k9
     have b9 : Hid (Below W.heap.size W w99) := h8.out.trans (Kept.below_of k9 (h6.out.size) h8.out.size)
     replace hT := Lib.hid (hT.out.keptN bb.out k9)
     go_simp
     refine hK _ _ b9.out ?_
     clear hK K
     refine Held.tk0 (i := 14) (v := .int .i64 err) rfl b9.out (fun w' hw' => by first | go_simp | rfl) ?_
     (intro K k; go_simp; apply k; clear k K)
     refine held_end (by kernel_rfl) ?_
     go_wp2_with fail
     go_meet
     case rel => exact ⟨A3, c3, rfl, hT.out, b9.out⟩
   ·have h6 := Lib.hid (h5.out.alloc h5.out.size (.cells Z32 23))
    have bb : Hid (Blk (w5.alloc (.cells Z32 23)) w5.heap.size 23 Z32) := Blk.new _ _ _
    go_simp
    refine hK _ _ h6.out ?_
    clear hK K
    refine held_only (i := 5) rfl (by kernel_rfl) (by rfl) (fun K hK => ?_)
    refine wp_fn (R := fun v w'' => v = .agg sp ∧ Below W.heap.size W w'' ∧ Below ((w5.alloc (.cells Z32 23))).heap.size ((w5.alloc (.cells Z32 23))) w'') (args := #[.agg cs]) _ _ rfl rfl Tryd.func91 (by kernel_rfl) (by kernel_rfl) (((hSaid.out ((w5.alloc (.cells Z32 23))))).mono fun e w'' ⟨he, hb⟩ => ⟨_, he, rfl, h6.out.trans (hb.mono h6.out.size), hb⟩) ?_
    rintro qq w7 ⟨rfl, h7, kk1⟩
    replace h7 := Lib.hid h7
    replace kk1 := Lib.hid kk1
    replace bb := Lib.hid ((kk1.out.block _ (Blk.lt bb.out)).trans bb.out)
    clear kk1
    go_simp
    refine hK _ _ h7.out ?_
    clear hK K
    refine held_only (i := 6) rfl (by kernel_rfl) (by rfl) (fun K hK => ?_)
    refine wp_fn (R := fun v w'' => ∃ (dg : Text) (err : Int) (A3 : Option Addr) (c3 : Nat), dg.length = 32 ∧ v = .tuple #[.slice A3 tn c3, .agg (cells8 dg).toArray, .int .i64 err] ∧ RowsP w'' W.heap.size A3 tn c3 ts ∧ Below W.heap.size W w'' ∧ Below (w7).heap.size (w7) w'') (args := #[.int .i64 s, .agg (cells8 ky).toArray, .agg sp]) _ _ rfl rfl Tryd.func102 (by kernel_rfl) (by kernel_rfl) (((hCl.out (w7) (hb0.out.trans (h7.out.mono hb0.out.size)) h7.out.size)).mono fun e w'' ⟨dg, err, A3, c3, hdl, he, hT, hb⟩ => ⟨_, he, dg, err, A3, c3, hdl, rfl, hT, h7.out.trans (hb.mono h7.out.size), hb⟩) ?_
    rintro qq w8 ⟨dg, err, A3, c3, hdl, rfl, hT, h8, kk1⟩
    replace h8 := Lib.hid h8
    replace kk1 := Lib.hid kk1
    have Fd := Lib.hid (fit (x := dg) hdl)
    replace hT := Lib.hid hT
    clear hdl
    replace bb := Lib.hid ((kk1.out.block _ (Blk.lt bb.out)).trans bb.out)
    clear kk1
    go_simp
    refine hK _ _ h8.out ?_
    clear hK K
    refine Held.tk0 (i := 7) (v := .tuple #[.slice A3 tn c3, .agg (cells8 dg).toArray, .int .i64 err]) rfl h8.out (fun w' hw' => run_mv (.tmp 15) rfl w') ?_
    (intro K k; go_simp; apply k; clear k K)
    refine Held.tk0 (i := 8) (v := .slice A3 tn c3) rfl h8.out (fun w' hw' => by go_simp) ?_
    (intro K k; go_simp; apply k; clear k K)
    refine Held.tk0 (i := 9) (v := .agg (cells8 dg).toArray) rfl h8.out (fun w' hw' => by go_simp) ?_
    (intro K k; go_simp; apply k; clear k K)
    refine Held.tk0 (i := 10) (v := .int .i64 err) rfl h8.out (fun w' hw' => by go_simp) ?_
    (intro K k; go_simp; apply k; clear k K)
    refine Held.tk0 (i := 12) (v := .slice A3 tn c3) rfl h8.out (fun w' hw' => by first | go_simp | rfl) ?_
    (intro K k; go_simp; apply k; clear k K)
    refine held_only (i := 13) rfl (by kernel_rfl) (by rfl) (fun K hK => ?_)
    refine wp_store_whole 23 (.tmp 6) (.tmp 17) rfl (w5.heap.size) ((cells8 dg).toArray) rfl rfl 23 (Z32) (bb.out) Fd.out.size Fd.out.zero Fd.out.one ?_
    intro w99 B9 k9
    have b9 : Hid (Below W.heap.size W w99) := h8.out.trans (Kept.below_of k9 (h5.out.size) h8.out.size)
    replace hT := Lib.hid (hT.out.keptN bb.out k9)
    go_simp
    refine hK _ _ b9.out ?_
    clear hK K
    refine Held.tk0 (i := 14) (v := .int .i64 err) rfl b9.out (fun w' hw' => by first | go_simp | rfl) ?_
    (intro K k; go_simp; apply k; clear k K)
    refine held_end (by kernel_rfl) ?_
    go_wp2_with fail
    go_meet
    case rel => exact ⟨A3, c3, rfl, hT.out, b9.out⟩
  ·have h5 := Lib.hid (s0.out.alloc s0.out.size (.cells Z32 23))
   have bb : Hid (Blk (W.drew.alloc (.cells Z32 23)) W.heap.size 23 Z32) := Blk.new _ _ _
   go_simp
   refine hK _ _ h5.out ?_
   clear hK K
   refine held_only (i := 3) rfl (by kernel_rfl) (by rfl) (fun K hK => ?_)
   refine wp_fn (R := fun v w'' => v = .agg (cells8 ky).toArray ∧ Below W.heap.size W w'' ∧ Below ((W.drew.alloc (.cells Z32 23))).heap.size ((W.drew.alloc (.cells Z32 23))) w'') (args := #[.string nmS]) _ _ rfl rfl Tryd.func90 (by kernel_rfl) (by kernel_rfl) (((hKey.out ((W.drew.alloc (.cells Z32 23))))).mono fun e w'' ⟨he, hb⟩ => ⟨_, he, rfl, h5.out.trans (hb.mono h5.out.size), hb⟩) ?_
   rintro qq w6 ⟨rfl, h6, kk1⟩
   replace h6 := Lib.hid h6
   replace kk1 := Lib.hid kk1
   replace bb := Lib.hid ((kk1.out.block _ (Blk.lt bb.out)).trans bb.out)
   clear kk1
   go_simp
   refine hK _ _ h6.out ?_
   clear hK K
   refine held_only (i := 5) rfl (by kernel_rfl) (by rfl) (fun K hK => ?_)
   refine wp_fn (R := fun v w'' => v = .agg sp ∧ Below W.heap.size W w'' ∧ Below (w6).heap.size (w6) w'') (args := #[.agg cs]) _ _ rfl rfl Tryd.func91 (by kernel_rfl) (by kernel_rfl) (((hSaid.out (w6))).mono fun e w'' ⟨he, hb⟩ => ⟨_, he, rfl, h6.out.trans (hb.mono h6.out.size), hb⟩) ?_
   rintro qq w7 ⟨rfl, h7, kk1⟩
   replace h7 := Lib.hid h7
   replace kk1 := Lib.hid kk1
   replace bb := Lib.hid ((kk1.out.block _ (Blk.lt bb.out)).trans bb.out)
   clear kk1
   go_simp
   refine hK _ _ h7.out ?_
   clear hK K
   refine held_only (i := 6) rfl (by kernel_rfl) (by rfl) (fun K hK => ?_)
   refine wp_fn (R := fun v w'' => ∃ (dg : Text) (err : Int) (A3 : Option Addr) (c3 : Nat), dg.length = 32 ∧ v = .tuple #[.slice A3 tn c3, .agg (cells8 dg).toArray, .int .i64 err] ∧ RowsP w'' W.heap.size A3 tn c3 ts ∧ Below W.heap.size W w'' ∧ Below (w7).heap.size (w7) w'') (args := #[.int .i64 s, .agg (cells8 ky).toArray, .agg sp]) _ _ rfl rfl Tryd.func102 (by kernel_rfl) (by kernel_rfl) (((hCl.out (w7) (hb0.out.trans (h7.out.mono hb0.out.size)) h7.out.size)).mono fun e w'' ⟨dg, err, A3, c3, hdl, he, hT, hb⟩ => ⟨_, he, dg, err, A3, c3, hdl, rfl, hT, h7.out.trans (hb.mono h7.out.size), hb⟩) ?_
   rintro qq w8 ⟨dg, err, A3, c3, hdl, rfl, hT, h8, kk1⟩
   replace h8 := Lib.hid h8
   replace kk1 := Lib.hid kk1
   have Fd := Lib.hid (fit (x := dg) hdl)
   replace hT := Lib.hid hT
   clear hdl
   replace bb := Lib.hid ((kk1.out.block _ (Blk.lt bb.out)).trans bb.out)
   clear kk1
   go_simp
   refine hK _ _ h8.out ?_
   clear hK K
   refine Held.tk0 (i := 7) (v := .tuple #[.slice A3 tn c3, .agg (cells8 dg).toArray, .int .i64 err]) rfl h8.out (fun w' hw' => run_mv (.tmp 15) rfl w') ?_
   (intro K k; go_simp; apply k; clear k K)
   refine Held.tk0 (i := 8) (v := .slice A3 tn c3) rfl h8.out (fun w' hw' => by go_simp) ?_
   (intro K k; go_simp; apply k; clear k K)
   refine Held.tk0 (i := 9) (v := .agg (cells8 dg).toArray) rfl h8.out (fun w' hw' => by go_simp) ?_
   (intro K k; go_simp; apply k; clear k K)
   refine Held.tk0 (i := 10) (v := .int .i64 err) rfl h8.out (fun w' hw' => by go_simp) ?_
   (intro K k; go_simp; apply k; clear k K)
   refine Held.tk0 (i := 12) (v := .slice A3 tn c3) rfl h8.out (fun w' hw' => by first | go_simp | rfl) ?_
   (intro K k; go_simp; apply k; clear k K)
   refine held_only (i := 13) rfl (by kernel_rfl) (by rfl) (fun K hK => ?_)
   refine wp_store_whole 23 (.tmp 6) (.tmp 17) rfl (W.heap.size) ((cells8 dg).toArray) rfl rfl 23 (Z32) (bb.out) Fd.out.size Fd.out.zero Fd.out.one ?_
   intro w99 B9 k9
   have b9 : Hid (Below W.heap.size W w99) := h8.out.trans (Kept.below_of k9 (s0.out.size) h8.out.size)
   replace hT := Lib.hid (hT.out.keptN bb.out k9)
   go_simp
   refine hK _ _ b9.out ?_
   clear hK K
   refine Held.tk0 (i := 14) (v := .int .i64 err) rfl b9.out (fun w' hw' => by first | go_simp | rfl) ?_
   (intro K k; go_simp; apply k; clear k K)
   refine held_end (by kernel_rfl) ?_
   go_wp2_with fail
   go_meet
   case rel => exact ⟨A3, c3, rfl, hT.out, b9.out⟩
 case rest =>
  obtain ⟨A3, c3, rfl, hT, hk⟩ := hcut
  obtain ⟨xs3, -, ho, hy, -, hz⟩ := hT.out
  have hz3 : Hid (tn = 0 → Value.slice A3 tn c3 = .slice none 0 0) := fun h0 => by
   obtain ⟨A9, c9, e9, -, -, hnil, -⟩ := Append.Own.reads ho
   injection e9 with e1 _ e3
   subst e1 e3
   obtain ⟨-, hc⟩ := hnil (hz h0)
   rw [hz h0, h0, hc]
  clear hz
  replace ho := Lib.hid ho
  replace hy := Lib.hid hy
  go_wp2_with fail
  go_ret
  exact ⟨_, xs3, rfl, own_low ho.out hb0.out.size, hy.out, hb0.out.trans (hk.out.mono hb0.out.size), hz3.out⟩
end Go.Proofs.YtmdkfhfkdcbpgaaDoorR.Shown

namespace Go.Proofs.YtmdkfhfkdcbpgaaDoorR.AuditShows
open Go Go.RowKit Go.Proofs.YtmdkfhfkdcbpgaaDoorR Mem Sha Bytes HashMem DigestMem QuietTail Grown TreeMem TreeRoot Held Want Book Book2 Law20 StructEq ProofIdx3 IdxAny SparseP SpMem Shows

theorem _root_.Go.Proofs.YtmdkfhfkdcbpgaaDoorR.Mem.Blk.onS {w w' : World} {g : Nat} {t : TypeId} {cs : Array Value} (h : Blk w g t cs) (hb : Below w.heap.size w w') : Blk w' g t cs := (hb.block g h.lt).trans h
theorem set_wayS {s : ByteArray} {f : Bool} {ent : List Value} {d : Text} {A A' : Option Addr} {n c n' c' : Nat} (he : ent.length = 33) (hd : d.length = 32) : (idxCells s f ent d A n c).toArray.setIfInBounds 67 (.slice A' n' c') = (idxCells s f ent d A' n' c').toArray := by
 have h : ([Value.string s, .bool f] ++ ent ++ cells8 d).length = 67 := by simp [he, cells8_len, hd]
 unfold idxCells
 rw [List.setIfInBounds_toArray, List.set_append_right _ _ (by omega), h]
 rfl
theorem size_idx {s : ByteArray} {f : Bool} {cnt : Int} {ch d : Text} {A : Option Addr} {n c : Nat} (hch : ch.length = 32) (hd : d.length = 32) : (Tryd.prog.info? 70).map (·.size) = some (idxCells s f (entC cnt ch) d A n c).toArray.size := by rw [List.size_toArray, idx_len (entC_len hch) hd]; exact sizeIx
end Go.Proofs.YtmdkfhfkdcbpgaaDoorR.AuditShows
