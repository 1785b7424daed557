/-
  Texts of the claim, put into one file: Shows, AuditShows.
-/
import Derived.Test.YtmdkfhfkdcbpgaaDoorRZ34
import Derived.Test.YtmdkfhfkdcbpgaaDoorRZ35
import Derived.Test.YtmdkfhfkdcbpgaaDoorRZ22
import Derived.Test.YtmdkfhfkdcbpgaaDoorRZ20
import Derived.Test.YtmdkfhfkdcbpgaaDoorRZ27
import Derived.Test.YtmdkfhfkdcbpgaaDoorRZ26

namespace Go.Proofs.YtmdkfhfkdcbpgaaDoorR.Shows
open Go Go.RowKit Go.Proofs.YtmdkfhfkdcbpgaaDoorR Go.Proofs.YtmdkfhfkdcbpgaaDoorR.Mem Go.Proofs.YtmdkfhfkdcbpgaaDoorR.Sha Go.Proofs.YtmdkfhfkdcbpgaaDoorR.Bytes Go.Proofs.YtmdkfhfkdcbpgaaDoorR.HashMem Go.Proofs.YtmdkfhfkdcbpgaaDoorR.DigestMem Go.Proofs.YtmdkfhfkdcbpgaaDoorR.TreeMem Go.Proofs.YtmdkfhfkdcbpgaaDoorR.TreeRoot Go.Proofs.YtmdkfhfkdcbpgaaDoorR.QuietTail Go.Proofs.YtmdkfhfkdcbpgaaDoorR.Grown Go.Proofs.YtmdkfhfkdcbpgaaDoorR.DigEq Go.Proofs.YtmdkfhfkdcbpgaaDoorR.Held Go.Proofs.YtmdkfhfkdcbpgaaDoorR.Want Go.Proofs.YtmdkfhfkdcbpgaaDoorR.ProofIdx Go.Proofs.YtmdkfhfkdcbpgaaDoorR.ProofIdx2 Go.Proofs.YtmdkfhfkdcbpgaaDoorR.ProofIdx3 Go.Proofs.YtmdkfhfkdcbpgaaDoorR.StructEq Go.Proofs.YtmdkfhfkdcbpgaaDoorR.IdxAny Go.Proofs.YtmdkfhfkdcbpgaaDoorR.IdxEnc Go.Proofs.YtmdkfhfkdcbpgaaDoorR.IdxRef Go.Proofs.YtmdkfhfkdcbpgaaDoorR.IdxRef2 Go.Proofs.YtmdkfhfkdcbpgaaDoorR.TwiceP Go.Proofs.YtmdkfhfkdcbpgaaDoorR.RowsY Go.Proofs.YtmdkfhfkdcbpgaaDoorR.SparseP Go.Proofs.YtmdkfhfkdcbpgaaDoorR.SpMem Go.Proofs.YtmdkfhfkdcbpgaaDoorR.Key Go.Proofs.YtmdkfhfkdcbpgaaDoorR.LeadM Go.Proofs.YtmdkfhfkdcbpgaaDoorR.SpTop Go.Proofs.YtmdkfhfkdcbpgaaDoorR.RefClimb Go.Proofs.YtmdkfhfkdcbpgaaDoorR.Fill

/-! ### The proof built -/
def Z67 : Array Value := #[Value.bool false, Value.int .i64 0, Value.int .u8 0, Value.int .u8 0, Value.int .u8 0, Value.int .u8 0, Value.int .u8 0, Value.int .u8 0, Value.int .u8 0, Value.int .u8 0, Value.int .u8 0, Value.int .u8 0, Value.int .u8 0, Value.int .u8 0, Value.int .u8 0, Value.int .u8 0, Value.int .u8 0, Value.int .u8 0, Value.int .u8 0, Value.int .u8 0, Value.int .u8 0, Value.int .u8 0, Value.int .u8 0, Value.int .u8 0, Value.int .u8 0, Value.int .u8 0, Value.int .u8 0, Value.int .u8 0, Value.int .u8 0, Value.int .u8 0, Value.int .u8 0, Value.int .u8 0, Value.int .u8 0, Value.int .u8 0, Value.int .u8 0, Value.int .u8 0, Value.int .u8 0, Value.int .u8 0, Value.int .u8 0, Value.int .u8 0, Value.int .u8 0, Value.int .u8 0, Value.int .u8 0, Value.int .u8 0, Value.int .u8 0, Value.int .u8 0, Value.int .u8 0, Value.int .u8 0, Value.int .u8 0, Value.int .u8 0, Value.int .u8 0, Value.int .u8 0, Value.int .u8 0, Value.int .u8 0, Value.int .u8 0, Value.int .u8 0, Value.int .u8 0, Value.int .u8 0, Value.int .u8 0, Value.int .u8 0, Value.int .u8 0, Value.int .u8 0, Value.int .u8 0, Value.int .u8 0, Value.int .u8 0, Value.int .u8 0, Value.slice none 0 0]
theorem z67_size : Z67.size = 67 := rfl
theorem built_any (parts : List (Nat × Value)) : Tryd.prog.built 135 parts = Instr.fill (#[((0 : Nat), (1 : Nat)), (1, 33), (34, 32), (66, 1)][·]?) Z67 parts := by kernel_rfl
theorem built_sp (f : Bool) (ent : List Value) (he : ent.length = 33) (d : Text) (hd : d.length = 32) (A : Option Addr) (n c : Nat) : Tryd.prog.built 135 [(0, .bool f), (1, .agg ent.toArray), (2, .agg (cells8 d).toArray), (3, .slice A n c)] = some (spCells f ent d A n c).toArray := by
  have hdl : (cells8 d).length = 32 := by rw [cells8_len, hd]
  rw [built_any]
  refine (fill_one (place := (#[((0 : Nat), (1 : Nat)), (1, 33), (34, 32), (66, 1)][·]?)) (i := 0) (v := .bool f) (xs := [.bool f]) (old := [.bool false]) (pre := []) (post := Value.int .i64 0 :: (List.replicate 64 (Value.int .u8 0) ++ [Value.slice none 0 0])) (off := 0) (size := 1) rfl rfl rfl rfl rfl).trans ?_
  refine (fill_one (place := (#[((0 : Nat), (1 : Nat)), (1, 33), (34, 32), (66, 1)][·]?)) (i := 1) (v := .agg ent.toArray) (xs := ent) (old := Value.int .i64 0 :: List.replicate 32 (Value.int .u8 0)) (pre := [.bool f]) (post := List.replicate 32 (Value.int .u8 0) ++ [Value.slice none 0 0]) (off := 1) (size := 33) rfl rfl he rfl rfl).trans ?_
  have e1 : ([Value.bool f] ++ ent ++ (List.replicate 32 (Value.int .u8 0) ++ [Value.slice none 0 0])) = ([Value.bool f] ++ ent) ++ List.replicate 32 (Value.int .u8 0) ++ [Value.slice none 0 0] := by simp
  rw [e1]
  refine (fill_one (place := (#[((0 : Nat), (1 : Nat)), (1, 33), (34, 32), (66, 1)][·]?)) (i := 2) (v := .agg (cells8 d).toArray) (xs := cells8 d) (old := List.replicate 32 (Value.int .u8 0)) (pre := [.bool f] ++ ent) (post := [Value.slice none 0 0]) (off := 34) (size := 32) rfl rfl hdl (by simp [he]) rfl).trans ?_
  have e2 : ([Value.bool f] ++ ent ++ cells8 d ++ [Value.slice none 0 0]) = ([Value.bool f] ++ ent ++ cells8 d) ++ [Value.slice none 0 0] ++ [] := by simp
  rw [e2]
  refine (fill_one (place := (#[((0 : Nat), (1 : Nat)), (1, 33), (34, 32), (66, 1)][·]?)) (i := 3) (v := .slice A n c) (xs := [Value.slice A n c]) (old := [Value.slice none 0 0]) (pre := [.bool f] ++ ent ++ cells8 d) (post := []) (off := 66) (size := 1) rfl rfl rfl (by simp [he, hdl]) rfl).trans ?_
  rw [fill_nil, List.append_nil]
  rfl
theorem sp_one {f : Bool} {ent : List Value} (h : ∀ v ∈ ent, v.oneCell' = true) {d : Text} {A : Option Addr} {n c : Nat} : (spCells f ent d A n c).toArray.all (·.oneCell') = true := by
  rw [List.all_toArray]
  refine List.all_eq_true.2 fun v hv => ?_
  unfold spCells at hv
  simp only [List.mem_append, List.mem_singleton] at hv
  rcases hv with ((rfl | hv) | hv) | rfl
  · rfl
  · exact h v hv
  · exact cells8_one d v hv
  · rfl
theorem ent_one (cnt : Int) (ch : Text) : ∀ v ∈ entC cnt ch, v.oneCell' = true := fun v hv => by
  rcases List.mem_cons.1 hv with rfl | hv
  · rfl
  · exact cells8_one ch v hv
theorem sizeIx : (Tryd.prog.info? 70).map (·.size) = some 68 := by kernel_rfl
/-- What an index's answer says against a root. -/
def showsOf (s : Int) (root : Text) (nmS : ByteArray) (f : Bool) (cnt : Int) (ch d : Text) (n : Nat) (ds : List Text) : Int := if okIx nmS f cnt ch d n = true then checkOf s root (ixKey (nm nmS)) f cnt ch d ds else 170
theorem okIx_sp {nmS : ByteArray} {f : Bool} {cnt : Int} {ch d : Text} {n : Nat} (h : okIx nmS f cnt ch d n = true) : okSp f cnt ch d n = true := by
  have h1 := okIx_ones h
  have h2 : okEnt f cnt ch = true := by
    unfold okIx at h
    simp only [Bool.and_eq_true] at h
    exact h.1
  unfold okSp
  rw [h2, decide_eq_true h1]
  rfl
theorem shows_yes {s : Int} {root : Text} {nmS : ByteArray} {f : Bool} {cnt : Int} {ch d : Text} {n : Nat} {ds : List Text} (h : okIx nmS f cnt ch d n = true) : showsOf s root nmS f cnt ch d n ds = spCheck s root (ixKey (nm nmS)) f cnt ch d n ds := by unfold showsOf spCheck; rw [if_pos h, if_pos (okIx_sp h)]
theorem shows_no {s : Int} {root : Text} {nmS : ByteArray} {f : Bool} {cnt : Int} {ch d : Text} {n : Nat} {ds : List Text} (h : okIx nmS f cnt ch d n = false) : showsOf s root nmS f cnt ch d n ds = 170 := by unfold showsOf; rw [if_neg (by rw [h]; decide)]
set_option maxRecDepth 100000 in
set_option maxHeartbeats 2000000 in
theorem said_any (s : ByteArray) (f : Bool) (cnt : Int) (ch : Text) (hch : ch.length = 32) (d : Text) (hd : d.length = 32) (A : Option Addr) (n c : Nat) (w : World) :
    Calls Tryd.prog 87 #[.agg (idxCells s f (entC cnt ch) d A n c).toArray] w fun e w' => e = .returned (.agg (spCells f (entC cnt ch) d A n c).toArray) ∧ Below w.heap.size w w' := by
  obtain ⟨cs, hcs⟩ : ∃ cs : Array Value, (idxCells s f (entC cnt ch) d A n c).toArray = cs := ⟨_, rfl⟩
  have i1 : cs[1]? = some (.bool f) := by rw [← hcs, List.getElem?_toArray]; exact idx_found
  have i2 : ∀ j v, (entC cnt ch)[j]? = some v → cs[2 + j]? = some v := fun j v hv => by rw [← hcs, List.getElem?_toArray]; exact idx_ent j v hv
  have i3 : ∀ j v, (cells8 d)[j]? = some v → cs[35 + j]? = some v := fun j v hv => by rw [← hcs, List.getElem?_toArray]; exact idx_bitmap (entC_len hch) j v hv
  have i4 : cs[67]? = some (.slice A n c) := by rw [← hcs, List.getElem?_toArray]; exact idx_way (entC_len hch) hd
  rw [hcs]
  clear hcs
  obtain ⟨w1, hw1⟩ : ∃ w1, Hid (w1 = (w.alloc (.cells cs 70)).alloc (.cells Z67 135)) := ⟨_, rfl⟩
  have hP : Hid (Blk w1 w.heap.size 70 cs) := by show Blk _ _ _ _; rw [hw1.out]; exact (Blk.new w _ _).alloc _
  have hR : Hid (Blk w1 (w.heap.size + 1) 135 Z67) := by
    show Blk _ _ _ _
    rw [hw1.out]
    have := Blk.new (w.alloc (.cells cs 70)) 135 Z67
    rwa [show (w.alloc (.cells cs 70)).heap.size = w.heap.size + 1 by simp] at this
  have hb1 : Hid (Below w.heap.size w w1) := by show Below _ _ _; rw [hw1.out]; exact ((Below.refl _ w).alloc (Nat.le_refl _) _).alloc (by simp) _
  have e1 : w1.cell? ⟨w.heap.size, 1, none⟩ = some (.bool f) := (hP.out.cell 1).trans i1
  have e4 : w1.cell? ⟨w.heap.size, 67, none⟩ = some (.slice A n c) := (hP.out.cell 67).trans i4
  have h2 : Hid (∀ j v, (entC cnt ch)[j]? = some v → w1.cell? ⟨w.heap.size, 2 + j, none⟩ = some v) := fun j v hv => (hP.out.cell (2 + j)).trans (i2 j v hv)
  have h3 : Hid (∀ j v, (cells8 d)[j]? = some v → w1.cell? ⟨w.heap.size, 35 + j, none⟩ = some v) := fun j v hv => (hP.out.cell (35 + j)).trans (i3 j v hv)
  have sE : Hid ((Tryd.prog.info? 68).map (·.size) = some (entC cnt ch).length) := by show _ = _; rw [entC_len hch]; exact sizeEnt
  have sD : Hid ((Tryd.prog.info? 23).map (·.size) = some (cells8 d).length) := by show _ = _; rw [cells8_len, hd]; exact size31
  have hrun : Hid (∀ w, (Instr.build 135 #[(0, .bool f), (1, .agg (entC cnt ch).toArray), (2, .agg (cells8 d).toArray), (3, .slice A n c)]).run Tryd.prog w = .ok (.agg (spCells f (entC cnt ch) d A n c).toArray) w) := fun w => run_build w _ _ _ (built_sp f (entC cnt ch) (entC_len hch) d hd A n c)
  have hl : (spCells f (entC cnt ch) d A n c).length = 67 := sp_len (entC_len hch) hd
  have sS : Hid ((Tryd.prog.info? 135).map (·.size) = some (spCells f (entC cnt ch) d A n c).toArray.size) := by show _ = _; rw [List.size_toArray, hl]; exact sizeSp
  have sz : Hid (Z67.size = (spCells f (entC cnt ch) d A n c).toArray.size) := by show _ = _; rw [z67_size, List.size_toArray, hl]
  have so : Hid ((spCells f (entC cnt ch) d A n c).toArray.all (·.oneCell') = true) := sp_one (ent_one cnt ch)
  obtain ⟨sp, hsp⟩ : ∃ sp, Hid ((spCells f (entC cnt ch) d A n c).toArray = sp) := ⟨_, Lib.hid rfl⟩
  rw [hsp.out] at hrun sS sz so ⊢
  clear hl i1 i2 i3 i4 hch hd
  go_enter Tryd.func87, Tryd.ntmps87
  go_upto_region 1 with fail
  change Code.wp _ _ _ _ ((w.alloc (.cells cs 70)).alloc (.cells Z67 135))
  rw [← hw1.out]
  go_wp2_with (first
    | ((with_reducible change wpList _ _ _ ({ dst := some 6, op := _, type := _, pos := _, after := _, guard := _ } :: _) _ _); refine wpList_load_part (o := ⟨some 6, _, _, _, _, _⟩) rfl 68 (.tmp 5) rfl (w.heap.size) (2) rfl (entC cnt ch) _ h2.out Tryd.underlying68 rfl sE.out ?_)
    | ((with_reducible change wpList _ _ _ ({ dst := some 8, op := _, type := _, pos := _, after := _, guard := _ } :: _) _ _); refine wpList_load_part (o := ⟨some 8, _, _, _, _, _⟩) rfl 23 (.tmp 7) rfl (w.heap.size) (35) rfl (cells8 d) _ h3.out Tryd.underlying23 rfl sD.out ?_)
    | ((with_reducible change wpList _ _ _ ({ dst := some 11, op := _, type := _, pos := _, after := _, guard := _ } :: _) _ _); refine wpList_buildF (o := ⟨some 11, _, _, _, _, _⟩) rfl 135 #[(0, .tmp 4), (1, .tmp 6), (2, .tmp 8), (3, .tmp 10)] rfl #[(0, .bool f), (1, .agg (entC cnt ch).toArray), (2, .agg (cells8 d).toArray), (3, .slice A n c)] (by simp; exact ⟨rfl, rfl, rfl, rfl⟩) (.agg sp) (hrun.out w1) ?_)
    | ((with_reducible change wpList _ _ _ ({ dst := none, op := Op.store 135 _ _, type := _, pos := _, after := _, guard := _ } :: _) _ _); refine wpList_store_row (o := ⟨none, _, _, _, _, _⟩) rfl 135 (.tmp 2) (.tmp 11) rfl (w.heap.size + 1) (sp) rfl rfl 135 (Z67) hR.out sS.out sz.out so.out ?_))
  refine bodyPost_ret (results_cell_row rfl _ _ (w.heap.size + 1) 135 sp (0, 0) _ rfl (setRow_heap _ _ _ _ _ _ hR.out) Tryd.underlying135 rfl sS.out) rfl ?_
  exact ⟨rfl, below_setRow hb1.out (by omega) _⟩

set_option maxRecDepth 100000 in
set_option maxHeartbeats 2000000 in
theorem refsaid_any (s : ByteArray) (f : Bool) (cnt : Int) (ch : Text) (hch : ch.length = 32) (d : Text) (hd : d.length = 32) (A : Option Addr) (n c : Nat) (w : World) :
    Calls Tryd.prog 91 #[.agg (idxCells s f (entC cnt ch) d A n c).toArray] w fun e w' => e = .returned (.agg (spCells f (entC cnt ch) d A n c).toArray) ∧ Below w.heap.size w w' := by
  obtain ⟨cs, hcs⟩ : ∃ cs : Array Value, (idxCells s f (entC cnt ch) d A n c).toArray = cs := ⟨_, rfl⟩
  have i1 : cs[1]? = some (.bool f) := by rw [← hcs, List.getElem?_toArray]; exact idx_found
  have i2 : ∀ j v, (entC cnt ch)[j]? = some v → cs[2 + j]? = some v := fun j v hv => by rw [← hcs, List.getElem?_toArray]; exact idx_ent j v hv
  have i3 : ∀ j v, (cells8 d)[j]? = some v → cs[35 + j]? = some v := fun j v hv => by rw [← hcs, List.getElem?_toArray]; exact idx_bitmap (entC_len hch) j v hv
  have i4 : cs[67]? = some (.slice A n c) := by rw [← hcs, List.getElem?_toArray]; exact idx_way (entC_len hch) hd
  rw [hcs]
  clear hcs
  obtain ⟨w1, hw1⟩ : ∃ w1, Hid (w1 = (w.alloc (.cells cs 70)).alloc (.cells Z67 135)) := ⟨_, rfl⟩
  have hP : Hid (Blk w1 w.heap.size 70 cs) := by show Blk _ _ _ _; rw [hw1.out]; exact (Blk.new w _ _).alloc _
  have hR : Hid (Blk w1 (w.heap.size + 1) 135 Z67) := by
    show Blk _ _ _ _
    rw [hw1.out]
    have := Blk.new (w.alloc (.cells cs 70)) 135 Z67
    rwa [show (w.alloc (.cells cs 70)).heap.size = w.heap.size + 1 by simp] at this
  have hb1 : Hid (Below w.heap.size w w1) := by show Below _ _ _; rw [hw1.out]; exact ((Below.refl _ w).alloc (Nat.le_refl _) _).alloc (by simp) _
  have e1 : w1.cell? ⟨w.heap.size, 1, none⟩ = some (.bool f) := (hP.out.cell 1).trans i1
  have e4 : w1.cell? ⟨w.heap.size, 67, none⟩ = some (.slice A n c) := (hP.out.cell 67).trans i4
  have h2 : Hid (∀ j v, (entC cnt ch)[j]? = some v → w1.cell? ⟨w.heap.size, 2 + j, none⟩ = some v) := fun j v hv => (hP.out.cell (2 + j)).trans (i2 j v hv)
  have h3 : Hid (∀ j v, (cells8 d)[j]? = some v → w1.cell? ⟨w.heap.size, 35 + j, none⟩ = some v) := fun j v hv => (hP.out.cell (35 + j)).trans (i3 j v hv)
  have sE : Hid ((Tryd.prog.info? 68).map (·.size) = some (entC cnt ch).length) := by show _ = _; rw [entC_len hch]; exact sizeEnt
  have sD : Hid ((Tryd.prog.info? 23).map (·.size) = some (cells8 d).length) := by show _ = _; rw [cells8_len, hd]; exact size31
  have hrun : Hid (∀ w, (Instr.build 135 #[(0, .bool f), (1, .agg (entC cnt ch).toArray), (2, .agg (cells8 d).toArray), (3, .slice A n c)]).run Tryd.prog w = .ok (.agg (spCells f (entC cnt ch) d A n c).toArray) w) := fun w => run_build w _ _ _ (built_sp f (entC cnt ch) (entC_len hch) d hd A n c)
  have hl : (spCells f (entC cnt ch) d A n c).length = 67 := sp_len (entC_len hch) hd
  have sS : Hid ((Tryd.prog.info? 135).map (·.size) = some (spCells f (entC cnt ch) d A n c).toArray.size) := by show _ = _; rw [List.size_toArray, hl]; exact sizeSp
  have sz : Hid (Z67.size = (spCells f (entC cnt ch) d A n c).toArray.size) := by show _ = _; rw [z67_size, List.size_toArray, hl]
  have so : Hid ((spCells f (entC cnt ch) d A n c).toArray.all (·.oneCell') = true) := sp_one (ent_one cnt ch)
  obtain ⟨sp, hsp⟩ : ∃ sp, Hid ((spCells f (entC cnt ch) d A n c).toArray = sp) := ⟨_, Lib.hid rfl⟩
  rw [hsp.out] at hrun sS sz so ⊢
  clear hl i1 i2 i3 i4 hch hd
  go_enter Tryd.func91, Tryd.ntmps91
  go_upto_region 1 with fail
  change Code.wp _ _ _ _ ((w.alloc (.cells cs 70)).alloc (.cells Z67 135))
  rw [← hw1.out]
  go_wp2_with (first
    | ((with_reducible change wpList _ _ _ ({ dst := some 6, op := _, type := _, pos := _, after := _, guard := _ } :: _) _ _); refine wpList_load_part (o := ⟨some 6, _, _, _, _, _⟩) rfl 68 (.tmp 5) rfl (w.heap.size) (2) rfl (entC cnt ch) _ h2.out Tryd.underlying68 rfl sE.out ?_)
    | ((with_reducible change wpList _ _ _ ({ dst := some 8, op := _, type := _, pos := _, after := _, guard := _ } :: _) _ _); refine wpList_load_part (o := ⟨some 8, _, _, _, _, _⟩) rfl 23 (.tmp 7) rfl (w.heap.size) (35) rfl (cells8 d) _ h3.out Tryd.underlying23 rfl sD.out ?_)
    | ((with_reducible change wpList _ _ _ ({ dst := some 11, op := _, type := _, pos := _, after := _, guard := _ } :: _) _ _); refine wpList_buildF (o := ⟨some 11, _, _, _, _, _⟩) rfl 135 #[(0, .tmp 4), (1, .tmp 6), (2, .tmp 8), (3, .tmp 10)] rfl #[(0, .bool f), (1, .agg (entC cnt ch).toArray), (2, .agg (cells8 d).toArray), (3, .slice A n c)] (by simp; exact ⟨rfl, rfl, rfl, rfl⟩) (.agg sp) (hrun.out w1) ?_)
    | ((with_reducible change wpList _ _ _ ({ dst := none, op := Op.store 135 _ _, type := _, pos := _, after := _, guard := _ } :: _) _ _); refine wpList_store_row (o := ⟨none, _, _, _, _, _⟩) rfl 135 (.tmp 2) (.tmp 11) rfl (w.heap.size + 1) (sp) rfl rfl 135 (Z67) hR.out sS.out sz.out so.out ?_))
  refine bodyPost_ret (results_cell_row rfl _ _ (w.heap.size + 1) 135 sp (0, 0) _ rfl (setRow_heap _ _ _ _ _ _ hR.out) Tryd.underlying135 rfl sS.out) rfl ?_
  exact ⟨rfl, below_setRow hb1.out (by omega) _⟩

set_option maxRecDepth 100000 in
set_option maxHeartbeats 2000000 in
theorem refcheck_any (root k : Text) (hrt : root.length = 32) (hk : k.length = 32) (cs : Array Value) (f : Bool) (cnt : Int) (ch d : Text) (hch : ch.length = 32) (hd : d.length = 32) (A : Option Addr) (n c : Nat) (hs : Sp cs f cnt ch d A n c) (s : Int) (hs63 : s < 9223372036854775808) (ds : List Text) (w : World) (hr : RdD w A n ds) :
    Calls Tryd.prog 89 #[.int .i64 s, .agg (cells8 root).toArray, .agg (cells8 k).toArray, .agg cs] w fun e w' => e = .returned (.int .i64 (spCheck s root k f cnt ch d n ds)) ∧ Below w.heap.size w w' := by
  obtain ⟨w1, hw1⟩ : ∃ w1, Hid (w1 = (((w.alloc (.cells (cells8 root).toArray 23)).alloc (.cells (cells8 k).toArray 23)).alloc (.cells cs 135))) := ⟨_, rfl⟩
  have hb1 : Hid (Below w.heap.size w w1) := by show Below _ _ _; rw [hw1.out]; exact (((Below.refl _ w).alloc (Nat.le_refl _) _).alloc (by simp) _).alloc (by simp; omega) _
  have hP1 : Hid (Blk w1 (w.heap.size + 2) 135 cs) := by
    show Blk _ _ _ _
    rw [hw1.out]
    have := Blk.new ((w.alloc (.cells (cells8 root).toArray 23)).alloc (.cells (cells8 k).toArray 23)) 135 cs
    rwa [show ((w.alloc (.cells (cells8 root).toArray 23)).alloc (.cells (cells8 k).toArray 23)).heap.size = w.heap.size + 2 by simp] at this
  have hR1 : Hid (Blk w1 w.heap.size 23 (cells8 root).toArray) := by show Blk _ _ _ _; rw [hw1.out]; exact ((Blk.new w _ _).alloc _).alloc _
  have hK1 : Hid (Blk w1 (w.heap.size + 1) 23 (cells8 k).toArray) := by
    show Blk _ _ _ _
    rw [hw1.out]
    have := Blk.new (w.alloc (.cells (cells8 root).toArray 23)) 23 (cells8 k).toArray
    rw [show (w.alloc (.cells (cells8 root).toArray 23)).heap.size = w.heap.size + 1 by simp] at this
    exact this.alloc _
  have hsz : Hid ((Tryd.prog.info? 135).map (·.size) = some cs.size) := by show _ = _; rw [hs.size]; exact sizeSp
  have Fk := Lib.hid (fit (x := k) hk)
  have Fr := Lib.hid (fit (x := root) hrt)
  have hcon := refclimb_any k hk cs f cnt ch d hch hd A n c hs s hs63 ds w1 (hr.below hb1.out)
  cases hok : okSp f cnt ch d n with
  | false =>
    rw [spCheck_no hok]
    have hcon2 : Hid (Calls Tryd.prog 102 #[.int .i64 s, .agg (cells8 k).toArray, .agg cs] w1 fun e w' => ∃ v, e = .returned (.tuple #[v, .agg Z32, .int .i64 8]) ∧ Below w1.heap.size w1 w') := hcon.mono fun e w' h => by
      rcases h with ⟨hb, h | h | h⟩
      · exact ⟨_, h.2, hb⟩
      · rw [hok] at h; cases h.1
      · rw [hok] at h; cases h.1
    clear hcon hr hs hch hd hrt hk hok hs63
    go_enter Tryd.func89, Tryd.ntmps89
    go_upto_region 1 with fail
    change Code.wp _ _ _ _ (((w.alloc (.cells (cells8 root).toArray 23)).alloc (.cells (cells8 k).toArray 23)).alloc (.cells cs 135))
    rw [← hw1.out]
    go_wp2_with (first
      | ((with_reducible change wpList _ _ _ ({ dst := some 14, op := _, type := _, pos := _, after := _, guard := _ } :: _) _ _); refine wpList_load_row (o := ⟨some 14, _, _, _, _, _⟩) rfl 23 (.tmp 6) rfl ((w.heap.size + 1)) rfl 23 ((cells8 k).toArray) (0, 0) _ hK1.out Tryd.underlying23 rfl Fk.out.size ?_)
      | ((with_reducible change wpList _ _ _ ({ dst := some 15, op := _, type := _, pos := _, after := _, guard := _ } :: _) _ _); refine wpList_load_row (o := ⟨some 15, _, _, _, _, _⟩) rfl 135 (.tmp 7) rfl ((w.heap.size + 2)) rfl 135 (cs) (0, 0) _ hP1.out Tryd.underlying135 rfl hsz.out ?_)
      | (go_at_call 102; refine hcon2.out.mono ?_; rintro e w2 ⟨v2, rfl, hk2⟩; have hb2 : Hid (Below w.heap.size w w2) := hb1.out.trans (hk2.mono hb1.out.size); have hR2 : Hid (Blk w2 w.heap.size 23 (cells8 root).toArray) := (hk2.block _ hR1.out.lt).trans hR1.out; clear hk2 hcon2)
      | ((with_reducible change wpList _ _ _ ({ dst := none, op := Op.store 23 (.tmp 10) _, type := _, pos := _, after := _, guard := _ } :: _) _ _); refine wpList_store_whole (o := ⟨none, _, _, _, _, _⟩) rfl 23 (.tmp 10) (.tmp 18) rfl (w2.heap.size) (Z32) rfl rfl 23 (Z32) (Blk.new w2 _ _) fitZ rfl oneZ ?_; intro w6 hB6 hk6; have hk26 := kept_fresh hk6; have hR6 : Hid (Blk w6 w.heap.size 23 (cells8 root).toArray) := (hk26.block _ hR2.out.lt).trans hR2.out; have hb6 : Hid (Below w.heap.size w w6) := hb2.out.trans (hk26.mono hb2.out.size); replace hB6 := Lib.hid hB6; clear hk6 hk26)
      | ((with_reducible change wpList _ _ _ ({ dst := some 23, op := _, type := _, pos := _, after := _, guard := _ } :: _) _ _); refine wpList_load_row (o := ⟨some 23, _, _, _, _, _⟩) rfl 23 (.tmp 10) rfl (w2.heap.size) rfl 23 (Z32) (0, 0) _ hB6.out Tryd.underlying23 rfl fitZ ?_)
      | ((with_reducible change wpList _ _ _ ({ dst := some 24, op := _, type := _, pos := _, after := _, guard := _ } :: _) _ _); refine wpList_load_row (o := ⟨some 24, _, _, _, _, _⟩) rfl 23 (.tmp 5) rfl (w.heap.size) rfl 23 ((cells8 root).toArray) (0, 0) _ hR6.out Tryd.underlying23 rfl Fr.out.size ?_))
    go_ret
    exact ⟨rfl, hb6.out⟩
  | true =>
    cases hnb : nbrs s d ds 256 with
    | none =>
      rw [spCheck_bad hok hnb]
      have hcon2 : Hid (Calls Tryd.prog 102 #[.int .i64 s, .agg (cells8 k).toArray, .agg cs] w1 fun e w' => ∃ v, e = .returned (.tuple #[v, .agg Z32, .int .i64 170]) ∧ Below w1.heap.size w1 w') := hcon.mono fun e w' h => by
        rcases h with ⟨hb, h | h | h⟩
        · rw [hok] at h; cases h.1
        · exact ⟨_, h.2.2, hb⟩
        · obtain ⟨-, l, v, xs, h, -⟩ := h
          rw [hnb] at h; cases h
      clear hcon hr hs hch hd hrt hk hok hnb hs63
      go_enter Tryd.func89, Tryd.ntmps89
      go_upto_region 1 with fail
      change Code.wp _ _ _ _ (((w.alloc (.cells (cells8 root).toArray 23)).alloc (.cells (cells8 k).toArray 23)).alloc (.cells cs 135))
      rw [← hw1.out]
      go_wp2_with (first
        | ((with_reducible change wpList _ _ _ ({ dst := some 14, op := _, type := _, pos := _, after := _, guard := _ } :: _) _ _); refine wpList_load_row (o := ⟨some 14, _, _, _, _, _⟩) rfl 23 (.tmp 6) rfl ((w.heap.size + 1)) rfl 23 ((cells8 k).toArray) (0, 0) _ hK1.out Tryd.underlying23 rfl Fk.out.size ?_)
        | ((with_reducible change wpList _ _ _ ({ dst := some 15, op := _, type := _, pos := _, after := _, guard := _ } :: _) _ _); refine wpList_load_row (o := ⟨some 15, _, _, _, _, _⟩) rfl 135 (.tmp 7) rfl ((w.heap.size + 2)) rfl 135 (cs) (0, 0) _ hP1.out Tryd.underlying135 rfl hsz.out ?_)
        | (go_at_call 102; refine hcon2.out.mono ?_; rintro e w2 ⟨v2, rfl, hk2⟩; have hb2 : Hid (Below w.heap.size w w2) := hb1.out.trans (hk2.mono hb1.out.size); have hR2 : Hid (Blk w2 w.heap.size 23 (cells8 root).toArray) := (hk2.block _ hR1.out.lt).trans hR1.out; clear hk2 hcon2)
        | ((with_reducible change wpList _ _ _ ({ dst := none, op := Op.store 23 (.tmp 10) _, type := _, pos := _, after := _, guard := _ } :: _) _ _); refine wpList_store_whole (o := ⟨none, _, _, _, _, _⟩) rfl 23 (.tmp 10) (.tmp 18) rfl (w2.heap.size) (Z32) rfl rfl 23 (Z32) (Blk.new w2 _ _) fitZ rfl oneZ ?_; intro w6 hB6 hk6; have hk26 := kept_fresh hk6; have hR6 : Hid (Blk w6 w.heap.size 23 (cells8 root).toArray) := (hk26.block _ hR2.out.lt).trans hR2.out; have hb6 : Hid (Below w.heap.size w w6) := hb2.out.trans (hk26.mono hb2.out.size); replace hB6 := Lib.hid hB6; clear hk6 hk26)
        | ((with_reducible change wpList _ _ _ ({ dst := some 23, op := _, type := _, pos := _, after := _, guard := _ } :: _) _ _); refine wpList_load_row (o := ⟨some 23, _, _, _, _, _⟩) rfl 23 (.tmp 10) rfl (w2.heap.size) rfl 23 (Z32) (0, 0) _ hB6.out Tryd.underlying23 rfl fitZ ?_)
        | ((with_reducible change wpList _ _ _ ({ dst := some 24, op := _, type := _, pos := _, after := _, guard := _ } :: _) _ _); refine wpList_load_row (o := ⟨some 24, _, _, _, _, _⟩) rfl 23 (.tmp 5) rfl (w.heap.size) rfl 23 ((cells8 root).toArray) (0, 0) _ hR6.out Tryd.underlying23 rfl Fr.out.size ?_))
      go_ret
      exact ⟨rfl, hb6.out⟩
    | some l =>
      rw [spCheck_yes hok hnb]
      have hcon2 : Hid (Calls Tryd.prog 102 #[.int .i64 s, .agg (cells8 k).toArray, .agg cs] w1 fun e w' => ∃ v, e = .returned (.tuple #[v, .agg (cells8 (lead s k (txt0 k f cnt ch) l 256).2).toArray, .int .i64 0]) ∧ Below w1.heap.size w1 w') := hcon.mono fun e w' h => by
        rcases h with ⟨hb, h | h | h⟩
        · rw [hok] at h; cases h.1
        · rw [hnb] at h; cases h.2.1
        · obtain ⟨-, l', v, xs, h1, h2, -⟩ := h
          rw [hnb] at h1
          obtain rfl := Option.some.inj h1
          exact ⟨v, h2, hb⟩
      have hdg := lead_dig s k (txt0 k f cnt ch) l 256
      obtain ⟨dg, hdge⟩ : ∃ dg, (lead s k (txt0 k f cnt ch) l 256).2 = dg := ⟨_, rfl⟩
      rw [hdge] at hdg hcon2 ⊢
      have Fd := Lib.hid (fit (x := dg) hdg)
      have hneq := Lib.hid (neq_dig dg root hdg hrt)
      clear hcon hr hs hch hd hrt hk hok hnb hdge hdg hs63
      by_cases he : dg = root
      · have hne : ∀ w, (binOp .neq 23 (.agg (cells8 dg).toArray) (.agg (cells8 root).toArray)).run Tryd.prog w = .ok (.bool false) w := fun w => by rw [hneq.out w, decide_eq_true he]; rfl
        rw [if_pos he]
        clear hneq he
        go_enter Tryd.func89, Tryd.ntmps89
        go_upto_region 1 with fail
        change Code.wp _ _ _ _ (((w.alloc (.cells (cells8 root).toArray 23)).alloc (.cells (cells8 k).toArray 23)).alloc (.cells cs 135))
        rw [← hw1.out]
        go_wp2_with (first
          | ((with_reducible change wpList _ _ _ ({ dst := some 14, op := _, type := _, pos := _, after := _, guard := _ } :: _) _ _); refine wpList_load_row (o := ⟨some 14, _, _, _, _, _⟩) rfl 23 (.tmp 6) rfl ((w.heap.size + 1)) rfl 23 ((cells8 k).toArray) (0, 0) _ hK1.out Tryd.underlying23 rfl Fk.out.size ?_)
          | ((with_reducible change wpList _ _ _ ({ dst := some 15, op := _, type := _, pos := _, after := _, guard := _ } :: _) _ _); refine wpList_load_row (o := ⟨some 15, _, _, _, _, _⟩) rfl 135 (.tmp 7) rfl ((w.heap.size + 2)) rfl 135 (cs) (0, 0) _ hP1.out Tryd.underlying135 rfl hsz.out ?_)
          | (go_at_call 102; refine hcon2.out.mono ?_; rintro e w2 ⟨v2, rfl, hk2⟩; have hb2 : Hid (Below w.heap.size w w2) := hb1.out.trans (hk2.mono hb1.out.size); have hR2 : Hid (Blk w2 w.heap.size 23 (cells8 root).toArray) := (hk2.block _ hR1.out.lt).trans hR1.out; clear hk2 hcon2)
          | ((with_reducible change wpList _ _ _ ({ dst := none, op := Op.store 23 (.tmp 10) _, type := _, pos := _, after := _, guard := _ } :: _) _ _); refine wpList_store_whole (o := ⟨none, _, _, _, _, _⟩) rfl 23 (.tmp 10) (.tmp 18) rfl (w2.heap.size) ((cells8 dg).toArray) rfl rfl 23 (Z32) (Blk.new w2 _ _) Fd.out.size Fd.out.zero Fd.out.one ?_; intro w6 hB6 hk6; have hk26 := kept_fresh hk6; have hR6 : Hid (Blk w6 w.heap.size 23 (cells8 root).toArray) := (hk26.block _ hR2.out.lt).trans hR2.out; have hb6 : Hid (Below w.heap.size w w6) := hb2.out.trans (hk26.mono hb2.out.size); replace hB6 := Lib.hid hB6; clear hk6 hk26)
          | ((with_reducible change wpList _ _ _ ({ dst := some 23, op := _, type := _, pos := _, after := _, guard := _ } :: _) _ _); refine wpList_load_row (o := ⟨some 23, _, _, _, _, _⟩) rfl 23 (.tmp 10) rfl (w2.heap.size) rfl 23 ((cells8 dg).toArray) (0, 0) _ hB6.out Tryd.underlying23 rfl Fd.out.size ?_)
          | ((with_reducible change wpList _ _ _ ({ dst := some 24, op := _, type := _, pos := _, after := _, guard := _ } :: _) _ _); refine wpList_load_row (o := ⟨some 24, _, _, _, _, _⟩) rfl 23 (.tmp 5) rfl (w.heap.size) rfl 23 ((cells8 root).toArray) (0, 0) _ hR6.out Tryd.underlying23 rfl Fr.out.size ?_))
        go_ret
        exact ⟨rfl, hb6.out⟩
      · have hne : ∀ w, (binOp .neq 23 (.agg (cells8 dg).toArray) (.agg (cells8 root).toArray)).run Tryd.prog w = .ok (.bool true) w := fun w => by rw [hneq.out w, decide_eq_false he]; rfl
        rw [if_neg he]
        clear hneq he
        go_enter Tryd.func89, Tryd.ntmps89
        go_upto_region 1 with fail
        change Code.wp _ _ _ _ (((w.alloc (.cells (cells8 root).toArray 23)).alloc (.cells (cells8 k).toArray 23)).alloc (.cells cs 135))
        rw [← hw1.out]
        go_wp2_with (first
          | ((with_reducible change wpList _ _ _ ({ dst := some 14, op := _, type := _, pos := _, after := _, guard := _ } :: _) _ _); refine wpList_load_row (o := ⟨some 14, _, _, _, _, _⟩) rfl 23 (.tmp 6) rfl ((w.heap.size + 1)) rfl 23 ((cells8 k).toArray) (0, 0) _ hK1.out Tryd.underlying23 rfl Fk.out.size ?_)
          | ((with_reducible change wpList _ _ _ ({ dst := some 15, op := _, type := _, pos := _, after := _, guard := _ } :: _) _ _); refine wpList_load_row (o := ⟨some 15, _, _, _, _, _⟩) rfl 135 (.tmp 7) rfl ((w.heap.size + 2)) rfl 135 (cs) (0, 0) _ hP1.out Tryd.underlying135 rfl hsz.out ?_)
          | (go_at_call 102; refine hcon2.out.mono ?_; rintro e w2 ⟨v2, rfl, hk2⟩; have hb2 : Hid (Below w.heap.size w w2) := hb1.out.trans (hk2.mono hb1.out.size); have hR2 : Hid (Blk w2 w.heap.size 23 (cells8 root).toArray) := (hk2.block _ hR1.out.lt).trans hR1.out; clear hk2 hcon2)
          | ((with_reducible change wpList _ _ _ ({ dst := none, op := Op.store 23 (.tmp 10) _, type := _, pos := _, after := _, guard := _ } :: _) _ _); refine wpList_store_whole (o := ⟨none, _, _, _, _, _⟩) rfl 23 (.tmp 10) (.tmp 18) rfl (w2.heap.size) ((cells8 dg).toArray) rfl rfl 23 (Z32) (Blk.new w2 _ _) Fd.out.size Fd.out.zero Fd.out.one ?_; intro w6 hB6 hk6; have hk26 := kept_fresh hk6; have hR6 : Hid (Blk w6 w.heap.size 23 (cells8 root).toArray) := (hk26.block _ hR2.out.lt).trans hR2.out; have hb6 : Hid (Below w.heap.size w w6) := hb2.out.trans (hk26.mono hb2.out.size); replace hB6 := Lib.hid hB6; clear hk6 hk26)
          | ((with_reducible change wpList _ _ _ ({ dst := some 23, op := _, type := _, pos := _, after := _, guard := _ } :: _) _ _); refine wpList_load_row (o := ⟨some 23, _, _, _, _, _⟩) rfl 23 (.tmp 10) rfl (w2.heap.size) rfl 23 ((cells8 dg).toArray) (0, 0) _ hB6.out Tryd.underlying23 rfl Fd.out.size ?_)
          | ((with_reducible change wpList _ _ _ ({ dst := some 24, op := _, type := _, pos := _, after := _, guard := _ } :: _) _ _); refine wpList_load_row (o := ⟨some 24, _, _, _, _, _⟩) rfl 23 (.tmp 5) rfl (w.heap.size) rfl 23 ((cells8 root).toArray) (0, 0) _ hR6.out Tryd.underlying23 rfl Fr.out.size ?_))
        go_ret
        exact ⟨rfl, hb6.out⟩

set_option maxRecDepth 100000 in
set_option maxHeartbeats 2000000 in
theorem shows_any (root : Text) (hrt : root.length = 32) (nmS : ByteArray) (hnm : nmS.size < 140737488355327) (f : Bool) (cnt : Int) (ch d : Text) (hch : ch.length = 32) (hd : d.length = 32) (A : Option Addr) (n c : Nat) (s : Int) (ds : List Text) (w : World) (hB : Base w) (hr : RdD w A n ds) :
    Calls Tryd.prog 35 #[.int .i64 s, .agg (cells8 root).toArray, .agg (idxCells nmS f (entC cnt ch) d A n c).toArray] w fun e w' => e = .returned (.int .i64 (showsOf s root nmS f cnt ch d n ds)) ∧ Below w.heap.size w w' := by
  obtain ⟨cs, hcs⟩ : ∃ cs : Array Value, Hid ((idxCells nmS f (entC cnt ch) d A n c).toArray = cs) := ⟨_, Lib.hid rfl⟩
  have i0 : cs[0]? = some (.string nmS) := by rw [← hcs.out, List.getElem?_toArray]; exact idx_name
  have hsz : Hid ((Tryd.prog.info? 70).map (·.size) = some cs.size) := by show _ = _; rw [← hcs.out, List.size_toArray, idx_len (entC_len hch) hd]; exact sizeIx
  obtain ⟨sp, hsp⟩ : ∃ sp : Array Value, Hid ((spCells f (entC cnt ch) d A n c).toArray = sp) := ⟨_, Lib.hid rfl⟩
  have hSp : Sp sp f cnt ch d A n c := by rw [← hsp.out]; exact Sp.of f cnt hch hd A n c
  obtain ⟨w1, hw1⟩ : ∃ w1, Hid (w1 = (w.alloc (.cells (cells8 root).toArray 23)).alloc (.cells cs 70)) := ⟨_, rfl⟩
  have hb1 : Hid (Below w.heap.size w w1) := by show Below _ _ _; rw [hw1.out]; exact ((Below.refl _ w).alloc (Nat.le_refl _) _).alloc (by simp) _
  have hR1 : Hid (Blk w1 w.heap.size 23 (cells8 root).toArray) := by show Blk _ _ _ _; rw [hw1.out]; exact (Blk.new w _ _).alloc _
  have hP1 : Hid (Blk w1 (w.heap.size + 1) 70 cs) := by
    show Blk _ _ _ _
    rw [hw1.out]
    have := Blk.new (w.alloc (.cells (cells8 root).toArray 23)) 70 cs
    rwa [show (w.alloc (.cells (cells8 root).toArray 23)).heap.size = w.heap.size + 1 by simp] at this
  have Fr := Lib.hid (fit (x := root) hrt)
  have hkl := ixKey_len (nm nmS)
  have hKey : Hid (∀ w', Below w.heap.size w w' → Calls Tryd.prog 86 #[.string nmS] w' fun e w'' => e = .returned (.agg (cells8 (ixKey (nm nmS))).toArray) ∧ Below w'.heap.size w' w'') := fun w' hb => key_any nmS (by omega) w' (hB.below hb hB.1)
  have hSaid : Hid (∀ w', Calls Tryd.prog 87 #[.agg cs] w' fun e w'' => e = .returned (.agg sp) ∧ Below w'.heap.size w' w'') := fun w' => by rw [← hcs.out, ← hsp.out]; exact said_any nmS f cnt ch hch d hd A n c w'
  have hChk : Hid (∀ w', Below w.heap.size w w' → Calls Tryd.prog 85 #[.int .i64 s, .agg (cells8 root).toArray, .agg (cells8 (ixKey (nm nmS))).toArray, .agg sp] w' fun e w'' => e = .returned (.int .i64 (spCheck s root (ixKey (nm nmS)) f cnt ch d n ds)) ∧ Below w'.heap.size w' w'') := fun w' hb => check_any root (ixKey (nm nmS)) hrt hkl sp f cnt ch d hch hd A n c hSp s ds w' (hB.below hb hB.1) (hr.below hb)
  rw [hcs.out]
  cases hok : okIx nmS f cnt ch d n with
  | false =>
    rw [shows_no hok]
    have hEnc : Hid (Calls Tryd.prog 84 #[.agg cs] w1 fun e w' => ∃ v, e = .returned (.tuple #[v, .int .i64 170]) ∧ Below w1.heap.size w1 w') := by
      rw [← hcs.out]
      refine (encIdx_any nmS (by omega) f cnt ch hch d hd ds A n c w1 (hr.below hb1.out)).mono ?_
      rintro e w' ⟨A4, c4, b, err, rfl, -, h | h, hb⟩
      · have := h.1
        unfold idxWant at this
        rw [hr.1, hok] at this
        cases this
      · rw [h.2.2]
        exact ⟨_, rfl, hb⟩
    clear hr hch hd hrt hSp hok hKey hSaid hChk i0 hkl hB hnm
    go_enter Tryd.func35, Tryd.ntmps35
    go_upto_region 1 with fail
    change Code.wp _ _ _ _ ((w.alloc (.cells (cells8 root).toArray 23)).alloc (.cells cs 70))
    rw [← hw1.out]
    go_wp2_with (first
      | ((with_reducible change wpList _ _ _ ({ dst := some 10, op := _, type := _, pos := _, after := _, guard := _ } :: _) _ _); refine wpList_load_row (o := ⟨some 10, _, _, _, _, _⟩) rfl 70 (.tmp 5) rfl ((w.heap.size + 1)) rfl 70 (cs) (0, 0) _ hP1.out Tryd.underlying70 rfl hsz.out ?_)
      | (go_at_call 84; refine hEnc.out.mono ?_; rintro e w2 ⟨v2, rfl, hk⟩; have hk2 : Hid (Below w1.heap.size w1 w2) := hk; have hb2 : Hid (Below w.heap.size w w2) := hb1.out.trans (hk.mono hb1.out.size); clear hk hEnc))
    go_ret
    exact ⟨rfl, hb2.out⟩
  | true =>
    rw [shows_yes hok]
    obtain ⟨ans, hans⟩ : ∃ x, spCheck s root (ixKey (nm nmS)) f cnt ch d n ds = x := ⟨_, rfl⟩
    rw [hans] at hChk ⊢
    obtain ⟨ky, hky⟩ : ∃ x, ixKey (nm nmS) = x := ⟨_, rfl⟩
    rw [hky] at hChk hKey hkl
    have Fy := Lib.hid (fit (x := ky) hkl)
    have hEnc : Hid (Calls Tryd.prog 84 #[.agg cs] w1 fun e w' => ∃ v, e = .returned (.tuple #[v, .int .i64 0]) ∧ Below w1.heap.size w1 w') := by
      rw [← hcs.out]
      refine (encIdx_any nmS (by omega) f cnt ch hch d hd ds A n c w1 (hr.below hb1.out)).mono ?_
      rintro e w' ⟨A4, c4, b, err, rfl, -, h | h, hb⟩
      · rw [h.2]
        exact ⟨_, rfl, hb⟩
      · have := h.1
        unfold idxWant at this
        rw [hr.1, hok] at this
        cases this
    replace i0 := Lib.hid i0
    clear hr hch hd hrt hSp hok hans hky hkl hB hnm
    go_enter Tryd.func35, Tryd.ntmps35
    go_upto_region 1 with fail
    change Code.wp _ _ _ _ ((w.alloc (.cells (cells8 root).toArray 23)).alloc (.cells cs 70))
    rw [← hw1.out]
    go_wp2_with (first
      | ((with_reducible change wpList _ _ _ ({ dst := some 10, op := _, type := _, pos := _, after := _, guard := _ } :: _) _ _); refine wpList_load_row (o := ⟨some 10, _, _, _, _, _⟩) rfl 70 (.tmp 5) rfl ((w.heap.size + 1)) rfl 70 (cs) (0, 0) _ hP1.out Tryd.underlying70 rfl hsz.out ?_)
      | (go_at_call 84; refine hEnc.out.mono ?_; rintro e w2 ⟨v2, rfl, hk⟩; have hk2 : Hid (Below w1.heap.size w1 w2) := hk; have hb2 : Hid (Below w.heap.size w w2) := hb1.out.trans (hk.mono hb1.out.size); clear hk hEnc))
    have hR2 : Hid (Blk w2 w.heap.size 23 (cells8 root).toArray) := (hk2.out.block _ hR1.out.lt).trans hR1.out
    have hP2 : Hid (Blk w2 (w.heap.size + 1) 70 cs) := (hk2.out.block _ hP1.out.lt).trans hP1.out
    refine q_region (Class w2) (by kernel_rfl) (by kernel_rfl) (Class.mk_ ((Below.refl _ _).drew)) ?_
    refine q_move rfl (.tmp 0) rfl ?_
    (intro K hK; go_simp; refine hK _ ?_; clear hK K)
    refine q_row rfl 23 (.tmp 4) rfl w.heap.size rfl 23 ((cells8 root).toArray) (0, 0) _ (fun w' hw' => (hw'.below.block _ hR2.out.lt).trans hR2.out) Tryd.underlying23 rfl Fr.out.size ?_
    (intro K hK; go_simp; refine hK _ ?_; clear hK K)
    refine q_val (v := .pointer (some ⟨w.heap.size + 1, 0, none⟩)) rfl (fun w' hw' => by go_simp) ?_
    (intro K hK; go_simp; refine hK _ ?_; clear hK K)
    refine q_val (v := .string nmS) rfl (fun w' hw' => by have h : w'.cell? ⟨w.heap.size + 1, 0, none⟩ = some (.string nmS) := ((show Blk w' (w.heap.size + 1) 70 cs from (hw'.below.block _ hP2.out.lt).trans hP2.out).cell 0).trans i0.out; go_simp) ?_
    (intro K hK; go_simp; refine hK _ ?_; clear hK K)
    refine q_fn (v := .agg (cells8 ky).toArray) (args := #[.string nmS]) rfl _ _ rfl rfl Tryd.func86 (by kernel_rfl) (by kernel_rfl) (fun w' hw' => (hKey.out w' (hb2.out.trans (hw'.below.mono hb2.out.size))).mono (fun e w'' ⟨he, hb⟩ => ⟨he, hw'.next hb⟩)) ?_
    (intro K hK; go_simp; refine hK _ ?_; clear hK K)
    refine q_row rfl 70 (.tmp 5) rfl (w.heap.size + 1) rfl 70 (cs) (0, 0) _ (fun w' hw' => (hw'.below.block _ hP2.out.lt).trans hP2.out) Tryd.underlying70 rfl hsz.out ?_
    (intro K hK; go_simp; refine hK _ ?_; clear hK K)
    refine q_fn (v := .agg sp) (args := #[.agg cs]) rfl _ _ rfl rfl Tryd.func87 (by kernel_rfl) (by kernel_rfl) (fun w' hw' => (hSaid.out w').mono (fun e w'' ⟨he, hb⟩ => ⟨he, hw'.next hb⟩)) ?_
    (intro K hK; go_simp; refine hK _ ?_; clear hK K)
    refine q_fn (v := .int .i64 ans) (args := #[.int .i64 s, .agg (cells8 root).toArray, .agg (cells8 ky).toArray, .agg sp]) rfl _ _ rfl rfl Tryd.func85 (by kernel_rfl) (by kernel_rfl) (fun w' hw' => (hChk.out w' (hb2.out.trans (hw'.below.mono hb2.out.size))).mono (fun e w'' ⟨he, hb⟩ => ⟨he, hw'.next hb⟩)) ?_
    (intro K hK; go_simp; refine hK _ ?_; clear hK K)
    refine q_val (v := .int .i64 ans) rfl (fun w' hw' => by go_simp) ?_
    (intro K hK; go_simp; refine hK _ ?_; clear hK K)
    refine q_nil ?_
    intro w7 hw7
    have h7 : Hid (Below w2.heap.size w2 w7) := hw7.below
    go_wp2_with fail
    go_ret
    exact ⟨rfl, hb2.out.trans (h7.out.mono hb2.out.size)⟩

set_option maxRecDepth 100000 in
set_option maxHeartbeats 2000000 in
theorem refshows_any (root : Text) (hrt : root.length = 32) (nmS : ByteArray) (hnm : nmS.size < 140737488355327) (f : Bool) (cnt : Int) (ch d : Text) (hch : ch.length = 32) (hd : d.length = 32) (A : Option Addr) (n c : Nat) (s : Int) (ds : List Text) (w : World) (hs63 : s < 9223372036854775808) (hr : RdD w A n ds) :
    Calls Tryd.prog 36 #[.int .i64 s, .agg (cells8 root).toArray, .agg (idxCells nmS f (entC cnt ch) d A n c).toArray] w fun e w' => e = .returned (.int .i64 (showsOf s root nmS f cnt ch d n ds)) ∧ Below w.heap.size w w' := by
  obtain ⟨cs, hcs⟩ : ∃ cs : Array Value, Hid ((idxCells nmS f (entC cnt ch) d A n c).toArray = cs) := ⟨_, Lib.hid rfl⟩
  have i0 : cs[0]? = some (.string nmS) := by rw [← hcs.out, List.getElem?_toArray]; exact idx_name
  have hsz : Hid ((Tryd.prog.info? 70).map (·.size) = some cs.size) := by show _ = _; rw [← hcs.out, List.size_toArray, idx_len (entC_len hch) hd]; exact sizeIx
  obtain ⟨sp, hsp⟩ : ∃ sp : Array Value, Hid ((spCells f (entC cnt ch) d A n c).toArray = sp) := ⟨_, Lib.hid rfl⟩
  have hSp : Sp sp f cnt ch d A n c := by rw [← hsp.out]; exact Sp.of f cnt hch hd A n c
  obtain ⟨w1, hw1⟩ : ∃ w1, Hid (w1 = (w.alloc (.cells (cells8 root).toArray 23)).alloc (.cells cs 70)) := ⟨_, rfl⟩
  have hb1 : Hid (Below w.heap.size w w1) := by show Below _ _ _; rw [hw1.out]; exact ((Below.refl _ w).alloc (Nat.le_refl _) _).alloc (by simp) _
  have hR1 : Hid (Blk w1 w.heap.size 23 (cells8 root).toArray) := by show Blk _ _ _ _; rw [hw1.out]; exact (Blk.new w _ _).alloc _
  have hP1 : Hid (Blk w1 (w.heap.size + 1) 70 cs) := by
    show Blk _ _ _ _
    rw [hw1.out]
    have := Blk.new (w.alloc (.cells (cells8 root).toArray 23)) 70 cs
    rwa [show (w.alloc (.cells (cells8 root).toArray 23)).heap.size = w.heap.size + 1 by simp] at this
  have Fr := Lib.hid (fit (x := root) hrt)
  have hkl := ixKey_len (nm nmS)
  have hKey : Hid (∀ w', Below w.heap.size w w' → Calls Tryd.prog 90 #[.string nmS] w' fun e w'' => e = .returned (.agg (cells8 (ixKey (nm nmS))).toArray) ∧ Below w'.heap.size w' w'') := fun w' _ => refkey_any nmS hnm w'
  have hSaid : Hid (∀ w', Calls Tryd.prog 91 #[.agg cs] w' fun e w'' => e = .returned (.agg sp) ∧ Below w'.heap.size w' w'') := fun w' => by rw [← hcs.out, ← hsp.out]; exact refsaid_any nmS f cnt ch hch d hd A n c w'
  have hChk : Hid (∀ w', Below w.heap.size w w' → Calls Tryd.prog 89 #[.int .i64 s, .agg (cells8 root).toArray, .agg (cells8 (ixKey (nm nmS))).toArray, .agg sp] w' fun e w'' => e = .returned (.int .i64 (spCheck s root (ixKey (nm nmS)) f cnt ch d n ds)) ∧ Below w'.heap.size w' w'') := fun w' hb => refcheck_any root (ixKey (nm nmS)) hrt hkl sp f cnt ch d hch hd A n c hSp s hs63 ds w' (hr.below hb)
  rw [hcs.out]
  cases hok : okIx nmS f cnt ch d n with
  | false =>
    rw [shows_no hok]
    have hEnc : Hid (Calls Tryd.prog 88 #[.agg cs] w1 fun e w' => e = .returned (.slice none 0 0) ∧ Below w1.heap.size w1 w') := by
      rw [← hcs.out]
      exact refidx_no nmS f cnt ch hch d hd A n c hok w1
    clear hr hch hd hrt hSp hok hKey hSaid hChk i0 hkl hs63 hnm
    go_enter Tryd.func36, Tryd.ntmps36
    go_upto_region 1 with fail
    change Code.wp _ _ _ _ ((w.alloc (.cells (cells8 root).toArray 23)).alloc (.cells cs 70))
    rw [← hw1.out]
    go_wp2_with (first
      | ((with_reducible change wpList _ _ _ ({ dst := some 7, op := _, type := _, pos := _, after := _, guard := _ } :: _) _ _); refine wpList_load_row (o := ⟨some 7, _, _, _, _, _⟩) rfl 70 (.tmp 5) rfl ((w.heap.size + 1)) rfl 70 (cs) (0, 0) _ hP1.out Tryd.underlying70 rfl hsz.out ?_)
      | (go_at_call 88; refine hEnc.out.mono ?_; rintro e w2 ⟨rfl, hk⟩; have hk2 : Hid (Below w1.heap.size w1 w2) := hk; have hb2 : Hid (Below w.heap.size w w2) := hb1.out.trans (hk.mono hb1.out.size); have X4 := fun ww => Lib.run_eql_slice_nil (P := Tryd.prog) ww 27 5 none 0 0 0 0 Tryd.underlying27; clear hk hEnc))
    go_ret
    exact ⟨rfl, hb2.out⟩
  | true =>
    rw [shows_yes hok]
    obtain ⟨ans, hans⟩ : ∃ x, spCheck s root (ixKey (nm nmS)) f cnt ch d n ds = x := ⟨_, rfl⟩
    rw [hans] at hChk ⊢
    obtain ⟨ky, hky⟩ : ∃ x, ixKey (nm nmS) = x := ⟨_, rfl⟩
    rw [hky] at hChk hKey hkl
    have Fy := Lib.hid (fit (x := ky) hkl)
    have hEnc : Hid (Calls Tryd.prog 88 #[.agg cs] w1 fun e w' => ∃ g k c', e = .returned (.slice (some ⟨g, 0, none⟩) k c') ∧ Below w1.heap.size w1 w') := by
      rw [← hcs.out]
      refine (refidx_yes nmS f cnt ch hch d hd ds A n c hok w1 (hr.below hb1.out)).mono ?_
      rintro e w' ⟨v, rfl, ho, hb⟩
      obtain ⟨g, c', rfl, -, -⟩ := ho.form (by have := idxB_len (s := nmS) (f := f) (cnt := cnt) (ch := ch) (d := d) (ds := ds) hch hd hr.2.1; rw [this]; cases f <;> simp <;> omega)
      exact ⟨g, _, c', rfl, hb⟩
    replace i0 := Lib.hid i0
    clear hr hch hd hrt hSp hok hans hky hkl hs63 hnm
    go_enter Tryd.func36, Tryd.ntmps36
    go_upto_region 1 with fail
    change Code.wp _ _ _ _ ((w.alloc (.cells (cells8 root).toArray 23)).alloc (.cells cs 70))
    rw [← hw1.out]
    go_wp2_with (first
      | ((with_reducible change wpList _ _ _ ({ dst := some 7, op := _, type := _, pos := _, after := _, guard := _ } :: _) _ _); refine wpList_load_row (o := ⟨some 7, _, _, _, _, _⟩) rfl 70 (.tmp 5) rfl ((w.heap.size + 1)) rfl 70 (cs) (0, 0) _ hP1.out Tryd.underlying70 rfl hsz.out ?_)
      | (go_at_call 88; refine hEnc.out.mono ?_; rintro e w2 ⟨g2, k2, c2, rfl, hk⟩; have X4 := fun ww => Lib.run_eql_slice_nil (P := Tryd.prog) ww 27 5 (some ⟨g2, 0, none⟩) k2 c2 0 0 Tryd.underlying27; have hk2 : Hid (Below w1.heap.size w1 w2) := hk; have hb2 : Hid (Below w.heap.size w w2) := hb1.out.trans (hk.mono hb1.out.size); clear hk hEnc))
    have hR2 : Hid (Blk w2 w.heap.size 23 (cells8 root).toArray) := (hk2.out.block _ hR1.out.lt).trans hR1.out
    have hP2 : Hid (Blk w2 (w.heap.size + 1) 70 cs) := (hk2.out.block _ hP1.out.lt).trans hP1.out
    refine q_region (Class w2) (by kernel_rfl) (by kernel_rfl) (Class.mk_ ((Below.refl _ _).drew)) ?_
    refine q_move rfl (.tmp 0) rfl ?_
    (intro K hK; go_simp; refine hK _ ?_; clear hK K)
    refine q_row rfl 23 (.tmp 4) rfl w.heap.size rfl 23 ((cells8 root).toArray) (0, 0) _ (fun w' hw' => (hw'.below.block _ hR2.out.lt).trans hR2.out) Tryd.underlying23 rfl Fr.out.size ?_
    (intro K hK; go_simp; refine hK _ ?_; clear hK K)
    refine q_val (v := .pointer (some ⟨w.heap.size + 1, 0, none⟩)) rfl (fun w' hw' => by go_simp) ?_
    (intro K hK; go_simp; refine hK _ ?_; clear hK K)
    refine q_val (v := .string nmS) rfl (fun w' hw' => by have h : w'.cell? ⟨w.heap.size + 1, 0, none⟩ = some (.string nmS) := ((show Blk w' (w.heap.size + 1) 70 cs from (hw'.below.block _ hP2.out.lt).trans hP2.out).cell 0).trans i0.out; go_simp) ?_
    (intro K hK; go_simp; refine hK _ ?_; clear hK K)
    refine q_fn (v := .agg (cells8 ky).toArray) (args := #[.string nmS]) rfl _ _ rfl rfl Tryd.func90 (by kernel_rfl) (by kernel_rfl) (fun w' hw' => (hKey.out w' (hb2.out.trans (hw'.below.mono hb2.out.size))).mono (fun e w'' ⟨he, hb⟩ => ⟨he, hw'.next hb⟩)) ?_
    (intro K hK; go_simp; refine hK _ ?_; clear hK K)
    refine q_row rfl 70 (.tmp 5) rfl (w.heap.size + 1) rfl 70 (cs) (0, 0) _ (fun w' hw' => (hw'.below.block _ hP2.out.lt).trans hP2.out) Tryd.underlying70 rfl hsz.out ?_
    (intro K hK; go_simp; refine hK _ ?_; clear hK K)
    refine q_fn (v := .agg sp) (args := #[.agg cs]) rfl _ _ rfl rfl Tryd.func91 (by kernel_rfl) (by kernel_rfl) (fun w' hw' => (hSaid.out w').mono (fun e w'' ⟨he, hb⟩ => ⟨he, hw'.next hb⟩)) ?_
    (intro K hK; go_simp; refine hK _ ?_; clear hK K)
    refine q_fn (v := .int .i64 ans) (args := #[.int .i64 s, .agg (cells8 root).toArray, .agg (cells8 ky).toArray, .agg sp]) rfl _ _ rfl rfl Tryd.func89 (by kernel_rfl) (by kernel_rfl) (fun w' hw' => (hChk.out w' (hb2.out.trans (hw'.below.mono hb2.out.size))).mono (fun e w'' ⟨he, hb⟩ => ⟨he, hw'.next hb⟩)) ?_
    (intro K hK; go_simp; refine hK _ ?_; clear hK K)
    refine q_val (v := .int .i64 ans) rfl (fun w' hw' => by go_simp) ?_
    (intro K hK; go_simp; refine hK _ ?_; clear hK K)
    refine q_nil ?_
    intro w7 hw7
    have h7 : Hid (Below w2.heap.size w2 w7) := hw7.below
    go_wp2_with fail
    go_ret
    exact ⟨rfl, hb2.out.trans (h7.out.mono hb2.out.size)⟩

end Go.Proofs.YtmdkfhfkdcbpgaaDoorR.Shows

namespace Go.Proofs.YtmdkfhfkdcbpgaaDoorR.AuditShows
open Go Go.RowKit Go.Proofs.YtmdkfhfkdcbpgaaDoorR Go.Proofs.YtmdkfhfkdcbpgaaDoorR.Mem Go.Proofs.YtmdkfhfkdcbpgaaDoorR.Sha Go.Proofs.YtmdkfhfkdcbpgaaDoorR.Bytes Go.Proofs.YtmdkfhfkdcbpgaaDoorR.HashMem Go.Proofs.YtmdkfhfkdcbpgaaDoorR.DigestMem Go.Proofs.YtmdkfhfkdcbpgaaDoorR.QuietTail Go.Proofs.YtmdkfhfkdcbpgaaDoorR.Grown Go.Proofs.YtmdkfhfkdcbpgaaDoorR.TreeMem Go.Proofs.YtmdkfhfkdcbpgaaDoorR.TreeRoot Go.Proofs.YtmdkfhfkdcbpgaaDoorR.Held Go.Proofs.YtmdkfhfkdcbpgaaDoorR.Want Go.Proofs.YtmdkfhfkdcbpgaaDoorR.Book Go.Proofs.YtmdkfhfkdcbpgaaDoorR.Book2 Go.Proofs.YtmdkfhfkdcbpgaaDoorR.Law20 Go.Proofs.YtmdkfhfkdcbpgaaDoorR.StructEq Go.Proofs.YtmdkfhfkdcbpgaaDoorR.ProofIdx3 Go.Proofs.YtmdkfhfkdcbpgaaDoorR.IdxAny Go.Proofs.YtmdkfhfkdcbpgaaDoorR.SparseP Go.Proofs.YtmdkfhfkdcbpgaaDoorR.SpMem Go.Proofs.YtmdkfhfkdcbpgaaDoorR.Shows

theorem _root_.Go.Proofs.YtmdkfhfkdcbpgaaDoorR.Mem.Blk.onS {w w' : World} {g : Nat} {t : TypeId} {cs : Array Value} (h : Blk w g t cs) (hb : Below w.heap.size w w') : Blk w' g t cs := (hb.block g h.lt).trans h
def zI : Array Value := #[Value.string ⟨#[]⟩, Value.bool false, Value.int .i64 0, Value.int .u8 0, Value.int .u8 0, Value.int .u8 0, Value.int .u8 0, Value.int .u8 0, Value.int .u8 0, Value.int .u8 0, Value.int .u8 0, Value.int .u8 0, Value.int .u8 0, Value.int .u8 0, Value.int .u8 0, Value.int .u8 0, Value.int .u8 0, Value.int .u8 0, Value.int .u8 0, Value.int .u8 0, Value.int .u8 0, Value.int .u8 0, Value.int .u8 0, Value.int .u8 0, Value.int .u8 0, Value.int .u8 0, Value.int .u8 0, Value.int .u8 0, Value.int .u8 0, Value.int .u8 0, Value.int .u8 0, Value.int .u8 0, Value.int .u8 0, Value.int .u8 0, Value.int .u8 0, Value.int .u8 0, Value.int .u8 0, Value.int .u8 0, Value.int .u8 0, Value.int .u8 0, Value.int .u8 0, Value.int .u8 0, Value.int .u8 0, Value.int .u8 0, Value.int .u8 0, Value.int .u8 0, Value.int .u8 0, Value.int .u8 0, Value.int .u8 0, Value.int .u8 0, Value.int .u8 0, Value.int .u8 0, Value.int .u8 0, Value.int .u8 0, Value.int .u8 0, Value.int .u8 0, Value.int .u8 0, Value.int .u8 0, Value.int .u8 0, Value.int .u8 0, Value.int .u8 0, Value.int .u8 0, Value.int .u8 0, Value.int .u8 0, Value.int .u8 0, Value.int .u8 0, Value.int .u8 0, Value.slice none 0 0]
theorem zI_size : zI.size = 68 := rfl
theorem set_wayS {s : ByteArray} {f : Bool} {ent : List Value} {d : Text} {A A' : Option Addr} {n c n' c' : Nat} (he : ent.length = 33) (hd : d.length = 32) : (idxCells s f ent d A n c).toArray.setIfInBounds 67 (.slice A' n' c') = (idxCells s f ent d A' n' c').toArray := by
  have h : ([Value.string s, .bool f] ++ ent ++ cells8 d).length = 67 := by simp [he, cells8_len, hd]
  unfold idxCells
  rw [List.setIfInBounds_toArray, List.set_append_right _ _ (by omega), h]
  rfl
theorem size_idx {s : ByteArray} {f : Bool} {cnt : Int} {ch d : Text} {A : Option Addr} {n c : Nat} (hch : ch.length = 32) (hd : d.length = 32) : (Tryd.prog.info? 70).map (·.size) = some (idxCells s f (entC cnt ch) d A n c).toArray.size := by rw [List.size_toArray, idx_len (entC_len hch) hd]; exact sizeIx
theorem eq_idx {s : ByteArray} {f : Bool} {cnt : Int} {ch d : Text} {A : Option Addr} {n c : Nat} (hch : ch.length = 32) (hd : d.length = 32) : zI.size = (idxCells s f (entC cnt ch) d A n c).toArray.size := by rw [zI_size, List.size_toArray, idx_len (entC_len hch) hd]
theorem one_idx {s : ByteArray} {f : Bool} {cnt : Int} {ch d : Text} {A : Option Addr} {n c : Nat} : (idxCells s f (entC cnt ch) d A n c).toArray.all (·.oneCell') = true := by
  rw [List.all_toArray]
  refine List.all_eq_true.2 fun v hv => ?_
  unfold idxCells at hv
  simp only [List.mem_append, List.mem_cons, List.not_mem_nil, or_false] at hv
  rcases hv with (((rfl | rfl) | hv) | hv) | rfl
  · rfl
  · rfl
  · exact ent_one cnt ch v hv
  · exact cells8_one d v hv
  · rfl

set_option maxRecDepth 100000 in
set_option maxHeartbeats 4000000 in
theorem auditShows_any (s : Int) (hs63 : s < 9223372036854775808) (root : Text) (hrt : root.length = 32) (nmS : ByteArray) (hnm : nmS.size < 140737488355327) (f : Bool) (cnt : Int) (ch : Text) (hch : ch.length = 32) (d : Text) (hd : d.length = 32) (es : List Text) (m : Nat) (A : Option Addr) (c : Nat) (hmc : m ≤ c) (w : World) (hB : Base w) (hr0 : RdD w A m es) :
    Calls Tryd.prog 6 #[.int .i64 s, .agg (cells8 root).toArray, .agg (idxCells nmS f (entC cnt ch) d A m c).toArray] w fun e w' => e = .returned (.bool true) ∧ Below w.heap.size w w' := by
  obtain ⟨n, hn⟩ : ∃ n, min m 300 = n := ⟨_, rfl⟩
  obtain ⟨ds, hds⟩ : ∃ ds, es.take n = ds := ⟨_, rfl⟩
  have hr : RdD w A n ds := by rw [← hds]; exact hr0.take_ n (by omega)
  have hn300 : n ≤ 300 := by omega
  have hF : Hid (∀ w', Calls Tryd.prog 32 #[.slice A m c, .int .i64 300] w' fun e w'' => e = .returned (.slice A n c) ∧ w' = w'') := fun w' => by
    have := few20_any A m c hmc w'
    rwa [hn] at this
  have hRo := Lib.hid (fun w' (hb : Below w.heap.size w w') => roomyD_any ds n (by omega) A c mk0 mk0_len w' (hr.below hb))
  have hIt := Lib.hid (fun w' g (hg : RowD w' g (ds ++ List.replicate 80 mk0)) (hb : Below w.heap.size w w') => intactD_any ds n (by omega) g A c mk0 mk0_len w' (hr.below hb) hg)
  have hG0 := Lib.hid (fun w' g (hg : RowD w' g (ds ++ List.replicate 80 mk0)) => (by
    have := (hg.rd (hr.2.1.append_ (Digs.rep 80 mk0_len))).take_ n (by simp [hr.1])
    rwa [List.take_append_of_le_length (by rw [hr.1]; exact Nat.le_refl _), List.take_of_length_le (by rw [hr.1]; exact Nat.le_refl _)] at this : RdD w' (some ⟨g, 0, none⟩) n ds))
  have hS := Lib.hid (fun (g : Nat) => run_headD (A := some ⟨g, 0, none⟩) (n := n + 80) (c := n + 80) (k := n) (by omega) (n : Int) rfl)
  obtain ⟨an, han⟩ : ∃ a, Hid (showsOf s root nmS f cnt ch d n ds = a) := ⟨_, Lib.hid rfl⟩
  have hA : Hid (∀ g w', Below w.heap.size w w' → RowD w' g (ds ++ List.replicate 80 mk0) → Calls Tryd.prog 35 #[.int .i64 s, .agg (cells8 root).toArray, .agg (idxCells nmS f (entC cnt ch) d (some ⟨g, 0, none⟩) n (n + 80)).toArray] w' fun e w'' => e = .returned (.int .i64 an) ∧ Below w'.heap.size w' w'') := fun g w' hb hg => by
    have := shows_any root hrt nmS hnm f cnt ch d hch hd (some ⟨g, 0, none⟩) n (n + 80) s ds w' (hB.below hb hB.1) (hG0.out w' g hg)
    rwa [han.out] at this
  have hRf : Hid (∀ w', Below w.heap.size w w' → Calls Tryd.prog 36 #[.int .i64 s, .agg (cells8 root).toArray, .agg (idxCells nmS f (entC cnt ch) d A n c).toArray] w' fun e w'' => e = .returned (.int .i64 an) ∧ Below w'.heap.size w' w'') := fun w' hb => by
    have := refshows_any root hrt nmS hnm f cnt ch d hch hd A n c s ds w' hs63 (hr.below hb)
    rwa [han.out] at this
  have hMK : Hid (∀ w', Calls Tryd.prog 34 #[] w' fun e w'' => e = .returned (.agg (cells8 mk0).toArray) ∧ Below w'.heap.size w' w'') := stranger20_any
  have Fr := Lib.hid (fit (x := root) hrt)
  have hb0 : Hid (Below w.heap.size w ((w.alloc (.cells (cells8 root).toArray 23)).alloc (.cells (idxCells nmS f (entC cnt ch) d A m c).toArray 70))) := ((Below.refl _ w).alloc (Nat.le_refl _) _).alloc (by simp) _
  have hR0 : Hid (Blk ((w.alloc (.cells (cells8 root).toArray 23)).alloc (.cells (idxCells nmS f (entC cnt ch) d A m c).toArray 70)) w.heap.size 23 (cells8 root).toArray) := (Blk.new w _ _).alloc _
  have hP0 : Hid (Blk ((w.alloc (.cells (cells8 root).toArray 23)).alloc (.cells (idxCells nmS f (entC cnt ch) d A m c).toArray 70)) (w.heap.size + 1) 70 (idxCells nmS f (entC cnt ch) d A m c).toArray) := by
    have := Blk.new (w.alloc (.cells (cells8 root).toArray 23)) 70 (idxCells nmS f (entC cnt ch) d A m c).toArray
    rwa [show (w.alloc (.cells (cells8 root).toArray 23)).heap.size = w.heap.size + 1 by simp] at this
  have c0 : ((w.alloc (.cells (cells8 root).toArray 23)).alloc (.cells (idxCells nmS f (entC cnt ch) d A m c).toArray 70)).cell? ⟨w.heap.size + 1, 67, none⟩ = some (.slice A m c) := by rw [hP0.out.cell 67, List.getElem?_toArray]; exact idx_way (entC_len hch) hd
  have f0 := hP0.out.frozen 67
  replace hch := Lib.hid hch
  replace hd := Lib.hid hd
  clear hr0 hr hds hn300 hn hmc hG0 hs63 hrt hnm hB han
  go_enter Tryd.func6, Tryd.ntmps6
  go_wp2_with fail
  refine (hF.out _).mono ?_
  rintro e w0 ⟨rfl, rfl⟩
  generalize ((w.alloc (.cells (cells8 root).toArray 23)).alloc (.cells (idxCells nmS f (entC cnt ch) d A m c).toArray 70)) = w0 at *
  have hb : Hid (Below w.heap.size w (w0.setCell ⟨w.heap.size + 1, 67, none⟩ (.slice A n c))) := hb0.out.setCell (by show w.heap.size ≤ w.heap.size + 1; omega) _
  have hP : Hid (Blk (w0.setCell ⟨w.heap.size + 1, 67, none⟩ (.slice A n c)) (w.heap.size + 1) 70 (idxCells nmS f (entC cnt ch) d A n c).toArray) := by
    have := hP0.out.set_ 67 (.slice A n c)
    rw [set_wayS (entC_len hch.out) hd.out] at this
    exact this
  have hR : Hid (Blk (w0.setCell ⟨w.heap.size + 1, 67, none⟩ (.slice A n c)) w.heap.size 23 (cells8 root).toArray) := hR0.out.far (by show w.heap.size ≠ w.heap.size + 1; omega) _
  clear hb0 hP0 hR0
  go_wp2_with fail
  clear c0 f0
  generalize w0.setCell ⟨w.heap.size + 1, 67, none⟩ (.slice A n c) = w1 at *
  have hc2 : Hid (∀ w', Below w1.heap.size w1 w' → w'.cell? ⟨w.heap.size + 1, 67, none⟩ = some (.slice A n c)) := fun w' h => by rw [(Blk.onS hP.out h).cell 67, List.getElem?_toArray]; exact idx_way (entC_len hch.out) hd.out
  clear hF
  have s0 : Hid (Below w1.heap.size w1 w1.drew) := (Below.refl _ _).drew
  refine held_start (fun w' => Below w1.heap.size w1 w') 5 rfl (by kernel_rfl) ?_
  refine held_take (i := 0) (v := .pointer (some ⟨w.heap.size + 1, 67, none⟩)) rfl (by kernel_rfl) (by kernel_rfl) (by kernel_rfl) (fun _ _ _ h => h) s0.out (by rfl) (fun w' hw' => by go_simp) ?_
  (intro K hK; go_simp; refine hK _ ?_; clear hK K)
  refine held_take (i := 1) (v := .slice A n c) rfl (by kernel_rfl) (by kernel_rfl) (by kernel_rfl) (fun _ _ _ h => h) s0.out (by rfl) (fun w' hw' => by have h := hc2.out w' hw'; go_simp) ?_
  (intro K hK; go_simp; refine hK _ ?_; clear hK K)
  refine held_only (i := 2) rfl (by kernel_rfl) (by rfl) (fun K hK => ?_)
  refine wp_fn (R := fun v w'' => v = .agg (cells8 mk0).toArray ∧ Below w1.heap.size w1 w'') (args := #[]) _ _ rfl rfl Tryd.func34 (by kernel_rfl) (by kernel_rfl) ((hMK.out _).mono fun e w'' ⟨he, hb⟩ => ⟨_, he, rfl, s0.out.trans hb⟩) ?_
  rintro qq w2 ⟨rfl, h2⟩
  replace h2 := Lib.hid h2
  go_simp
  refine hK _ _ h2.out ?_
  clear hK K
  refine held_only (i := 3) rfl (by kernel_rfl) (by rfl) (fun K hK => ?_)
  refine wp_fn (R := fun v w'' => ∃ g, v = .slice (some ⟨g, 0, none⟩) (n + 80) (n + 80) ∧ RowD w'' g (ds ++ List.replicate 80 mk0) ∧ Below w1.heap.size w1 w'') (args := #[.slice A n c, .agg (cells8 mk0).toArray]) _ _ rfl rfl Tryd.func33 (by kernel_rfl) (by kernel_rfl) ((hRo.out w2 (hb.out.trans (h2.out.mono hb.out.size))).mono fun e w'' ⟨g, he, _, hg, hk⟩ => ⟨_, he, g, rfl, hg, h2.out.trans (hk.mono h2.out.size)⟩) ?_
  rintro qq w3 ⟨g, rfl, hG, h3⟩
  replace hb := Lib.hid (hb.out.trans (h3.mono hb.out.size))
  replace hP := Lib.hid (Blk.onS hP.out h3)
  replace hR := Lib.hid (Blk.onS hR.out h3)
  replace hG := Lib.hid hG
  replace h3 := Lib.hid h3
  go_simp
  refine hK _ _ h3.out ?_
  clear hK K
  refine held_take (i := 4) (v := .slice (some ⟨g, 0, none⟩) (n + 80) (n + 80)) rfl (by kernel_rfl) (by kernel_rfl) (by kernel_rfl) (fun _ _ _ h => h) h3.out (by rfl) (fun w' hw' => by first | go_simp | rfl) ?_
  (intro K hK; go_simp; refine hK _ ?_; clear hK K)
  refine held_end (by kernel_rfl) ?_
  have hSg := hS.out g
  go_upto_region 5 with (first
    | ((with_reducible change wpList _ _ _ ({ dst := some 17, op := _, type := _, pos := _, after := _, guard := _ } :: _) _ _); refine wpList_load_row (o := ⟨some 17, _, _, _, _, _⟩) rfl 70 (.tmp 5) rfl (w.heap.size + 1) rfl 70 ((idxCells nmS f (entC cnt ch) d A n c).toArray) (0, 0) _ hP.out Tryd.underlying70 rfl (size_idx hch.out hd.out) ?_)
    | ((with_reducible change wpList _ _ _ ({ dst := none, op := Op.store 70 (.tmp 8) _, type := _, pos := _, after := _, guard := _ } :: _) _ _); refine wpList_store_whole (o := ⟨none, _, _, _, _, _⟩) rfl 70 (.tmp 8) (.tmp 17) rfl (w3.heap.size) ((idxCells nmS f (entC cnt ch) d A n c).toArray) rfl rfl 70 (zI) (Blk.new w3 _ _) (size_idx hch.out hd.out) (eq_idx hch.out hd.out) one_idx ?_; intro w4 hB6 hkx; have hk1 := kept_fresh hkx; have hglt : g < w3.heap.size := Blk.lt hG.out; replace hb := Lib.hid (hb.out.trans (hk1.mono hb.out.size)); replace hG := Lib.hid (hG.out.below hk1); have hPlt := hP.out.lt; have hRlt := hR.out.lt; replace hP := Lib.hid (Blk.onS hP.out hk1); replace hR := Lib.hid (Blk.onS hR.out hk1); generalize hg6 : w3.heap.size = g6 at *; have hg6w : Hid (w.heap.size + 1 < g6) := hPlt; have hgg : Hid (g ≠ g6) := (by show _ ≠ _; omega); have c5p : w4.cell? ⟨w.heap.size + 1, 67, none⟩ = some (.slice A n c) := (by rw [hP.out.cell 67, List.getElem?_toArray]; exact idx_way (entC_len hch.out) hd.out); have c6 : w4.cell? ⟨g6, 67, none⟩ = some (.slice A n c) := (by rw [Blk.cell hB6 67, List.getElem?_toArray]; exact idx_way (entC_len hch.out) hd.out); have f6 := Blk.frozen hB6 67; have hkq : Kept (· = g6) w4 (w4.setCell ⟨g6, 67, none⟩ (.slice (some ⟨g, 0, none⟩) n (n + 80))) := (Kept.refl (· = g6) w4).setCell (.inl rfl) _; have hQ : Hid (Blk (w4.setCell ⟨g6, 67, none⟩ (.slice (some ⟨g, 0, none⟩) n (n + 80))) g6 70 (idxCells nmS f (entC cnt ch) d (some ⟨g, 0, none⟩) n (n + 80)).toArray) := (by have := Blk.set_ hB6 67 (.slice (some ⟨g, 0, none⟩) n (n + 80)); rw [set_wayS (entC_len hch.out) hd.out] at this; exact this); replace hP : Hid (Blk (w4.setCell ⟨g6, 67, none⟩ (.slice (some ⟨g, 0, none⟩) n (n + 80))) (w.heap.size + 1) 70 (idxCells nmS f (entC cnt ch) d A n c).toArray) := hP.out.kept hkq (by have := hg6w.out; omega); replace hR : Hid (Blk (w4.setCell ⟨g6, 67, none⟩ (.slice (some ⟨g, 0, none⟩) n (n + 80))) w.heap.size 23 (cells8 root).toArray) := hR.out.kept hkq (by have := hg6w.out; omega); replace hG : Hid (RowD (w4.setCell ⟨g6, 67, none⟩ (.slice (some ⟨g, 0, none⟩) n (n + 80))) g (ds ++ List.replicate 80 mk0)) := Blk.kept hG.out hkq hgg.out; replace hb : Hid (Below w.heap.size w (w4.setCell ⟨g6, 67, none⟩ (.slice (some ⟨g, 0, none⟩) n (n + 80)))) := hb.out.trans (Kept.below_of hkq (by have := hg6w.out; omega) hb.out.size); clear hk1 hkx hB6 hkq hPlt hRlt hg6 hgg hg6w hglt))
  generalize w4.setCell ⟨g6, 67, none⟩ (.slice (some ⟨g, 0, none⟩) n (n + 80)) = w5 at *
  clear c6 f6 c5p hSg hS
  have hc5 : Hid (∀ w', Below w5.heap.size w5 w' → w'.cell? ⟨w.heap.size + 1, 67, none⟩ = some (.slice A n c)) := fun w' h => by rw [(Blk.onS hP.out h).cell 67, List.getElem?_toArray]; exact idx_way (entC_len hch.out) hd.out
  have q1 : (an == an) = true := beq_self_eq_true _
  refine q_region (Class w5) (by kernel_rfl) (by kernel_rfl) (Class.mk_ ((Below.refl _ _).drew)) ?_
  refine q_move rfl (.tmp 0) rfl ?_
  (intro K hK; go_simp; refine hK _ ?_; clear hK K)
  refine q_row rfl 23 (.tmp 4) rfl w.heap.size rfl 23 ((cells8 root).toArray) (0, 0) _ (fun w' hw' => (hw'.below.block _ hR.out.lt).trans hR.out) Tryd.underlying23 rfl Fr.out.size ?_
  (intro K hK; go_simp; refine hK _ ?_; clear hK K)
  refine q_row rfl 70 (.tmp 8) rfl g6 rfl 70 ((idxCells nmS f (entC cnt ch) d (some ⟨g, 0, none⟩) n (n + 80)).toArray) (0, 0) _ (fun w' hw' => (hw'.below.block _ hQ.out.lt).trans hQ.out) Tryd.underlying70 rfl (size_idx hch.out hd.out) ?_
  (intro K hK; go_simp; refine hK _ ?_; clear hK K)
  refine q_fn (v := .int .i64 an) (args := #[.int .i64 s, .agg (cells8 root).toArray, .agg (idxCells nmS f (entC cnt ch) d (some ⟨g, 0, none⟩) n (n + 80)).toArray]) rfl _ _ rfl rfl Tryd.func35 (by kernel_rfl) (by kernel_rfl) (fun w' hw' => (hA.out g w' (hb.out.trans (hw'.below.mono hb.out.size)) (hG.out.below hw'.below)).mono (fun e w'' ⟨he, hb⟩ => ⟨he, hw'.next hb⟩)) ?_
  (intro K hK; go_simp; refine hK _ ?_; clear hK K)
  refine q_move rfl (.tmp 0) rfl ?_
  (intro K hK; go_simp; refine hK _ ?_; clear hK K)
  refine q_row rfl 23 (.tmp 4) rfl w.heap.size rfl 23 ((cells8 root).toArray) (0, 0) _ (fun w' hw' => (hw'.below.block _ hR.out.lt).trans hR.out) Tryd.underlying23 rfl Fr.out.size ?_
  (intro K hK; go_simp; refine hK _ ?_; clear hK K)
  refine q_row rfl 70 (.tmp 5) rfl (w.heap.size + 1) rfl 70 ((idxCells nmS f (entC cnt ch) d A n c).toArray) (0, 0) _ (fun w' hw' => (hw'.below.block _ hP.out.lt).trans hP.out) Tryd.underlying70 rfl (size_idx hch.out hd.out) ?_
  (intro K hK; go_simp; refine hK _ ?_; clear hK K)
  refine q_fn (v := .int .i64 an) (args := #[.int .i64 s, .agg (cells8 root).toArray, .agg (idxCells nmS f (entC cnt ch) d A n c).toArray]) rfl _ _ rfl rfl Tryd.func36 (by kernel_rfl) (by kernel_rfl) (fun w' hw' => (hRf.out w' (hb.out.trans (hw'.below.mono hb.out.size))).mono (fun e w'' ⟨he, hb⟩ => ⟨he, hw'.next hb⟩)) ?_
  (intro K hK; go_simp; refine hK _ ?_; clear hK K)
  refine q_val (v := .bool true) rfl (fun w' hw' => by go_simp) ?_
  (intro K hK; go_simp; refine hK _ ?_; clear hK K)
  refine q_move rfl (.tmp 32) rfl ?_
  (intro K hK; go_simp; refine hK _ ?_; clear hK K)
  refine q_move rfl (.tmp 7) rfl ?_
  (intro K hK; go_simp; refine hK _ ?_; clear hK K)
  refine q_val (v := .pointer (some ⟨w.heap.size + 1, 67, none⟩)) rfl (fun w' hw' => by go_simp) ?_
  (intro K hK; go_simp; refine hK _ ?_; clear hK K)
  refine q_val (v := .slice A n c) rfl (fun w' hw' => by have h := hc5.out w' hw'.below; go_simp) ?_
  (intro K hK; go_simp; refine hK _ ?_; clear hK K)
  refine q_fn (v := .agg (cells8 mk0).toArray) (args := #[]) rfl _ _ rfl rfl Tryd.func34 (by kernel_rfl) (by kernel_rfl) (fun w' hw' => (hMK.out w').mono (fun e w'' ⟨he, hb⟩ => ⟨he, hw'.next hb⟩)) ?_
  (intro K hK; go_simp; refine hK _ ?_; clear hK K)
  refine q_fn (v := .bool true) (args := #[.slice (some ⟨g, 0, none⟩) (n + 80) (n + 80), .slice A n c, .agg (cells8 mk0).toArray]) rfl _ _ rfl rfl Tryd.func37 (by kernel_rfl) (by kernel_rfl) (fun w' hw' => (hIt.out w' g (hG.out.below hw'.below) (hb.out.trans (hw'.below.mono hb.out.size))).mono (fun e w'' ⟨he, hb⟩ => ⟨he, hw'.next hb⟩)) ?_
  (intro K hK; go_simp; refine hK _ ?_; clear hK K)
  refine q_val (v := .bool true) rfl (fun w' hw' => by go_simp) ?_
  (intro K hK; go_simp; refine hK _ ?_; clear hK K)
  refine q_val (v := .bool true) rfl (fun w' hw' => by go_simp) ?_
  (intro K hK; go_simp; refine hK _ ?_; clear hK K)
  refine q_nil ?_
  intro w7 hw7
  have hfin : Hid (Below w.heap.size w w7) := hb.out.trans (hw7.below.mono hb.out.size)
  go_wp2_with fail
  go_ret
  exact ⟨rfl, hfin.out⟩
end Go.Proofs.YtmdkfhfkdcbpgaaDoorR.AuditShows
