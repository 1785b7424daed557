/-
  Texts of the claim, put into one file: TwoEnt.
-/
import Derived.Test.YtmdkfhfkdcbpgaaDoorRZ40
import Derived.Test.YtmdkfhfkdcbpgaaDoorRZ43
import Derived.Test.YtmdkfhfkdcbpgaaDoorRZ35

namespace Go.Proofs.YtmdkfhfkdcbpgaaDoorR.TwoEnt
open Go Go.RowKit Go.Proofs.YtmdkfhfkdcbpgaaDoorR Mem Sha Bytes HashMem DigestMem TreeMem TreeRoot QuietTail Grown Held Want Plain ProofIdx2 ProofIdx3 StructEq IdxAny TwiceP RowsY Extract TwoEv Fill SparseP SparseMeet SpMem Shows Shown

def Z101 : Array Value := #[Value.int .i64 0, Value.int .u8 0, Value.int .u8 0, Value.int .u8 0, Value.int .u8 0, Value.int .u8 0, Value.int .u8 0, Value.int .u8 0, Value.int .u8 0, Value.int .u8 0, Value.int .u8 0, Value.int .u8 0, Value.int .u8 0, Value.int .u8 0, Value.int .u8 0, Value.int .u8 0, Value.int .u8 0, Value.int .u8 0, Value.int .u8 0, Value.int .u8 0, Value.int .u8 0, Value.int .u8 0, Value.int .u8 0, Value.int .u8 0, Value.int .u8 0, Value.int .u8 0, Value.int .u8 0, Value.int .u8 0, Value.int .u8 0, Value.int .u8 0, Value.int .u8 0, Value.int .u8 0, Value.int .u8 0, Value.string ⟨#[]⟩, Value.bool false, Value.int .i64 0, Value.int .u8 0, Value.int .u8 0, Value.int .u8 0, Value.int .u8 0, Value.int .u8 0, Value.int .u8 0, Value.int .u8 0, Value.int .u8 0, Value.int .u8 0, Value.int .u8 0, Value.int .u8 0, Value.int .u8 0, Value.int .u8 0, Value.int .u8 0, Value.int .u8 0, Value.int .u8 0, Value.int .u8 0, Value.int .u8 0, Value.int .u8 0, Value.int .u8 0, Value.int .u8 0, Value.int .u8 0, Value.int .u8 0, Value.int .u8 0, Value.int .u8 0, Value.int .u8 0, Value.int .u8 0, Value.int .u8 0, Value.int .u8 0, Value.int .u8 0, Value.int .u8 0, Value.int .u8 0, Value.int .u8 0, Value.int .u8 0, Value.int .u8 0, Value.int .u8 0, Value.int .u8 0, Value.int .u8 0, Value.int .u8 0, Value.int .u8 0, Value.int .u8 0, Value.int .u8 0, Value.int .u8 0, Value.int .u8 0, Value.int .u8 0, Value.int .u8 0, Value.int .u8 0, Value.int .u8 0, Value.int .u8 0, Value.int .u8 0, Value.int .u8 0, Value.int .u8 0, Value.int .u8 0, Value.int .u8 0, Value.int .u8 0, Value.int .u8 0, Value.int .u8 0, Value.int .u8 0, Value.int .u8 0, Value.int .u8 0, Value.int .u8 0, Value.int .u8 0, Value.int .u8 0, Value.int .u8 0, Value.slice none 0 0]
theorem built_any2 (parts : List (Nat × Value)) : Tryd.prog.built 156 parts = Instr.fill (#[((0 : Nat), (1 : Nat)), (1, 32), (33, 68)][·]?) Z101 parts := by kernel_rfl
theorem built_sh (s : Int) (root : Text) (hr : root.length = 32) (ix : List Value) (hi : ix.length = 68) : Tryd.prog.built 156 [(0, .int .i64 s), (1, .agg (cells8 root).toArray), (2, .agg ix.toArray)] = some (shV s root ix).toArray := by
 have hrl : (cells8 root).length = 32 := by rw [cells8_len, hr]
 rw [built_any2]
 refine (fill_one (place := (#[((0 : Nat), (1 : Nat)), (1, 32), (33, 68)][·]?)) (i := 0) (v := .int .i64 s) (xs := [.int .i64 s]) (old := [.int .i64 0]) (pre := []) (post := List.replicate 32 (Value.int .u8 0) ++ (Value.string ⟨#[]⟩ :: Value.bool false :: Value.int .i64 0 :: (List.replicate 64 (Value.int .u8 0) ++ [Value.slice none 0 0]))) (off := 0) (size := 1) rfl rfl rfl rfl rfl).trans ?_
 refine (fill_one (place := (#[((0 : Nat), (1 : Nat)), (1, 32), (33, 68)][·]?)) (i := 1) (v := .agg (cells8 root).toArray) (xs := cells8 root) (old := List.replicate 32 (Value.int .u8 0)) (pre := [.int .i64 s]) (post := Value.string ⟨#[]⟩ :: Value.bool false :: Value.int .i64 0 :: (List.replicate 64 (Value.int .u8 0) ++ [Value.slice none 0 0])) (off := 1) (size := 32) rfl rfl hrl rfl rfl).trans ?_
 have e1 : ([Value.int .i64 s] ++ cells8 root ++ (Value.string ⟨#[]⟩ :: Value.bool false :: Value.int .i64 0 :: (List.replicate 64 (Value.int .u8 0) ++ [Value.slice none 0 0]))) = ([Value.int .i64 s] ++ cells8 root) ++ (Value.string ⟨#[]⟩ :: Value.bool false :: Value.int .i64 0 :: (List.replicate 64 (Value.int .u8 0) ++ [Value.slice none 0 0])) ++ [] := by simp
 rw [e1]
 refine (fill_one (place := (#[((0 : Nat), (1 : Nat)), (1, 32), (33, 68)][·]?)) (i := 2) (v := .agg ix.toArray) (xs := ix) (old := Value.string ⟨#[]⟩ :: Value.bool false :: Value.int .i64 0 :: (List.replicate 64 (Value.int .u8 0) ++ [Value.slice none 0 0])) (pre := [.int .i64 s] ++ cells8 root) (post := []) (off := 33) (size := 68) rfl rfl hi (by simp [hrl]) rfl).trans ?_
 rw [fill_nil, List.append_nil]
 rfl
theorem str_eq {a b : ByteArray} (h : (a == b) = true) : a = b := by
 cases a with
 | mk x =>
  cases b with
  | mk y =>
   have := eq_of_beq (show (x == y) = true from h)
   subst this
   rfl
theorem str_no {a b : ByteArray} (h : (a == b) = false) : ¬ a.toList = b.toList := fun e => by
 rw [ByteArray.toList_eq, ByteArray.toList_eq] at e
 have e2 : a = b := by cases a; cases b; congr 1; exact Array.ext' e
 subst e2
 rw [show (a == a) = true from (beq_self_eq_true a.data :)] at h
 cases h
theorem str_yes {a b : ByteArray} (h : (a == b) = true) : a.toList = b.toList := by rw [str_eq h]
def shAns (s : Int) (root : Text) (s1 : ByteArray) (f : Bool) (cnt : Int) (ch d : Text) (A : Option Addr) (n c : Nat) (ds : List Text) : Ans := ⟨156, .agg (shV s root (idxCells s1 f (entC cnt ch) d A n c)).toArray, showsOf s root s1 f cnt ch d n ds == 0, rowsOf s s1 f cnt ch d n ds⟩
theorem shows_zero {s : Int} {root : Text} {s1 : ByteArray} {f : Bool} {cnt : Int} {ch d : Text} {n : Nat} {ds : List Text} (h : (showsOf s root s1 f cnt ch d n ds == 0) = true) : okSp f cnt ch d n = true ∧ checkOf s root (ixKey (nm s1)) f cnt ch d ds = 0 ∧ ∃ l, nbrs s d ds 256 = some l := by
 have h0 := eq_of_beq h
 unfold showsOf at h0
 split at h0
 ·rename_i hok
  refine ⟨okIx_sp hok, h0, ?_⟩
  unfold checkOf at h0
  split at h0
  ·cases h0
  ·rename_i l hl
   exact ⟨l, hl⟩
 ·cases h0
set_option maxRecDepth 100000 in
theorem shAns_ok (s : Int) (root : Text) (hrt : root.length = 32) (s1 : ByteArray) (f : Bool) (cnt : Int) (ch d : Text) (A : Option Addr) (n c : Nat) (hnm : s1.size < 140737488355327) (hch : ch.length = 32) (hd : d.length = 32) (ds : List Text) (w : World) (hB : Base w) (hr : RdD w A n ds) : AnsOk w (shAns s root s1 f cnt ch d A n c ds) := by
 refine ⟨⟨200, fun F w' e => by subst e; kernel_rfl, fun w' => by kernel_rfl, fun w' hb => taken_any s root hrt s1 hnm f cnt ch d hch hd A n c ds w' (hB.below hb hB.1) (hr.below hb)⟩, fun htk => ⟨201, fun F w' e => by subst e; kernel_rfl, fun w' => by kernel_rfl, fun w' hb => ?_⟩, fun _ => rows_small hch hr.2.1 hr.1 hd, fun _ => ?_⟩
 ·obtain ⟨hok, -, l, hl⟩ := shows_zero htk
  exact texts_any s root hrt s1 hnm f cnt ch d hch hd A n c ds w' (hB.below hb hB.1) (hr.below hb) hok l hl
 ·have := rows_len s s1 f cnt ch d n ds
  show (rowsOf s s1 f cnt ch d n ds).length ≤ 1000
  omega
def wantEnt (s : Int) (root : Text) (s1 s2 : ByteArray) (f f2 : Bool) (cnt cnt2 : Int) (ch ch2 d d2 : Text) (n m : Nat) (ds es : List Text) : Bool :=
 (showsOf s root s1 f cnt ch d n ds == 0) && ((showsOf s root s2 f2 cnt2 ch2 d2 m es == 0) && ((s1 == s2) && ((f != f2) || !decide (cnt = cnt2 ∧ ch = ch2))))
theorem qEn : Tryd.prog.eqGuardType Tryd.prog.depth 68 = false := by kernel_rfl
theorem ent_meet {s : Int} {root : Text} {s1 s2 : ByteArray} {f f2 : Bool} {cnt cnt2 : Int} {ch ch2 d d2 : Text} {n m : Nat} {ds es : List Text} (h : wantEnt s root s1 s2 f f2 cnt cnt2 ch ch2 d d2 n m ds es = true) : TwiceP.Met s (rowsOf s s1 f cnt ch d n ds ++ rowsOf s s2 f2 cnt2 ch2 d2 m es) := by
 unfold wantEnt at h
 simp only [Bool.and_eq_true] at h
 obtain ⟨h1, h2, h3, h4⟩ := h
 obtain ⟨ok1, c1, -⟩ := shows_zero h1
 obtain ⟨ok2, c2, -⟩ := shows_zero h2
 have e := str_eq h3
 subst e
 have en : ∀ {f : Bool} {cnt : Int} {ch d : Text} {n : Nat}, okSp f cnt ch d n = true → okEnt f cnt ch = true := fun h => by
  unfold okSp at h
  simp only [Bool.and_eq_true] at h
  exact h.2
 unfold rowsOf
 rw [if_pos ok1, if_pos ok2]
 refine entries_meet (root := root) (en ok1) (en ok2) (fun ⟨a, b, c⟩ => ?_) c1 c2
 subst a b c
 simp at h4
section
variable (s : Int) (root : Text) (s1 s2 : ByteArray) (f f2 : Bool) (cnt cnt2 : Int) (ch ch2 d d2 : Text) (A B : Option Addr) (n c m c2 : Nat) (w : World)
set_option maxRecDepth 100000 in
set_option maxHeartbeats 2000000 in
theorem twoEnt_go (hrt : root.length = 32) (hch : ch.length = 32) (hd : d.length = 32) (hch2 : ch2.length = 32) (hd2 : d2.length = 32) (ts : List Text) (want stop : Bool) (hstop : stop = ((s1 != s2) || ((f == f2) && decide (cnt = cnt2 ∧ ch = ch2)))) (hno : stop = true → want = false)
  (hE : stop = false → ∀ w', Below w.heap.size w w' → Calls Tryd.prog 100 #[.int .i64 s, .slice (some ⟨w'.heap.size, 0, none⟩) 2 2] (w'.alloc (.cells #[.iface 156 (.agg (shV s root (idxCells s1 f (entC cnt ch) d A n c)).toArray), .iface 156 (.agg (shV s root (idxCells s2 f2 (entC cnt2 ch2) d2 B m c2)).toArray)] 202)) (TPost w' s want ts)) :
  Calls Tryd.prog 44 #[.int .i64 s, .agg (cells8 root).toArray, .agg (idxCells s1 f (entC cnt ch) d A n c).toArray, .agg (idxCells s2 f2 (entC cnt2 ch2) d2 B m c2).toArray] w (TPost w s want ts) := by
 obtain ⟨pc, hpc⟩ : ∃ cs : Array Value, Hid ((idxCells s1 f (entC cnt ch) d A n c).toArray = cs) := ⟨_, Lib.hid rfl⟩
 obtain ⟨qc, hqc⟩ : ∃ cs : Array Value, Hid ((idxCells s2 f2 (entC cnt2 ch2) d2 B m c2).toArray = cs) := ⟨_, Lib.hid rfl⟩
 have ip0 : Hid (pc[0]? = some (.string s1)) := by show _ = _; rw [← hpc.out, List.getElem?_toArray]; exact idx_name
 have ip1 : Hid (pc[1]? = some (.bool f)) := by show _ = _; rw [← hpc.out, List.getElem?_toArray]; exact idx_found
 have ip2 : Hid (∀ j v, (entC cnt ch)[j]? = some v → pc[2 + j]? = some v) := fun j v hv => by rw [← hpc.out, List.getElem?_toArray]; exact idx_ent j v hv
 have iq0 : Hid (qc[0]? = some (.string s2)) := by show _ = _; rw [← hqc.out, List.getElem?_toArray]; exact idx_name
 have iq1 : Hid (qc[1]? = some (.bool f2)) := by show _ = _; rw [← hqc.out, List.getElem?_toArray]; exact idx_found
 have iq2 : Hid (∀ j v, (entC cnt2 ch2)[j]? = some v → qc[2 + j]? = some v) := fun j v hv => by rw [← hqc.out, List.getElem?_toArray]; exact idx_ent j v hv
 have szP : Hid ((Tryd.prog.info? 70).map (·.size) = some pc.size) := by show _ = _; rw [← hpc.out, List.size_toArray, idx_len (entC_len hch) hd]; exact sizeIx
 have szQ : Hid ((Tryd.prog.info? 70).map (·.size) = some qc.size) := by show _ = _; rw [← hqc.out, List.size_toArray, idx_len (entC_len hch2) hd2]; exact sizeIx
 have sE1 : Hid ((Tryd.prog.info? 68).map (·.size) = some (entC cnt ch).length) := by show _ = _; rw [entC_len hch]; exact sizeEnt
 have sE2 : Hid ((Tryd.prog.info? 68).map (·.size) = some (entC cnt2 ch2).length) := by show _ = _; rw [entC_len hch2]; exact sizeEnt
 obtain ⟨ee, hee⟩ : ∃ b, decide (cnt = cnt2 ∧ ch = ch2) = b := ⟨_, rfl⟩
 obtain ⟨sn, hsn⟩ : ∃ b, (s1 == s2) = b := ⟨_, rfl⟩
 obtain ⟨fe, hfe⟩ : ∃ b, (f == f2) = b := ⟨_, rfl⟩
 have hq : Hid (∀ w', (binOp .eql 68 (.agg (entC cnt ch).toArray) (.agg (entC cnt2 ch2).toArray)).run Tryd.prog w' = .ok (.bool ee) w') := fun w' => by rw [← hee]; exact eql_entry cnt cnt2 ch ch2 hch hch2 w'
 rw [show (s1 != s2) = !(s1 == s2) from rfl, hsn, hee, hfe] at hstop
 have hB1 : Hid (∀ w, (Instr.build 156 #[(0, .int .i64 s), (1, .agg (cells8 root).toArray), (2, .agg pc)]).run Tryd.prog w = .ok (.agg (shV s root (idxCells s1 f (entC cnt ch) d A n c)).toArray) w) := fun w => by rw [← hpc.out]; exact run_build w _ _ _ (built_sh s root hrt _ (idx_len (entC_len hch) hd))
 have hB2 : Hid (∀ w, (Instr.build 156 #[(0, .int .i64 s), (1, .agg (cells8 root).toArray), (2, .agg qc)]).run Tryd.prog w = .ok (.agg (shV s root (idxCells s2 f2 (entC cnt2 ch2) d2 B m c2)).toArray) w) := fun w => by rw [← hqc.out]; exact run_build w _ _ _ (built_sh s root hrt _ (idx_len (entC_len hch2) hd2))
 obtain ⟨v1, hv1⟩ : ∃ x, (shV s root (idxCells s1 f (entC cnt ch) d A n c)).toArray = x := ⟨_, rfl⟩
 obtain ⟨v2, hv2⟩ : ∃ x, (shV s root (idxCells s2 f2 (entC cnt2 ch2) d2 B m c2)).toArray = x := ⟨_, rfl⟩
 rw [hv1] at hB1 hE
 rw [hv2] at hB2 hE
 rw [hpc.out, hqc.out]
 obtain ⟨w1, hw1⟩ : ∃ w1, Hid (w1 = ((((w.alloc (.cells (cells8 root).toArray 23)).alloc (.cells pc 70)).alloc (.cells qc 70)).alloc (.cells #[Value.slice none 0 0, Value.slice none 0 0] 82))) := ⟨_, rfl⟩
 have hb1 : Hid (Below w.heap.size w w1) := by show Below _ _ _; rw [hw1.out]; exact ((((Below.refl _ w).alloc (Nat.le_refl _) _).alloc (by simp) _).alloc (by simp; omega) _).alloc (by simp; omega) _
 have hR1 : Hid (Blk w1 w.heap.size 23 (cells8 root).toArray) := by show Blk _ _ _ _; rw [hw1.out]; exact (((Blk.new w _ _).alloc _).alloc _).alloc _
 have hP1 : Hid (Blk w1 (w.heap.size + 1) 70 pc) := by
  show Blk _ _ _ _
  rw [hw1.out]
  have := Blk.new (w.alloc (.cells (cells8 root).toArray 23)) 70 pc
  rw [show (w.alloc (.cells (cells8 root).toArray 23)).heap.size = w.heap.size + 1 by simp] at this
  exact (this.alloc _).alloc _
 have hQ1 : Hid (Blk w1 (w.heap.size + 2) 70 qc) := by
  show Blk _ _ _ _
  rw [hw1.out]
  have := Blk.new ((w.alloc (.cells (cells8 root).toArray 23)).alloc (.cells pc 70)) 70 qc
  rw [show ((w.alloc (.cells (cells8 root).toArray 23)).alloc (.cells pc 70)).heap.size = w.heap.size + 2 by simp] at this
  exact this.alloc _
 have hX1 : Hid (Blk w1 (w.heap.size + 3) 82 #[Value.slice none 0 0, Value.slice none 0 0]) := by
  show Blk _ _ _ _
  rw [hw1.out]
  have := Blk.new (((w.alloc (.cells (cells8 root).toArray 23)).alloc (.cells pc 70)).alloc (.cells qc 70)) 82 #[Value.slice none 0 0, Value.slice none 0 0]
  rwa [show (((w.alloc (.cells (cells8 root).toArray 23)).alloc (.cells pc 70)).alloc (.cells qc 70)).heap.size = w.heap.size + 3 by simp] at this
 have Fr := Lib.hid (fit (x := root) hrt)
 clear hrt hch hd hch2 hd2 hee hv1 hv2 hpc hqc
 go_enter Tryd.func44, Tryd.ntmps44
 go_upto_region 1 with fail
 change Code.wp _ _ _ _ ((((w.alloc (.cells (cells8 root).toArray 23)).alloc (.cells pc 70)).alloc (.cells qc 70)).alloc (.cells #[Value.slice none 0 0, Value.slice none 0 0] 82))
 rw [← hw1.out]
 go_cut [28] from 10 to 28 (fun v wr => v = .bool stop ∧ Hid (wr = w1))
 case first =>
  cases sn with
  | false =>
   obtain rfl : stop = true := hstop
   have hsl := str_no hsn
   clear hfe hE hno
   refine q_plain (fun w' => w' = w1) rfl ?_
   refine Want.qv0 (.pointer (some ⟨w.heap.size + 1, 0, none⟩)) ?_
   (intro K k; go_simp; apply k; clear k K)
   refine q_val (v := .string s1) rfl (fun w' hw' => by have h := (hP1.out.cell 0).trans ip0.out; have hw9 : w' = w1 := hw'; rw [hw9]; go_simp) ?_
   (intro K k; go_simp; apply k; clear k K)
   refine Want.qv0 (.pointer (some ⟨w.heap.size + 2, 0, none⟩)) ?_
   (intro K k; go_simp; apply k; clear k K)
   refine q_val (v := .string s2) rfl (fun w' hw' => by have h := (hQ1.out.cell 0).trans iq0.out; have hw9 : w' = w1 := hw'; rw [hw9]; go_simp) ?_
   (intro K k; go_simp; apply k; clear k K)
   refine q_val (v := .bool true) rfl (fun w' hw' => by have h := hsl; go_simp) ?_
   (intro K k; go_simp; apply k; clear k K)
   refine q_move rfl (.tmp 14) rfl ?_
   (intro K k; go_simp; apply k; clear k K)
   refine q_skip rfl ?_
   (intro K k; go_simp; apply k; clear k K)
   refine q_skip rfl ?_
   (intro K k; go_simp; apply k; clear k K)
   refine q_skip rfl ?_
   (intro K k; go_simp; apply k; clear k K)
   refine q_skip rfl ?_
   (intro K k; go_simp; apply k; clear k K)
   refine q_skip rfl ?_
   (intro K k; go_simp; apply k; clear k K)
   refine q_skip rfl ?_
   (intro K k; go_simp; apply k; clear k K)
   refine q_skip rfl ?_
   (intro K k; go_simp; apply k; clear k K)
   refine q_skip rfl ?_
   (intro K k; go_simp; apply k; clear k K)
   refine q_skip rfl ?_
   (intro K k; go_simp; apply k; clear k K)
   refine q_skip rfl ?_
   (intro K k; go_simp; apply k; clear k K)
   refine q_skip rfl ?_
   (intro K k; go_simp; apply k; clear k K)
   refine q_skip rfl ?_
   (intro K k; go_simp; apply k; clear k K)
   refine Want.qv0 (.bool true) ?_
   (intro K k; go_simp; apply k; clear k K)
   refine q_nil ?_
   intro w7 hw7
   go_wp2_with fail
   go_meet
   case rel => exact ⟨rfl, hw7⟩
  | true =>
   have hsl := str_yes hsn
   cases fe with
   | false =>
    obtain rfl : stop = false := hstop
    clear hE hno
    refine q_plain (fun w' => w' = w1) rfl ?_
    refine Want.qv0 (.pointer (some ⟨w.heap.size + 1, 0, none⟩)) ?_
    (intro K k; go_simp; apply k; clear k K)
    refine q_val (v := .string s1) rfl (fun w' hw' => by have h := (hP1.out.cell 0).trans ip0.out; have hw9 : w' = w1 := hw'; rw [hw9]; go_simp) ?_
    (intro K k; go_simp; apply k; clear k K)
    refine Want.qv0 (.pointer (some ⟨w.heap.size + 2, 0, none⟩)) ?_
    (intro K k; go_simp; apply k; clear k K)
    refine q_val (v := .string s2) rfl (fun w' hw' => by have h := (hQ1.out.cell 0).trans iq0.out; have hw9 : w' = w1 := hw'; rw [hw9]; go_simp) ?_
    (intro K k; go_simp; apply k; clear k K)
    refine q_val (v := .bool false) rfl (fun w' hw' => by have h := hsl; go_simp) ?_
    (intro K k; go_simp; apply k; clear k K)
    refine q_move rfl (.tmp 14) rfl ?_
    (intro K k; go_simp; apply k; clear k K)
    refine Want.qv0 (.pointer (some ⟨w.heap.size + 1, 1, none⟩)) ?_
    (intro K k; go_simp; apply k; clear k K)
    refine q_val (v := .bool f) rfl (fun w' hw' => by have h := (hP1.out.cell 1).trans ip1.out; have hw9 : w' = w1 := hw'; rw [hw9]; go_simp) ?_
    (intro K k; go_simp; apply k; clear k K)
    refine Want.qv0 (.pointer (some ⟨w.heap.size + 2, 1, none⟩)) ?_
    (intro K k; go_simp; apply k; clear k K)
    refine q_val (v := .bool f2) rfl (fun w' hw' => by have h := (hQ1.out.cell 1).trans iq1.out; have hw9 : w' = w1 := hw'; rw [hw9]; go_simp) ?_
    (intro K k; go_simp; apply k; clear k K)
    refine q_val (v := .bool false) rfl (fun w' hw' => by have h := hfe; go_simp) ?_
    (intro K k; go_simp; apply k; clear k K)
    refine q_move rfl (.tmp 20) rfl ?_
    (intro K k; go_simp; apply k; clear k K)
    refine q_skip rfl ?_
    (intro K k; go_simp; apply k; clear k K)
    refine q_skip rfl ?_
    (intro K k; go_simp; apply k; clear k K)
    refine q_skip rfl ?_
    (intro K k; go_simp; apply k; clear k K)
    refine q_skip rfl ?_
    (intro K k; go_simp; apply k; clear k K)
    refine q_skip rfl ?_
    (intro K k; go_simp; apply k; clear k K)
    refine Want.qv0 (.bool false) ?_
    (intro K k; go_simp; apply k; clear k K)
    refine Want.qv0 (.bool false) ?_
    (intro K k; go_simp; apply k; clear k K)
    refine q_nil ?_
    intro w7 hw7
    go_wp2_with fail
    go_meet
    case rel => exact ⟨rfl, hw7⟩
   | true =>
    cases ee with
    | true =>
     obtain rfl : stop = true := hstop
     clear hE hno
     refine q_plain (fun w' => w' = w1) rfl ?_
     refine Want.qv0 (.pointer (some ⟨w.heap.size + 1, 0, none⟩)) ?_
     (intro K k; go_simp; apply k; clear k K)
     refine q_val (v := .string s1) rfl (fun w' hw' => by have h := (hP1.out.cell 0).trans ip0.out; have hw9 : w' = w1 := hw'; rw [hw9]; go_simp) ?_
     (intro K k; go_simp; apply k; clear k K)
     refine Want.qv0 (.pointer (some ⟨w.heap.size + 2, 0, none⟩)) ?_
     (intro K k; go_simp; apply k; clear k K)
     refine q_val (v := .string s2) rfl (fun w' hw' => by have h := (hQ1.out.cell 0).trans iq0.out; have hw9 : w' = w1 := hw'; rw [hw9]; go_simp) ?_
     (intro K k; go_simp; apply k; clear k K)
     refine q_val (v := .bool false) rfl (fun w' hw' => by have h := hsl; go_simp) ?_
     (intro K k; go_simp; apply k; clear k K)
     refine q_move rfl (.tmp 14) rfl ?_
     (intro K k; go_simp; apply k; clear k K)
     refine Want.qv0 (.pointer (some ⟨w.heap.size + 1, 1, none⟩)) ?_
     (intro K k; go_simp; apply k; clear k K)
     refine q_val (v := .bool f) rfl (fun w' hw' => by have h := (hP1.out.cell 1).trans ip1.out; have hw9 : w' = w1 := hw'; rw [hw9]; go_simp) ?_
     (intro K k; go_simp; apply k; clear k K)
     refine Want.qv0 (.pointer (some ⟨w.heap.size + 2, 1, none⟩)) ?_
     (intro K k; go_simp; apply k; clear k K)
     refine q_val (v := .bool f2) rfl (fun w' hw' => by have h := (hQ1.out.cell 1).trans iq1.out; have hw9 : w' = w1 := hw'; rw [hw9]; go_simp) ?_
     (intro K k; go_simp; apply k; clear k K)
     refine q_val (v := .bool true) rfl (fun w' hw' => by have h := hfe; go_simp) ?_
     (intro K k; go_simp; apply k; clear k K)
     refine q_move rfl (.tmp 20) rfl ?_
     (intro K k; go_simp; apply k; clear k K)
     refine Want.qv0 (.pointer (some ⟨w.heap.size + 1, 2, none⟩)) ?_
     (intro K k; go_simp; apply k; clear k K)
     refine q_part rfl 68 (.tmp 22) rfl (w.heap.size + 1) (2) rfl (entC cnt ch) _ (fun w' hw' => by have hw9 : w' = w1 := hw'; rw [hw9]; exact fun j v hv => (hP1.out.cell (2 + j)).trans (ip2.out j v hv)) Tryd.underlying68 rfl sE1.out ?_
     (intro K k; go_simp; apply k; clear k K)
     refine Want.qv0 (.pointer (some ⟨w.heap.size + 2, 2, none⟩)) ?_
     (intro K k; go_simp; apply k; clear k K)
     refine q_part rfl 68 (.tmp 24) rfl (w.heap.size + 2) (2) rfl (entC cnt2 ch2) _ (fun w' hw' => by have hw9 : w' = w1 := hw'; rw [hw9]; exact fun j v hv => (hQ1.out.cell (2 + j)).trans (iq2.out j v hv)) Tryd.underlying68 rfl sE2.out ?_
     (intro K k; go_simp; apply k; clear k K)
     refine q_val (v := .bool true) rfl (fun w' hw' => run_cmp rfl rfl rfl qEn (hq.out w')) ?_
     (intro K k; go_simp; apply k; clear k K)
     refine Want.qv0 (.bool true) ?_
     (intro K k; go_simp; apply k; clear k K)
     refine Want.qv0 (.bool true) ?_
     (intro K k; go_simp; apply k; clear k K)
     refine q_nil ?_
     intro w7 hw7
     go_wp2_with fail
     go_meet
     case rel => exact ⟨rfl, hw7⟩
    | false =>
     obtain rfl : stop = false := hstop
     clear hE hno
     refine q_plain (fun w' => w' = w1) rfl ?_
     refine Want.qv0 (.pointer (some ⟨w.heap.size + 1, 0, none⟩)) ?_
     (intro K k; go_simp; apply k; clear k K)
     refine q_val (v := .string s1) rfl (fun w' hw' => by have h := (hP1.out.cell 0).trans ip0.out; have hw9 : w' = w1 := hw'; rw [hw9]; go_simp) ?_
     (intro K k; go_simp; apply k; clear k K)
     refine Want.qv0 (.pointer (some ⟨w.heap.size + 2, 0, none⟩)) ?_
     (intro K k; go_simp; apply k; clear k K)
     refine q_val (v := .string s2) rfl (fun w' hw' => by have h := (hQ1.out.cell 0).trans iq0.out; have hw9 : w' = w1 := hw'; rw [hw9]; go_simp) ?_
     (intro K k; go_simp; apply k; clear k K)
     refine q_val (v := .bool false) rfl (fun w' hw' => by have h := hsl; go_simp) ?_
     (intro K k; go_simp; apply k; clear k K)
     refine q_move rfl (.tmp 14) rfl ?_
     (intro K k; go_simp; apply k; clear k K)
     refine Want.qv0 (.pointer (some ⟨w.heap.size + 1, 1, none⟩)) ?_
     (intro K k; go_simp; apply k; clear k K)
     refine q_val (v := .bool f) rfl (fun w' hw' => by have h := (hP1.out.cell 1).trans ip1.out; have hw9 : w' = w1 := hw'; rw [hw9]; go_simp) ?_
     (intro K k; go_simp; apply k; clear k K)
     refine Want.qv0 (.pointer (some ⟨w.heap.size + 2, 1, none⟩)) ?_
     (intro K k; go_simp; apply k; clear k K)
     refine q_val (v := .bool f2) rfl (fun w' hw' => by have h := (hQ1.out.cell 1).trans iq1.out; have hw9 : w' = w1 := hw'; rw [hw9]; go_simp) ?_
     (intro K k; go_simp; apply k; clear k K)
     refine q_val (v := .bool true) rfl (fun w' hw' => by have h := hfe; go_simp) ?_
     (intro K k; go_simp; apply k; clear k K)
     refine q_move rfl (.tmp 20) rfl ?_
     (intro K k; go_simp; apply k; clear k K)
     refine Want.qv0 (.pointer (some ⟨w.heap.size + 1, 2, none⟩)) ?_
     (intro K k; go_simp; apply k; clear k K)
     refine q_part rfl 68 (.tmp 22) rfl (w.heap.size + 1) (2) rfl (entC cnt ch) _ (fun w' hw' => by have hw9 : w' = w1 := hw'; rw [hw9]; exact fun j v hv => (hP1.out.cell (2 + j)).trans (ip2.out j v hv)) Tryd.underlying68 rfl sE1.out ?_
     (intro K k; go_simp; apply k; clear k K)
     refine Want.qv0 (.pointer (some ⟨w.heap.size + 2, 2, none⟩)) ?_
     (intro K k; go_simp; apply k; clear k K)
     refine q_part rfl 68 (.tmp 24) rfl (w.heap.size + 2) (2) rfl (entC cnt2 ch2) _ (fun w' hw' => by have hw9 : w' = w1 := hw'; rw [hw9]; exact fun j v hv => (hQ1.out.cell (2 + j)).trans (iq2.out j v hv)) Tryd.underlying68 rfl sE2.out ?_
     (intro K k; go_simp; apply k; clear k K)
     refine q_val (v := .bool false) rfl (fun w' hw' => run_cmp rfl rfl rfl qEn (hq.out w')) ?_
     (intro K k; go_simp; apply k; clear k K)
     refine Want.qv0 (.bool false) ?_
     (intro K k; go_simp; apply k; clear k K)
     refine Want.qv0 (.bool false) ?_
     (intro K k; go_simp; apply k; clear k K)
     refine q_nil ?_
     intro w7 hw7
     go_wp2_with fail
     go_meet
     case rel => exact ⟨rfl, hw7⟩
 case rest =>
  obtain ⟨rfl, hwc⟩ := hcut
  obtain rfl : wc = w1 := hwc.out
  clear hw1
  cases stop with
  | true =>
   obtain rfl : want = false := hno rfl
   clear hE hno hstop hsn hfe
   go_wp2_with ((with_reducible change wpList _ _ _ ({ dst := none, op := Op.store 82 _ _, type := _, pos := _, after := _, guard := _ } :: _) _ _); refine wpList_store_row (o := ⟨none, _, _, _, _, _⟩) rfl 82 (.tmp 8) (.tmp 29) rfl (w.heap.size + 3) (#[Value.slice none 0 0, Value.slice none 0 0]) rfl rfl 82 (#[Value.slice none 0 0, Value.slice none 0 0]) hX1.out sizeE2 rfl oneZ2 ?_)
   refine bodyPost_ret (results_cell_row2 rfl _ _ (w.heap.size + 3) 82 #[Value.slice none 0 0, Value.slice none 0 0] (0, 0) _ rfl (setRow_heap _ _ _ _ _ _ hX1.out) Tryd.underlying82 rfl sizeE2) rfl ?_
   exact TPost.no rfl (below_setRow hb1.out (by omega) _)
  | false =>
   have hE1 := Lib.hid (hE rfl wc hb1.out)
   clear hE hno hstop hsn hfe
   go_wp2_with (first
    | ((with_reducible change wpList _ _ _ (⟨some 32, _, _, _, _, _⟩ :: _) _ _); refine wpList_load_row (o := ⟨some 32, _, _, _, _, _⟩) rfl 23 (.tmp 5) rfl (w.heap.size) rfl 23 ((cells8 root).toArray) (0, 0) _ hR1.out Tryd.underlying23 rfl Fr.out.size ?_)
    | ((with_reducible change wpList _ _ _ (⟨some 33, _, _, _, _, _⟩ :: _) _ _); refine wpList_load_row (o := ⟨some 33, _, _, _, _, _⟩) rfl 70 (.tmp 6) rfl ((w.heap.size + 1)) rfl 70 (pc) (0, 0) _ hP1.out Tryd.underlying70 rfl szP.out ?_)
    | ((with_reducible change wpList _ _ _ (⟨some 34, _, _, _, _, _⟩ :: _) _ _); refine wpList_buildF (o := ⟨some 34, _, _, _, _, _⟩) rfl 156 #[(0, .tmp 31), (1, .tmp 32), (2, .tmp 33)] rfl #[(0, .int .i64 s), (1, .agg (cells8 root).toArray), (2, .agg pc)] (by simp; exact ⟨rfl, rfl, rfl⟩) (.agg v1) (hB1.out _) ?_)
    | ((with_reducible change wpList _ _ _ (⟨some 37, _, _, _, _, _⟩ :: _) _ _); refine wpList_load_row (o := ⟨some 37, _, _, _, _, _⟩) rfl 23 (.tmp 5) rfl (w.heap.size) rfl 23 ((cells8 root).toArray) (0, 0) _ hR1.out Tryd.underlying23 rfl Fr.out.size ?_)
    | ((with_reducible change wpList _ _ _ (⟨some 38, _, _, _, _, _⟩ :: _) _ _); refine wpList_load_row (o := ⟨some 38, _, _, _, _, _⟩) rfl 70 (.tmp 7) rfl ((w.heap.size + 2)) rfl 70 (qc) (0, 0) _ hQ1.out Tryd.underlying70 rfl szQ.out ?_)
    | ((with_reducible change wpList _ _ _ (⟨some 39, _, _, _, _, _⟩ :: _) _ _); refine wpList_buildF (o := ⟨some 39, _, _, _, _, _⟩) rfl 156 #[(0, .tmp 36), (1, .tmp 37), (2, .tmp 38)] rfl #[(0, .int .i64 s), (1, .agg (cells8 root).toArray), (2, .agg qc)] (by simp; exact ⟨rfl, rfl, rfl⟩) (.agg v2) (hB2.out _) ?_))
   refine hE1.out.mono ?_
   rintro e w2 ⟨hk2, hcase⟩
   have hX2 : Hid (Blk w2 (w.heap.size + 3) 82 #[Value.slice none 0 0, Value.slice none 0 0]) := (hk2.block _ hX1.out.lt).trans hX1.out
   have hb2 : Hid (Below w.heap.size w w2) := hb1.out.trans (hk2.mono hb1.out.size)
   have hlt := hX1.out.lt
   have hws := hb1.out.size
   rcases hcase with ⟨rfl, rfl⟩ | ⟨rfl, va, vb, p, q, rfl, hp, hq, hne, hsum, oa, ob⟩
   ·clear hk2 hE1 hP1 hQ1 hR1 hlt hws
    go_wp2_with ((with_reducible change wpList _ _ _ ({ dst := none, op := Op.store 82 _ _, type := _, pos := _, after := _, guard := _ } :: _) _ _); refine wpList_store_row (o := ⟨none, _, _, _, _, _⟩) rfl 82 (.tmp 8) (.tmp 43) rfl (w.heap.size + 3) (#[Value.slice none 0 0, Value.slice none 0 0]) rfl rfl 82 (#[Value.slice none 0 0, Value.slice none 0 0]) hX2.out sizeE2 rfl oneZ2 ?_)
    refine bodyPost_ret (results_cell_row2 rfl _ _ (w.heap.size + 3) 82 #[Value.slice none 0 0, Value.slice none 0 0] (0, 0) _ rfl (setRow_heap _ _ _ _ _ _ hX2.out) Tryd.underlying82 rfl sizeE2) rfl ?_
    exact TPost.no rfl (below_setRow hb2.out (by omega) _)
   ·obtain ⟨Aa, ca, rfl, -⟩ := Own.own_reads oa
    obtain ⟨Ab, cb, rfl, -⟩ := Own.own_reads ob
    have honeE : Hid (((#[Value.slice Aa p.length ca, Value.slice Ab q.length cb] : Array Value).all fun v => v.oneCell') = true) := by show _ = _; rw [List.all_toArray]; rfl
    replace oa := Lib.hid oa
    replace ob := Lib.hid ob
    replace hp := Lib.hid hp
    replace hq := Lib.hid hq
    replace hne := Lib.hid hne
    replace hsum := Lib.hid hsum
    replace hws := Lib.hid hws
    replace hlt := Lib.hid hlt
    clear hk2 hE1 hP1 hQ1 hR1
    go_wp2_with ((with_reducible change wpList _ _ _ ({ dst := none, op := Op.store 82 _ _, type := _, pos := _, after := _, guard := _ } :: _) _ _); refine wpList_store_row (o := ⟨none, _, _, _, _, _⟩) rfl 82 (.tmp 8) (.tmp 43) rfl (w.heap.size + 3) (#[Value.slice Aa p.length ca, Value.slice Ab q.length cb]) rfl rfl 82 (#[Value.slice none 0 0, Value.slice none 0 0]) hX2.out sizeE2 rfl honeE.out ?_)
    refine bodyPost_ret (results_cell_row2 rfl _ _ (w.heap.size + 3) 82 #[Value.slice Aa p.length ca, Value.slice Ab q.length cb] (0, 0) _ rfl (setRow_heap _ _ _ _ _ _ hX2.out) Tryd.underlying82 rfl sizeE2) rfl ?_
    have hkk : Kept (· = w.heap.size + 3) w2 (w2.setRow (w.heap.size + 3) #[Value.slice Aa p.length ca, Value.slice Ab q.length cb]) := Bytes.Kept.setRow (S := (· = w.heap.size + 3)) (Kept.refl _ _) rfl _
    exact ⟨below_setRow hb2.out (by omega) _, .inr ⟨rfl, _, _, p, q, rfl, hp.out, hq.out, hne.out, hsum.out, own_far (Clash.own_base8 oa.out hws.out) hkk oa.out hlt.out, own_far (Clash.own_base8 ob.out hws.out) hkk ob.out hlt.out⟩⟩
end
set_option maxRecDepth 100000 in
theorem twoEntries_any (s : Int) (root : Text) (hrt : root.length = 32) (s1 s2 : ByteArray) (hn1 : s1.size < 140737488355327) (hn2 : s2.size < 140737488355327) (f f2 : Bool) (cnt cnt2 : Int) (ch ch2 d d2 : Text) (hch : ch.length = 32) (hd : d.length = 32) (hch2 : ch2.length = 32) (hd2 : d2.length = 32) (A B : Option Addr) (n c m c2 : Nat) (ds es : List Text) (w : World) (hB : Base w) (hr : RdD w A n ds) (hr2 : RdD w B m es) :
  Calls Tryd.prog 44 #[.int .i64 s, .agg (cells8 root).toArray, .agg (idxCells s1 f (entC cnt ch) d A n c).toArray, .agg (idxCells s2 f2 (entC cnt2 ch2) d2 B m c2).toArray] w (TPost w s (wantEnt s root s1 s2 f f2 cnt cnt2 ch ch2 d d2 n m ds es) (rowsOf s s1 f cnt ch d n ds ++ rowsOf s s2 f2 cnt2 ch2 d2 m es)) := by
 refine twoEnt_go s root s1 s2 f f2 cnt cnt2 ch ch2 d d2 A B n c m c2 w hrt hch hd hch2 hd2 _ _ _ rfl (fun hst => ?_) (fun hst w' hb => ?_)
 ·unfold wantEnt
  have e1 : ((s1 == s2) && ((f != f2) || !decide (cnt = cnt2 ∧ ch = ch2))) = false := by
   have h : ((s1 == s2) && ((f != f2) || !decide (cnt = cnt2 ∧ ch = ch2))) = !((s1 != s2) || ((f == f2) && decide (cnt = cnt2 ∧ ch = ch2))) := by
    rw [show (s1 != s2) = !(s1 == s2) from rfl, show (f != f2) = !(f == f2) from rfl]
    cases (s1 == s2) <;> cases (f == f2) <;> cases decide (cnt = cnt2 ∧ ch = ch2) <;> rfl
   rw [h, hst]
   rfl
  rw [e1, Bool.and_false, Bool.and_false]
 ·have hb2 := hb.alloc hb.size (.cells #[.iface 156 (.agg (shV s root (idxCells s1 f (entC cnt ch) d A n c)).toArray), .iface 156 (.agg (shV s root (idxCells s2 f2 (entC cnt2 ch2) d2 B m c2)).toArray)] 202)
  have hO1 := shAns_ok s root hrt s1 f cnt ch d A n c hn1 hch hd ds _ (hB.below hb2 hB.1) (hr.below hb2)
  have hO2 := shAns_ok s root hrt s2 f2 cnt2 ch2 d2 B m c2 hn2 hch2 hd2 es _ (hB.below hb2 hB.1) (hr2.below hb2)
  have l2 : ∀ {P : Ans → Prop} {a b : Ans}, P a → P b → ∀ x ∈ [a, b], P x := fun ha hb x hx => by
   rcases List.mem_cons.1 hx with rfl | hx
   ·exact ha
   ·obtain rfl := List.mem_singleton.1 hx
    exact hb
  have hX := extract_any s [shAns s root s1 f cnt ch d A n c ds, shAns s root s2 f2 cnt2 ch2 d2 B m c2 es] 2 rfl (by decide) (some ⟨w'.heap.size, 0, none⟩) 2 _ (hB.below hb2 hB.1) ((Blk.new w' 202 #[.iface 156 (.agg (shV s root (idxCells s1 f (entC cnt ch) d A n c)).toArray), .iface 156 (.agg (shV s root (idxCells s2 f2 (entC cnt2 ch2) d2 B m c2)).toArray)]).reads 0 _ rfl (fun j u hu => by rw [Nat.zero_add, List.getElem?_toArray]; exact hu)) (l2 hO1 hO2)
  refine hX.mono fun e' w2 h => ?_
  have hfm : [shAns s root s1 f cnt ch d A n c ds, shAns s root s2 f2 cnt2 ch2 d2 B m c2 es].flatMap (·.ts) = rowsOf s s1 f cnt ch d n ds ++ rowsOf s s2 f2 cnt2 ch2 d2 m es := by simp [shAns]
  rw [← hfm]
  refine extract_T s _ _ (fun hw => ?_) (fun hw hall => ?_) w' w2 _ _ e' h
  ·refine ⟨?_, by rw [hfm]; exact ent_meet hw⟩
   unfold wantEnt at hw
   simp only [Bool.and_eq_true] at hw
   exact l2 hw.1 hw.2.1
  ·have a1 : (showsOf s root s1 f cnt ch d n ds == 0) = true := hall _ (List.mem_cons_self ..)
   have a2 : (showsOf s root s2 f2 cnt2 ch2 d2 m es == 0) = true := hall _ (List.mem_cons_of_mem _ (List.mem_cons_self ..))
   unfold wantEnt at hw
   rw [a1, a2, Bool.true_and, Bool.true_and] at hw
   have h : ((s1 == s2) && ((f != f2) || !decide (cnt = cnt2 ∧ ch = ch2))) = !((s1 != s2) || ((f == f2) && decide (cnt = cnt2 ∧ ch = ch2))) := by
    rw [show (s1 != s2) = !(s1 == s2) from rfl, show (f != f2) = !(f == f2) from rfl]
    cases (s1 == s2) <;> cases (f == f2) <;> cases decide (cnt = cnt2 ∧ ch = ch2) <;> rfl
   rw [h, hst] at hw
   cases hw
end Go.Proofs.YtmdkfhfkdcbpgaaDoorR.TwoEnt
