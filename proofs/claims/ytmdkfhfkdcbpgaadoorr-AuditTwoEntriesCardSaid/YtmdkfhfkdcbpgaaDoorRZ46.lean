/-
  Texts of the claim, put into one file: AuditTwoEntries.
-/
import Derived.Test.YtmdkfhfkdcbpgaaDoorRZ44
import Derived.Test.YtmdkfhfkdcbpgaaDoorRZ40
import Derived.Test.YtmdkfhfkdcbpgaaDoorRZ43
import Derived.Test.YtmdkfhfkdcbpgaaDoorRZ45

namespace Go.Proofs.YtmdkfhfkdcbpgaaDoorR.AuditTwoEntries
open Go Go.RowKit Go.Proofs.YtmdkfhfkdcbpgaaDoorR Mem Sha Bytes HashMem DigestMem QuietTail Grown TreeMem TreeRoot Go.Proofs.YtmdkfhfkdcbpgaaDoorR.Append Held Guard Guard2 Chain TwiceP Clash Node AheadT RowsT RowsY Want Plain Law20 Extract Book Book2 StructEq ProofIdx3 IdxAny TwoEvP TwoEv Told20 Told20b AuditTwoEvents SparseP SpMem Shows Shown TwoEnt AuditShows

set_option maxRecDepth 100000 in
set_option maxHeartbeats 8000000 in
theorem auditTwoEntries_any (s : Int) (hs63 : s < 9223372036854775808) (root : Text) (hrt : root.length = 32) (s1 : ByteArray) (hn1 : s1.size < 140737488355327) (f : Bool) (cnt : Int) (ch : Text) (hch : ch.length = 32) (d : Text) (hd : d.length = 32) (es1 : List Text) (n0 : Nat) (A : Option Addr) (c : Nat) (hnc : n0 ≤ c)
  (s2 : ByteArray) (hn2 : s2.size < 140737488355327) (f2 : Bool) (cnt2 : Int) (ch2 : Text) (hch2 : ch2.length = 32) (d2 : Text) (hd2 : d2.length = 32) (es2 : List Text) (m0 : Nat) (B : Option Addr) (c2 : Nat) (hmc : m0 ≤ c2) (w : World) (hB : Base w) (hrd0 : RdD w A n0 es1) (hrf0 : RdD w B m0 es2) :
  Calls Tryd.prog 8 #[.int .i64 s, .agg (cells8 root).toArray, .agg (idxCells s1 f (entC cnt ch) d A n0 c).toArray, .agg (idxCells s2 f2 (entC cnt2 ch2) d2 B m0 c2).toArray] w fun e' w' => e' = .returned (.bool true) ∧ Below w.heap.size w w' := by
 obtain ⟨i0, ii, iz0, iz1, iz2⟩ := info_partsN infoT
 obtain ⟨n, hn⟩ : ∃ n, min n0 300 = n := ⟨_, rfl⟩
 obtain ⟨ds, hds⟩ : ∃ ds, es1.take n = ds := ⟨_, rfl⟩
 obtain ⟨m, hm⟩ : ∃ m, min m0 300 = m := ⟨_, rfl⟩
 obtain ⟨es, hes⟩ : ∃ es, es2.take m = es := ⟨_, rfl⟩
 have hrd : RdD w A n ds := by rw [← hds]; exact hrd0.take_ n (by omega)
 have hrf : RdD w B m es := by rw [← hes]; exact hrf0.take_ m (by omega)
 have hF1 : Hid (∀ w', Calls Tryd.prog 32 #[.slice A n0 c, .int .i64 300] w' fun e w'' => e = .returned (.slice A n c) ∧ w' = w'') := fun w' => by
  have := few20_any A n0 c hnc w'
  rwa [hn] at this
 have hF2 : Hid (∀ w', Calls Tryd.prog 32 #[.slice B m0 c2, .int .i64 300] w' fun e w'' => e = .returned (.slice B m c2) ∧ w' = w'') := fun w' => by
  have := few20_any B m0 c2 hmc w'
  rwa [hm] at this
 have hl1 := rows_small (s := s) (nmS := s1) (f := f) (cnt := cnt) hch hrd.2.1 hrd.1 hd
 have hl2 := rows_small (s := s) (nmS := s2) (f := f2) (cnt := cnt2) hch2 hrf.2.1 hrf.1 hd2
 have hf1 := rows_len s s1 f cnt ch d n ds
 have hf2 := rows_len s s2 f2 cnt2 ch2 d2 m es
 have hTE := Lib.hid (fun w' (hb : Below w.heap.size w w') => twoEntries_any s root hrt s1 s2 hn1 hn2 f f2 cnt cnt2 ch ch2 d d2 hch hd hch2 hd2 A B n c m c2 ds es w' (hB.below hb hB.1) (hrd.below hb) (hrf.below hb))
 have hI1 := Lib.hid (fun w' (hb : Below w.heap.size w w') => refshows_any root hrt s1 hn1 f cnt ch d hch hd A n c s ds w' hs63 (hrd.below hb))
 have hI2 := Lib.hid (fun w' (hb : Below w.heap.size w w') => refshows_any root hrt s2 hn2 f2 cnt2 ch2 d2 hch2 hd2 B m c2 s es w' hs63 (hrf.below hb))
 have hRa := Lib.hid (fun w' (hb : Below w.heap.size w w') => refrows_any s hs63 s1 hn1 f cnt ch d hch hd A n c ds w' (hrd.below hb))
 have hRb := Lib.hid (fun w' (hb : Below w.heap.size w w') => refrows_any s hs63 s2 hn2 f2 cnt2 ch2 d2 hch2 hd2 B m c2 es w' (hrf.below hb))
 unfold wantEnt at hTE
 obtain ⟨T1, hT1⟩ : ∃ T, rowsOf s s1 f cnt ch d n ds = T := ⟨_, rfl⟩
 obtain ⟨T2, hT2⟩ : ∃ T, rowsOf s s2 f2 cnt2 ch2 d2 m es = T := ⟨_, rfl⟩
 rw [hT1] at hl1 hf1 hRa hTE
 rw [hT2] at hl2 hf2 hRb hTE
 obtain ⟨k1, hk1⟩ : ∃ k1, T1.length = k1 := ⟨_, rfl⟩
 obtain ⟨k2, hk2⟩ : ∃ k2, T2.length = k2 := ⟨_, rfl⟩
 have hk1s : Hid (k1 ≤ 257) := by show _ ≤ _; omega
 have hk2s : Hid (k2 ≤ 257) := by show _ ≤ _; omega
 rw [hk1] at hRa
 rw [hk2] at hRb
 have hlall : ∀ q ∈ T1 ++ T2, q.length < 140737488355328 := fun q hq => by
  rcases List.mem_append.1 hq with h | h
  ·have := (hl1 q h).2; omega
  ·have := (hl2 q h).2; omega
 have hpall : ∀ q ∈ T1 ++ T2, 0 < q.length := fun q hq => by
  rcases List.mem_append.1 hq with h | h
  ·exact (hl1 q h).1
  ·exact (hl2 q h).1
 have hTo := Lib.hid (fun w' want (A9 : Option Addr) (c9 : Nat) xa xb ok (hp9 : Pieces w' A9 (T1 ++ T2)) (hx : XR w' s want (T1 ++ T2) xa xb ok) => told_any s hs63 (T1 ++ T2) (k1 + k2) (by rw [List.length_append, hk1, hk2]) (by have := hk1s.out; have := hk2s.out; omega) hlall want A9 c9 w' hp9 xa xb ok hx)
 have hTX := Lib.hid (fun w' (h : Below w.heap.size w w') => (hTE.out w' h).mono fun e w'' h => TPost.xr hpall h)
 clear hTE
 have Fr := Lib.hid (fit (x := root) hrt)
 have hk1h := Lib.hid hk1
 have hk2h := Lib.hid hk2
 obtain ⟨a1, ha1⟩ : ∃ z, Hid (showsOf s root s1 f cnt ch d n ds = z) := ⟨_, Lib.hid rfl⟩
 obtain ⟨a2, ha2⟩ : ∃ z, Hid (showsOf s root s2 f2 cnt2 ch2 d2 m es = z) := ⟨_, Lib.hid rfl⟩
 rw [ha1.out] at hI1 hTX
 rw [ha2.out] at hI2 hTX
 have hq : Hid (∀ w', (binOp .neq 68 (.agg (entC cnt ch).toArray) (.agg (entC cnt2 ch2).toArray)).run Tryd.prog w' = .ok (.bool (!decide (cnt = cnt2 ∧ ch = ch2))) w') := fun w' => neq_entry cnt cnt2 ch ch2 hch hch2 w'
 obtain ⟨ee, hee⟩ : ∃ b, Hid (decide (cnt = cnt2 ∧ ch = ch2) = b) := ⟨_, Lib.hid rfl⟩
 rw [hee.out] at hq hTX
 obtain ⟨b1, q1⟩ : ∃ b, (a1 == 0) = b := ⟨_, rfl⟩
 obtain ⟨b2, q2⟩ : ∃ b, (a2 == 0) = b := ⟨_, rfl⟩
 obtain ⟨sn, hsn⟩ : ∃ b, (s1 == s2) = b := ⟨_, rfl⟩
 obtain ⟨fe, hfe⟩ : ∃ b, (f != f2) = b := ⟨_, rfl⟩
 rw [q1, q2, hsn, hfe] at hTX
 obtain ⟨want, hwant⟩ : ∃ b, Hid ((b1 && (b2 && (sn && (fe || !ee)))) = b) := ⟨_, Lib.hid rfl⟩
 rw [hwant.out] at hTX
 have szP : Hid ((Tryd.prog.info? 70).map (·.size) = some ((idxCells s1 f (entC cnt ch) d A n c).toArray).size) := size_idx hch hd
 have szQ : Hid ((Tryd.prog.info? 70).map (·.size) = some ((idxCells s2 f2 (entC cnt2 ch2) d2 B m c2).toArray).size) := size_idx hch2 hd2
 have sE1 : Hid ((Tryd.prog.info? 68).map (·.size) = some (entC cnt ch).length) := by show _ = _; rw [entC_len hch]; exact sizeEnt
 have sE2 : Hid ((Tryd.prog.info? 68).map (·.size) = some (entC cnt2 ch2).length) := by show _ = _; rw [entC_len hch2]; exact sizeEnt
 obtain ⟨pc, hpc⟩ : ∃ cs : Array Value, Hid ((idxCells s1 f (entC cnt ch) d A n c).toArray = cs) := ⟨_, Lib.hid rfl⟩
 obtain ⟨qc, hqc⟩ : ∃ cs : Array Value, Hid ((idxCells s2 f2 (entC cnt2 ch2) d2 B m c2).toArray = cs) := ⟨_, Lib.hid rfl⟩
 have ip0 : Hid (pc[0]? = some (.string s1)) := by show _ = _; rw [← hpc.out, List.getElem?_toArray]; exact idx_name
 have ip1 : Hid (pc[1]? = some (.bool f)) := by show _ = _; rw [← hpc.out, List.getElem?_toArray]; exact idx_found
 have ip2 : Hid (∀ j v, (entC cnt ch)[j]? = some v → pc[2 + j]? = some v) := fun j v hv => by rw [← hpc.out, List.getElem?_toArray]; exact idx_ent j v hv
 have iq0 : Hid (qc[0]? = some (.string s2)) := by show _ = _; rw [← hqc.out, List.getElem?_toArray]; exact idx_name
 have iq1 : Hid (qc[1]? = some (.bool f2)) := by show _ = _; rw [← hqc.out, List.getElem?_toArray]; exact idx_found
 have iq2 : Hid (∀ j v, (entC cnt2 ch2)[j]? = some v → qc[2 + j]? = some v) := fun j v hv => by rw [← hqc.out, List.getElem?_toArray]; exact idx_ent j v hv
 rw [hpc.out] at hTX hI1 hRa szP
 rw [hqc.out] at hTX hI2 hRb szQ
 have setP : Hid (((idxCells s1 f (entC cnt ch) d A n0 c).toArray).setIfInBounds 67 (.slice A n c) = pc) := by show _ = _; rw [set_wayS (entC_len hch) hd]; exact hpc.out
 have setQ : Hid (((idxCells s2 f2 (entC cnt2 ch2) d2 B m0 c2).toArray).setIfInBounds 67 (.slice B m c2) = qc) := by show _ = _; rw [set_wayS (entC_len hch2) hd2]; exact hqc.out
 have im : ((idxCells s1 f (entC cnt ch) d A n0 c).toArray)[67]? = some (.slice A n0 c) := by rw [List.getElem?_toArray]; exact idx_way (entC_len hch) hd
 have in_ : ((idxCells s2 f2 (entC cnt2 ch2) d2 B m0 c2).toArray)[67]? = some (.slice B m0 c2) := by rw [List.getElem?_toArray]; exact idx_way (entC_len hch2) hd2
 obtain ⟨pm, hpm⟩ : ∃ cs : Array Value, (idxCells s1 f (entC cnt ch) d A n0 c).toArray = cs := ⟨_, rfl⟩
 obtain ⟨qm, hqm⟩ : ∃ cs : Array Value, (idxCells s2 f2 (entC cnt2 ch2) d2 B m0 c2).toArray = cs := ⟨_, rfl⟩
 rw [hpm] at setP im ⊢
 rw [hqm] at setQ in_ ⊢
 have hb0 : Hid (Below w.heap.size w (((w.alloc (.cells (cells8 root).toArray 23)).alloc (.cells pm 70)).alloc (.cells qm 70))) := (((Below.refl _ w).alloc (Nat.le_refl _) _).alloc (by simp) _).alloc (by simp; omega) _
 have hQ0 : Hid (Blk (((w.alloc (.cells (cells8 root).toArray 23)).alloc (.cells pm 70)).alloc (.cells qm 70)) (w.heap.size + 2) 70 qm) := by
  have := Blk.new ((w.alloc (.cells (cells8 root).toArray 23)).alloc (.cells pm 70)) 70 qm
  rwa [show ((w.alloc (.cells (cells8 root).toArray 23)).alloc (.cells pm 70)).heap.size = w.heap.size + 2 by simp] at this
 have hP0 : Hid (Blk (((w.alloc (.cells (cells8 root).toArray 23)).alloc (.cells pm 70)).alloc (.cells qm 70)) (w.heap.size + 1) 70 pm) := by
  have := Blk.new (w.alloc (.cells (cells8 root).toArray 23)) 70 pm
  rw [show (w.alloc (.cells (cells8 root).toArray 23)).heap.size = w.heap.size + 1 by simp] at this
  exact this.alloc _
 have hR0 : Hid (Blk (((w.alloc (.cells (cells8 root).toArray 23)).alloc (.cells pm 70)).alloc (.cells qm 70)) w.heap.size 23 (cells8 root).toArray) := ((Blk.new w _ _).alloc _).alloc _
 have c0 : (((w.alloc (.cells (cells8 root).toArray 23)).alloc (.cells pm 70)).alloc (.cells qm 70)).cell? ⟨w.heap.size + 1, 67, none⟩ = some (.slice A n0 c) := (hP0.out.cell 67).trans im
 have f0 := hP0.out.frozen 67
 clear hs63 hrt hn1 hn2 hch hd hch2 hd2 hnc hmc hB hrd0 hrf0 hn hds hm hes hrd hrf hl1 hl2 hf1 hf2 hT1 hT2 hk1 hk2 hlall hpall hpm hqm im hpc hqc
 go_enter Tryd.func8, Tryd.ntmps8
 go_wp2_with fail
 refine (hF1.out _).mono ?_
 rintro e w0 ⟨rfl, rfl⟩
 try rw [show w.heap.size + 1 + 1 = w.heap.size + 2 from rfl]
 generalize (((w.alloc (.cells (cells8 root).toArray 23)).alloc (.cells pm 70)).alloc (.cells qm 70)) = w0 at *
 have hb1 : Hid (Below w.heap.size w (w0.setCell ⟨w.heap.size + 1, 67, none⟩ (.slice A n c))) := hb0.out.setCell (by show w.heap.size ≤ w.heap.size + 1; omega) _
 have hP1 : Hid (Blk (w0.setCell ⟨w.heap.size + 1, 67, none⟩ (.slice A n c)) (w.heap.size + 1) 70 pc) := by
  have := hP0.out.set_ 67 (.slice A n c)
  rwa [setP.out] at this
 have hR1 : Hid (Blk (w0.setCell ⟨w.heap.size + 1, 67, none⟩ (.slice A n c)) w.heap.size 23 (cells8 root).toArray) := hR0.out.far (by show w.heap.size ≠ w.heap.size + 1; omega) _
 have hQ1 : Hid (Blk (w0.setCell ⟨w.heap.size + 1, 67, none⟩ (.slice A n c)) (w.heap.size + 2) 70 qm) := hQ0.out.far (by show w.heap.size + 2 ≠ w.heap.size + 1; omega) _
 have c1 : (w0.setCell ⟨w.heap.size + 1, 67, none⟩ (.slice A n c)).cell? ⟨w.heap.size + 2, 67, none⟩ = some (.slice B m0 c2) := (hQ1.out.cell 67).trans in_
 have f1 := hQ1.out.frozen 67
 clear hb0 hP0 hR0 hQ0 hF1
 go_wp2_with fail
 refine (hF2.out _).mono ?_
 rintro e w1' ⟨rfl, rfl⟩
 clear c0 f0 setP
 generalize (w0.setCell ⟨w.heap.size + 1, 67, none⟩ (.slice A n c)) = w1 at *
 have hb2 : Hid (Below w.heap.size w (w1.setCell ⟨w.heap.size + 2, 67, none⟩ (.slice B m c2))) := hb1.out.setCell (by show w.heap.size ≤ w.heap.size + 2; omega) _
 have hQ2 : Hid (Blk (w1.setCell ⟨w.heap.size + 2, 67, none⟩ (.slice B m c2)) (w.heap.size + 2) 70 qc) := by
  have := hQ1.out.set_ 67 (.slice B m c2)
  rwa [setQ.out] at this
 have hR2 : Hid (Blk (w1.setCell ⟨w.heap.size + 2, 67, none⟩ (.slice B m c2)) w.heap.size 23 (cells8 root).toArray) := hR1.out.far (by show w.heap.size ≠ w.heap.size + 2; omega) _
 have hP2 : Hid (Blk (w1.setCell ⟨w.heap.size + 2, 67, none⟩ (.slice B m c2)) (w.heap.size + 1) 70 pc) := hP1.out.far (by show w.heap.size + 1 ≠ w.heap.size + 2; omega) _
 clear hb1 hP1 hR1 hQ1 hF2 in_ setQ
 go_upto_region 3 with fail
 clear c1 f1
 generalize (w1.setCell ⟨w.heap.size + 2, 67, none⟩ (.slice B m c2)) = w3 at *
 have hRw := Lib.hid (fun w' (h : Below w3.heap.size w3 w') => Blk.onS hR2.out h)
 have hPw := Lib.hid (fun w' (h : Below w3.heap.size w3 w') => Blk.onS hP2.out h)
 have hQw := Lib.hid (fun w' (h : Below w3.heap.size w3 w') => Blk.onS hQ2.out h)
 clear hR2 hP2 hQ2
 go_cut [9] from 20 to 53 (fun v wr' => v = .bool want ∧ Hid (Below w3.heap.size w3 wr'))
 case first =>
  cases b1 with
  | true =>
   cases b2 with
   | true =>
    cases sn with
    | false =>
     have hsl := str_no hsn
     obtain rfl : false = want := hwant.out
     refine q_plain (Class w3) (Class.mk_ (Below.refl _ _)) ?_
     refine q_move rfl (.tmp 0) rfl ?_
     (intro K k; go_simp; apply k; clear k K)
     refine q_row rfl 23 (.tmp 5) rfl w.heap.size rfl 23 ((cells8 root).toArray) (0, 0) _ (fun w' hw' => hRw.out w' hw'.below) Tryd.underlying23 rfl Fr.out.size ?_
     (intro K k; go_simp; apply k; clear k K)
     refine q_row rfl 70 (.tmp 6) rfl (w.heap.size + 1) rfl 70 (pc) (0, 0) _ (fun w' hw' => hPw.out w' hw'.below) Tryd.underlying70 rfl szP.out ?_
     (intro K k; go_simp; apply k; clear k K)
     refine q_fn (v := .int .i64 a1) (args := #[.int .i64 s, .agg (cells8 root).toArray, .agg pc]) rfl _ _ rfl rfl Tryd.func36 (by kernel_rfl) (by kernel_rfl) (fun w' hw' => (hI1.out w' (hb2.out.trans (hw'.below.mono hb2.out.size))).mono (fun e w'' ⟨he, hb⟩ => ⟨he, hw'.next hb⟩)) ?_
     (intro K k; go_simp; apply k; clear k K)
     refine Want.qv0 (.bool true) ?_
     (intro K k; go_simp; apply k; clear k K)
     refine Want.qv0 (.bool true) ?_
     (intro K k; go_simp; apply k; clear k K)
     refine q_move rfl (.tmp 0) rfl ?_
     (intro K k; go_simp; apply k; clear k K)
     refine q_row rfl 23 (.tmp 5) rfl w.heap.size rfl 23 ((cells8 root).toArray) (0, 0) _ (fun w' hw' => hRw.out w' hw'.below) Tryd.underlying23 rfl Fr.out.size ?_
     (intro K k; go_simp; apply k; clear k K)
     refine q_row rfl 70 (.tmp 7) rfl (w.heap.size + 2) rfl 70 (qc) (0, 0) _ (fun w' hw' => hQw.out w' hw'.below) Tryd.underlying70 rfl szQ.out ?_
     (intro K k; go_simp; apply k; clear k K)
     refine q_fn (v := .int .i64 a2) (args := #[.int .i64 s, .agg (cells8 root).toArray, .agg qc]) rfl _ _ rfl rfl Tryd.func36 (by kernel_rfl) (by kernel_rfl) (fun w' hw' => (hI2.out w' (hb2.out.trans (hw'.below.mono hb2.out.size))).mono (fun e w'' ⟨he, hb⟩ => ⟨he, hw'.next hb⟩)) ?_
     (intro K k; go_simp; apply k; clear k K)
     refine Want.qv0 (.bool true) ?_
     (intro K k; go_simp; apply k; clear k K)
     refine Want.qv0 (.bool true) ?_
     (intro K k; go_simp; apply k; clear k K)
     refine Want.qv0 (.bool true) ?_
     (intro K k; go_simp; apply k; clear k K)
     refine Want.qv0 (.pointer (some ⟨w.heap.size + 1, 0, none⟩)) ?_
     (intro K k; go_simp; apply k; clear k K)
     refine q_val (v := .string s1) rfl (fun w' hw' => by have h := ((hPw.out w' hw'.below).cell 0).trans ip0.out; go_simp) ?_
     (intro K k; go_simp; apply k; clear k K)
     refine Want.qv0 (.pointer (some ⟨w.heap.size + 2, 0, none⟩)) ?_
     (intro K k; go_simp; apply k; clear k K)
     refine q_val (v := .string s2) rfl (fun w' hw' => by have h := ((hQw.out w' hw'.below).cell 0).trans iq0.out; go_simp) ?_
     (intro K k; go_simp; apply k; clear k K)
     refine q_val (v := .bool false) rfl (fun w' hw' => by have h := hsl; go_simp) ?_
     (intro K k; go_simp; apply k; clear k K)
     refine Want.qv0 (.bool false) ?_
     (intro K k; go_simp; apply k; clear k K)
     refine Want.qv0 (.bool false) ?_
     (intro K k; go_simp; apply k; clear k K)
     refine q_skip rfl ?_
     (intro K k; go_simp; apply k; clear k K)
     refine q_skip rfl ?_
     (intro K k; go_simp; apply k; clear k K)
     refine q_skip rfl ?_
     (intro K k; go_simp; apply k; clear k K)
     refine q_skip rfl ?_
     (intro K k; go_simp; apply k; clear k K)
     refine q_skip rfl ?_
     (intro K k; go_simp; apply k; clear k K)
     refine q_skip rfl ?_
     (intro K k; go_simp; apply k; clear k K)
     refine q_skip rfl ?_
     (intro K k; go_simp; apply k; clear k K)
     refine q_skip rfl ?_
     (intro K k; go_simp; apply k; clear k K)
     refine q_skip rfl ?_
     (intro K k; go_simp; apply k; clear k K)
     refine q_skip rfl ?_
     (intro K k; go_simp; apply k; clear k K)
     refine q_skip rfl ?_
     (intro K k; go_simp; apply k; clear k K)
     refine q_skip rfl ?_
     (intro K k; go_simp; apply k; clear k K)
     refine Want.qv0 (.bool false) ?_
     (intro K k; go_simp; apply k; clear k K)
     refine Want.qv0 (.bool false) ?_
     (intro K k; go_simp; apply k; clear k K)
     refine q_nil ?_
     intro w7 hw7
     have h7 : Hid (Below w3.heap.size w3 w7) := hw7.below
     go_wp2_with fail
     go_meet
     case rel => exact ⟨rfl, h7.out⟩
    | true =>
     have hsl := str_yes hsn
     cases fe with
     | true =>
      have hff : ¬ f = f2 := bne_iff_ne.1 hfe
      obtain rfl : true = want := hwant.out
      refine q_plain (Class w3) (Class.mk_ (Below.refl _ _)) ?_
      refine q_move rfl (.tmp 0) rfl ?_
      (intro K k; go_simp; apply k; clear k K)
      refine q_row rfl 23 (.tmp 5) rfl w.heap.size rfl 23 ((cells8 root).toArray) (0, 0) _ (fun w' hw' => hRw.out w' hw'.below) Tryd.underlying23 rfl Fr.out.size ?_
      (intro K k; go_simp; apply k; clear k K)
      refine q_row rfl 70 (.tmp 6) rfl (w.heap.size + 1) rfl 70 (pc) (0, 0) _ (fun w' hw' => hPw.out w' hw'.below) Tryd.underlying70 rfl szP.out ?_
      (intro K k; go_simp; apply k; clear k K)
      refine q_fn (v := .int .i64 a1) (args := #[.int .i64 s, .agg (cells8 root).toArray, .agg pc]) rfl _ _ rfl rfl Tryd.func36 (by kernel_rfl) (by kernel_rfl) (fun w' hw' => (hI1.out w' (hb2.out.trans (hw'.below.mono hb2.out.size))).mono (fun e w'' ⟨he, hb⟩ => ⟨he, hw'.next hb⟩)) ?_
      (intro K k; go_simp; apply k; clear k K)
      refine Want.qv0 (.bool true) ?_
      (intro K k; go_simp; apply k; clear k K)
      refine Want.qv0 (.bool true) ?_
      (intro K k; go_simp; apply k; clear k K)
      refine q_move rfl (.tmp 0) rfl ?_
      (intro K k; go_simp; apply k; clear k K)
      refine q_row rfl 23 (.tmp 5) rfl w.heap.size rfl 23 ((cells8 root).toArray) (0, 0) _ (fun w' hw' => hRw.out w' hw'.below) Tryd.underlying23 rfl Fr.out.size ?_
      (intro K k; go_simp; apply k; clear k K)
      refine q_row rfl 70 (.tmp 7) rfl (w.heap.size + 2) rfl 70 (qc) (0, 0) _ (fun w' hw' => hQw.out w' hw'.below) Tryd.underlying70 rfl szQ.out ?_
      (intro K k; go_simp; apply k; clear k K)
      refine q_fn (v := .int .i64 a2) (args := #[.int .i64 s, .agg (cells8 root).toArray, .agg qc]) rfl _ _ rfl rfl Tryd.func36 (by kernel_rfl) (by kernel_rfl) (fun w' hw' => (hI2.out w' (hb2.out.trans (hw'.below.mono hb2.out.size))).mono (fun e w'' ⟨he, hb⟩ => ⟨he, hw'.next hb⟩)) ?_
      (intro K k; go_simp; apply k; clear k K)
      refine Want.qv0 (.bool true) ?_
      (intro K k; go_simp; apply k; clear k K)
      refine Want.qv0 (.bool true) ?_
      (intro K k; go_simp; apply k; clear k K)
      refine Want.qv0 (.bool true) ?_
      (intro K k; go_simp; apply k; clear k K)
      refine Want.qv0 (.pointer (some ⟨w.heap.size + 1, 0, none⟩)) ?_
      (intro K k; go_simp; apply k; clear k K)
      refine q_val (v := .string s1) rfl (fun w' hw' => by have h := ((hPw.out w' hw'.below).cell 0).trans ip0.out; go_simp) ?_
      (intro K k; go_simp; apply k; clear k K)
      refine Want.qv0 (.pointer (some ⟨w.heap.size + 2, 0, none⟩)) ?_
      (intro K k; go_simp; apply k; clear k K)
      refine q_val (v := .string s2) rfl (fun w' hw' => by have h := ((hQw.out w' hw'.below).cell 0).trans iq0.out; go_simp) ?_
      (intro K k; go_simp; apply k; clear k K)
      refine q_val (v := .bool true) rfl (fun w' hw' => by have h := hsl; go_simp) ?_
      (intro K k; go_simp; apply k; clear k K)
      refine Want.qv0 (.bool true) ?_
      (intro K k; go_simp; apply k; clear k K)
      refine Want.qv0 (.bool true) ?_
      (intro K k; go_simp; apply k; clear k K)
      refine Want.qv0 (.pointer (some ⟨w.heap.size + 1, 1, none⟩)) ?_
      (intro K k; go_simp; apply k; clear k K)
      refine q_val (v := .bool f) rfl (fun w' hw' => by have h := ((hPw.out w' hw'.below).cell 1).trans ip1.out; go_simp) ?_
      (intro K k; go_simp; apply k; clear k K)
      refine Want.qv0 (.pointer (some ⟨w.heap.size + 2, 1, none⟩)) ?_
      (intro K k; go_simp; apply k; clear k K)
      refine q_val (v := .bool f2) rfl (fun w' hw' => by have h := ((hQw.out w' hw'.below).cell 1).trans iq1.out; go_simp) ?_
      (intro K k; go_simp; apply k; clear k K)
      refine q_val (v := .bool true) rfl (fun w' hw' => by have h := hff; go_simp) ?_
      (intro K k; go_simp; apply k; clear k K)
      refine Want.qv0 (.bool true) ?_
      (intro K k; go_simp; apply k; clear k K)
      refine q_skip rfl ?_
      (intro K k; go_simp; apply k; clear k K)
      refine q_skip rfl ?_
      (intro K k; go_simp; apply k; clear k K)
      refine q_skip rfl ?_
      (intro K k; go_simp; apply k; clear k K)
      refine q_skip rfl ?_
      (intro K k; go_simp; apply k; clear k K)
      refine q_skip rfl ?_
      (intro K k; go_simp; apply k; clear k K)
      refine Want.qv0 (.bool true) ?_
      (intro K k; go_simp; apply k; clear k K)
      refine Want.qv0 (.bool true) ?_
      (intro K k; go_simp; apply k; clear k K)
      refine Want.qv0 (.bool true) ?_
      (intro K k; go_simp; apply k; clear k K)
      refine q_nil ?_
      intro w7 hw7
      have h7 : Hid (Below w3.heap.size w3 w7) := hw7.below
      go_wp2_with fail
      go_meet
      case rel => exact ⟨rfl, h7.out⟩
     | false =>
      have hff : f = f2 := by cases f <;> cases f2 <;> first | rfl | cases hfe
      cases ee with
      | true =>
       obtain rfl : false = want := hwant.out
       refine q_plain (Class w3) (Class.mk_ (Below.refl _ _)) ?_
       refine q_move rfl (.tmp 0) rfl ?_
       (intro K k; go_simp; apply k; clear k K)
       refine q_row rfl 23 (.tmp 5) rfl w.heap.size rfl 23 ((cells8 root).toArray) (0, 0) _ (fun w' hw' => hRw.out w' hw'.below) Tryd.underlying23 rfl Fr.out.size ?_
       (intro K k; go_simp; apply k; clear k K)
       refine q_row rfl 70 (.tmp 6) rfl (w.heap.size + 1) rfl 70 (pc) (0, 0) _ (fun w' hw' => hPw.out w' hw'.below) Tryd.underlying70 rfl szP.out ?_
       (intro K k; go_simp; apply k; clear k K)
       refine q_fn (v := .int .i64 a1) (args := #[.int .i64 s, .agg (cells8 root).toArray, .agg pc]) rfl _ _ rfl rfl Tryd.func36 (by kernel_rfl) (by kernel_rfl) (fun w' hw' => (hI1.out w' (hb2.out.trans (hw'.below.mono hb2.out.size))).mono (fun e w'' ⟨he, hb⟩ => ⟨he, hw'.next hb⟩)) ?_
       (intro K k; go_simp; apply k; clear k K)
       refine Want.qv0 (.bool true) ?_
       (intro K k; go_simp; apply k; clear k K)
       refine Want.qv0 (.bool true) ?_
       (intro K k; go_simp; apply k; clear k K)
       refine q_move rfl (.tmp 0) rfl ?_
       (intro K k; go_simp; apply k; clear k K)
       refine q_row rfl 23 (.tmp 5) rfl w.heap.size rfl 23 ((cells8 root).toArray) (0, 0) _ (fun w' hw' => hRw.out w' hw'.below) Tryd.underlying23 rfl Fr.out.size ?_
       (intro K k; go_simp; apply k; clear k K)
       refine q_row rfl 70 (.tmp 7) rfl (w.heap.size + 2) rfl 70 (qc) (0, 0) _ (fun w' hw' => hQw.out w' hw'.below) Tryd.underlying70 rfl szQ.out ?_
       (intro K k; go_simp; apply k; clear k K)
       refine q_fn (v := .int .i64 a2) (args := #[.int .i64 s, .agg (cells8 root).toArray, .agg qc]) rfl _ _ rfl rfl Tryd.func36 (by kernel_rfl) (by kernel_rfl) (fun w' hw' => (hI2.out w' (hb2.out.trans (hw'.below.mono hb2.out.size))).mono (fun e w'' ⟨he, hb⟩ => ⟨he, hw'.next hb⟩)) ?_
       (intro K k; go_simp; apply k; clear k K)
       refine Want.qv0 (.bool true) ?_
       (intro K k; go_simp; apply k; clear k K)
       refine Want.qv0 (.bool true) ?_
       (intro K k; go_simp; apply k; clear k K)
       refine Want.qv0 (.bool true) ?_
       (intro K k; go_simp; apply k; clear k K)
       refine Want.qv0 (.pointer (some ⟨w.heap.size + 1, 0, none⟩)) ?_
       (intro K k; go_simp; apply k; clear k K)
       refine q_val (v := .string s1) rfl (fun w' hw' => by have h := ((hPw.out w' hw'.below).cell 0).trans ip0.out; go_simp) ?_
       (intro K k; go_simp; apply k; clear k K)
       refine Want.qv0 (.pointer (some ⟨w.heap.size + 2, 0, none⟩)) ?_
       (intro K k; go_simp; apply k; clear k K)
       refine q_val (v := .string s2) rfl (fun w' hw' => by have h := ((hQw.out w' hw'.below).cell 0).trans iq0.out; go_simp) ?_
       (intro K k; go_simp; apply k; clear k K)
       refine q_val (v := .bool true) rfl (fun w' hw' => by have h := hsl; go_simp) ?_
       (intro K k; go_simp; apply k; clear k K)
       refine Want.qv0 (.bool true) ?_
       (intro K k; go_simp; apply k; clear k K)
       refine Want.qv0 (.bool true) ?_
       (intro K k; go_simp; apply k; clear k K)
       refine Want.qv0 (.pointer (some ⟨w.heap.size + 1, 1, none⟩)) ?_
       (intro K k; go_simp; apply k; clear k K)
       refine q_val (v := .bool f) rfl (fun w' hw' => by have h := ((hPw.out w' hw'.below).cell 1).trans ip1.out; go_simp) ?_
       (intro K k; go_simp; apply k; clear k K)
       refine Want.qv0 (.pointer (some ⟨w.heap.size + 2, 1, none⟩)) ?_
       (intro K k; go_simp; apply k; clear k K)
       refine q_val (v := .bool f2) rfl (fun w' hw' => by have h := ((hQw.out w' hw'.below).cell 1).trans iq1.out; go_simp) ?_
       (intro K k; go_simp; apply k; clear k K)
       refine q_val (v := .bool false) rfl (fun w' hw' => by have h := hff; go_simp) ?_
       (intro K k; go_simp; apply k; clear k K)
       refine Want.qv0 (.bool false) ?_
       (intro K k; go_simp; apply k; clear k K)
       refine Want.qv0 (.pointer (some ⟨w.heap.size + 1, 2, none⟩)) ?_
       (intro K k; go_simp; apply k; clear k K)
       refine q_part rfl 68 (.tmp 46) rfl (w.heap.size + 1) (2) rfl (entC cnt ch) _ (fun w' hw' => fun j v hv => ((hPw.out w' hw'.below).cell (2 + j)).trans (ip2.out j v hv)) Tryd.underlying68 rfl sE1.out ?_
       (intro K k; go_simp; apply k; clear k K)
       refine Want.qv0 (.pointer (some ⟨w.heap.size + 2, 2, none⟩)) ?_
       (intro K k; go_simp; apply k; clear k K)
       refine q_part rfl 68 (.tmp 48) rfl (w.heap.size + 2) (2) rfl (entC cnt2 ch2) _ (fun w' hw' => fun j v hv => ((hQw.out w' hw'.below).cell (2 + j)).trans (iq2.out j v hv)) Tryd.underlying68 rfl sE2.out ?_
       (intro K k; go_simp; apply k; clear k K)
       refine q_val (v := .bool false) rfl (fun w' hw' => run_cmp rfl rfl rfl qEn (hq.out w')) ?_
       (intro K k; go_simp; apply k; clear k K)
       refine Want.qv0 (.bool false) ?_
       (intro K k; go_simp; apply k; clear k K)
       refine Want.qv0 (.bool false) ?_
       (intro K k; go_simp; apply k; clear k K)
       refine Want.qv0 (.bool false) ?_
       (intro K k; go_simp; apply k; clear k K)
       refine q_nil ?_
       intro w7 hw7
       have h7 : Hid (Below w3.heap.size w3 w7) := hw7.below
       go_wp2_with fail
       go_meet
       case rel => exact ⟨rfl, h7.out⟩
      | false =>
       obtain rfl : true = want := hwant.out
       refine q_plain (Class w3) (Class.mk_ (Below.refl _ _)) ?_
       refine q_move rfl (.tmp 0) rfl ?_
       (intro K k; go_simp; apply k; clear k K)
       refine q_row rfl 23 (.tmp 5) rfl w.heap.size rfl 23 ((cells8 root).toArray) (0, 0) _ (fun w' hw' => hRw.out w' hw'.below) Tryd.underlying23 rfl Fr.out.size ?_
       (intro K k; go_simp; apply k; clear k K)
       refine q_row rfl 70 (.tmp 6) rfl (w.heap.size + 1) rfl 70 (pc) (0, 0) _ (fun w' hw' => hPw.out w' hw'.below) Tryd.underlying70 rfl szP.out ?_
       (intro K k; go_simp; apply k; clear k K)
       refine q_fn (v := .int .i64 a1) (args := #[.int .i64 s, .agg (cells8 root).toArray, .agg pc]) rfl _ _ rfl rfl Tryd.func36 (by kernel_rfl) (by kernel_rfl) (fun w' hw' => (hI1.out w' (hb2.out.trans (hw'.below.mono hb2.out.size))).mono (fun e w'' ⟨he, hb⟩ => ⟨he, hw'.next hb⟩)) ?_
       (intro K k; go_simp; apply k; clear k K)
       refine Want.qv0 (.bool true) ?_
       (intro K k; go_simp; apply k; clear k K)
       refine Want.qv0 (.bool true) ?_
       (intro K k; go_simp; apply k; clear k K)
       refine q_move rfl (.tmp 0) rfl ?_
       (intro K k; go_simp; apply k; clear k K)
       refine q_row rfl 23 (.tmp 5) rfl w.heap.size rfl 23 ((cells8 root).toArray) (0, 0) _ (fun w' hw' => hRw.out w' hw'.below) Tryd.underlying23 rfl Fr.out.size ?_
       (intro K k; go_simp; apply k; clear k K)
       refine q_row rfl 70 (.tmp 7) rfl (w.heap.size + 2) rfl 70 (qc) (0, 0) _ (fun w' hw' => hQw.out w' hw'.below) Tryd.underlying70 rfl szQ.out ?_
       (intro K k; go_simp; apply k; clear k K)
       refine q_fn (v := .int .i64 a2) (args := #[.int .i64 s, .agg (cells8 root).toArray, .agg qc]) rfl _ _ rfl rfl Tryd.func36 (by kernel_rfl) (by kernel_rfl) (fun w' hw' => (hI2.out w' (hb2.out.trans (hw'.below.mono hb2.out.size))).mono (fun e w'' ⟨he, hb⟩ => ⟨he, hw'.next hb⟩)) ?_
       (intro K k; go_simp; apply k; clear k K)
       refine Want.qv0 (.bool true) ?_
       (intro K k; go_simp; apply k; clear k K)
       refine Want.qv0 (.bool true) ?_
       (intro K k; go_simp; apply k; clear k K)
       refine Want.qv0 (.bool true) ?_
       (intro K k; go_simp; apply k; clear k K)
       refine Want.qv0 (.pointer (some ⟨w.heap.size + 1, 0, none⟩)) ?_
       (intro K k; go_simp; apply k; clear k K)
       refine q_val (v := .string s1) rfl (fun w' hw' => by have h := ((hPw.out w' hw'.below).cell 0).trans ip0.out; go_simp) ?_
       (intro K k; go_simp; apply k; clear k K)
       refine Want.qv0 (.pointer (some ⟨w.heap.size + 2, 0, none⟩)) ?_
       (intro K k; go_simp; apply k; clear k K)
       refine q_val (v := .string s2) rfl (fun w' hw' => by have h := ((hQw.out w' hw'.below).cell 0).trans iq0.out; go_simp) ?_
       (intro K k; go_simp; apply k; clear k K)
       refine q_val (v := .bool true) rfl (fun w' hw' => by have h := hsl; go_simp) ?_
       (intro K k; go_simp; apply k; clear k K)
       refine Want.qv0 (.bool true) ?_
       (intro K k; go_simp; apply k; clear k K)
       refine Want.qv0 (.bool true) ?_
       (intro K k; go_simp; apply k; clear k K)
       refine Want.qv0 (.pointer (some ⟨w.heap.size + 1, 1, none⟩)) ?_
       (intro K k; go_simp; apply k; clear k K)
       refine q_val (v := .bool f) rfl (fun w' hw' => by have h := ((hPw.out w' hw'.below).cell 1).trans ip1.out; go_simp) ?_
       (intro K k; go_simp; apply k; clear k K)
       refine Want.qv0 (.pointer (some ⟨w.heap.size + 2, 1, none⟩)) ?_
       (intro K k; go_simp; apply k; clear k K)
       refine q_val (v := .bool f2) rfl (fun w' hw' => by have h := ((hQw.out w' hw'.below).cell 1).trans iq1.out; go_simp) ?_
       (intro K k; go_simp; apply k; clear k K)
       refine q_val (v := .bool false) rfl (fun w' hw' => by have h := hff; go_simp) ?_
       (intro K k; go_simp; apply k; clear k K)
       refine Want.qv0 (.bool false) ?_
       (intro K k; go_simp; apply k; clear k K)
       refine Want.qv0 (.pointer (some ⟨w.heap.size + 1, 2, none⟩)) ?_
       (intro K k; go_simp; apply k; clear k K)
       refine q_part rfl 68 (.tmp 46) rfl (w.heap.size + 1) (2) rfl (entC cnt ch) _ (fun w' hw' => fun j v hv => ((hPw.out w' hw'.below).cell (2 + j)).trans (ip2.out j v hv)) Tryd.underlying68 rfl sE1.out ?_
       (intro K k; go_simp; apply k; clear k K)
       refine Want.qv0 (.pointer (some ⟨w.heap.size + 2, 2, none⟩)) ?_
       (intro K k; go_simp; apply k; clear k K)
       refine q_part rfl 68 (.tmp 48) rfl (w.heap.size + 2) (2) rfl (entC cnt2 ch2) _ (fun w' hw' => fun j v hv => ((hQw.out w' hw'.below).cell (2 + j)).trans (iq2.out j v hv)) Tryd.underlying68 rfl sE2.out ?_
       (intro K k; go_simp; apply k; clear k K)
       refine q_val (v := .bool true) rfl (fun w' hw' => run_cmp rfl rfl rfl qEn (hq.out w')) ?_
       (intro K k; go_simp; apply k; clear k K)
       refine Want.qv0 (.bool true) ?_
       (intro K k; go_simp; apply k; clear k K)
       refine Want.qv0 (.bool true) ?_
       (intro K k; go_simp; apply k; clear k K)
       refine Want.qv0 (.bool true) ?_
       (intro K k; go_simp; apply k; clear k K)
       refine q_nil ?_
       intro w7 hw7
       have h7 : Hid (Below w3.heap.size w3 w7) := hw7.below
       go_wp2_with fail
       go_meet
       case rel => exact ⟨rfl, h7.out⟩
   | false =>
    obtain rfl : false = want := hwant.out
    refine q_plain (Class w3) (Class.mk_ (Below.refl _ _)) ?_
    refine q_move rfl (.tmp 0) rfl ?_
    (intro K k; go_simp; apply k; clear k K)
    refine q_row rfl 23 (.tmp 5) rfl w.heap.size rfl 23 ((cells8 root).toArray) (0, 0) _ (fun w' hw' => hRw.out w' hw'.below) Tryd.underlying23 rfl Fr.out.size ?_
    (intro K k; go_simp; apply k; clear k K)
    refine q_row rfl 70 (.tmp 6) rfl (w.heap.size + 1) rfl 70 (pc) (0, 0) _ (fun w' hw' => hPw.out w' hw'.below) Tryd.underlying70 rfl szP.out ?_
    (intro K k; go_simp; apply k; clear k K)
    refine q_fn (v := .int .i64 a1) (args := #[.int .i64 s, .agg (cells8 root).toArray, .agg pc]) rfl _ _ rfl rfl Tryd.func36 (by kernel_rfl) (by kernel_rfl) (fun w' hw' => (hI1.out w' (hb2.out.trans (hw'.below.mono hb2.out.size))).mono (fun e w'' ⟨he, hb⟩ => ⟨he, hw'.next hb⟩)) ?_
    (intro K k; go_simp; apply k; clear k K)
    refine Want.qv0 (.bool true) ?_
    (intro K k; go_simp; apply k; clear k K)
    refine Want.qv0 (.bool true) ?_
    (intro K k; go_simp; apply k; clear k K)
    refine q_move rfl (.tmp 0) rfl ?_
    (intro K k; go_simp; apply k; clear k K)
    refine q_row rfl 23 (.tmp 5) rfl w.heap.size rfl 23 ((cells8 root).toArray) (0, 0) _ (fun w' hw' => hRw.out w' hw'.below) Tryd.underlying23 rfl Fr.out.size ?_
    (intro K k; go_simp; apply k; clear k K)
    refine q_row rfl 70 (.tmp 7) rfl (w.heap.size + 2) rfl 70 (qc) (0, 0) _ (fun w' hw' => hQw.out w' hw'.below) Tryd.underlying70 rfl szQ.out ?_
    (intro K k; go_simp; apply k; clear k K)
    refine q_fn (v := .int .i64 a2) (args := #[.int .i64 s, .agg (cells8 root).toArray, .agg qc]) rfl _ _ rfl rfl Tryd.func36 (by kernel_rfl) (by kernel_rfl) (fun w' hw' => (hI2.out w' (hb2.out.trans (hw'.below.mono hb2.out.size))).mono (fun e w'' ⟨he, hb⟩ => ⟨he, hw'.next hb⟩)) ?_
    (intro K k; go_simp; apply k; clear k K)
    refine Want.qv0 (.bool false) ?_
    (intro K k; go_simp; apply k; clear k K)
    refine Want.qv0 (.bool false) ?_
    (intro K k; go_simp; apply k; clear k K)
    refine Want.qv0 (.bool false) ?_
    (intro K k; go_simp; apply k; clear k K)
    refine q_skip rfl ?_
    (intro K k; go_simp; apply k; clear k K)
    refine q_skip rfl ?_
    (intro K k; go_simp; apply k; clear k K)
    refine q_skip rfl ?_
    (intro K k; go_simp; apply k; clear k K)
    refine q_skip rfl ?_
    (intro K k; go_simp; apply k; clear k K)
    refine q_skip rfl ?_
    (intro K k; go_simp; apply k; clear k K)
    refine Want.qv0 (.bool false) ?_
    (intro K k; go_simp; apply k; clear k K)
    refine Want.qv0 (.bool false) ?_
    (intro K k; go_simp; apply k; clear k K)
    refine q_skip rfl ?_
    (intro K k; go_simp; apply k; clear k K)
    refine q_skip rfl ?_
    (intro K k; go_simp; apply k; clear k K)
    refine q_skip rfl ?_
    (intro K k; go_simp; apply k; clear k K)
    refine q_skip rfl ?_
    (intro K k; go_simp; apply k; clear k K)
    refine q_skip rfl ?_
    (intro K k; go_simp; apply k; clear k K)
    refine q_skip rfl ?_
    (intro K k; go_simp; apply k; clear k K)
    refine q_skip rfl ?_
    (intro K k; go_simp; apply k; clear k K)
    refine q_skip rfl ?_
    (intro K k; go_simp; apply k; clear k K)
    refine q_skip rfl ?_
    (intro K k; go_simp; apply k; clear k K)
    refine q_skip rfl ?_
    (intro K k; go_simp; apply k; clear k K)
    refine q_skip rfl ?_
    (intro K k; go_simp; apply k; clear k K)
    refine q_skip rfl ?_
    (intro K k; go_simp; apply k; clear k K)
    refine Want.qv0 (.bool false) ?_
    (intro K k; go_simp; apply k; clear k K)
    refine Want.qv0 (.bool false) ?_
    (intro K k; go_simp; apply k; clear k K)
    refine q_nil ?_
    intro w7 hw7
    have h7 : Hid (Below w3.heap.size w3 w7) := hw7.below
    go_wp2_with fail
    go_meet
    case rel => exact ⟨rfl, h7.out⟩
  | false =>
   obtain rfl : false = want := hwant.out
   refine q_plain (Class w3) (Class.mk_ (Below.refl _ _)) ?_
   refine q_move rfl (.tmp 0) rfl ?_
   (intro K k; go_simp; apply k; clear k K)
   refine q_row rfl 23 (.tmp 5) rfl w.heap.size rfl 23 ((cells8 root).toArray) (0, 0) _ (fun w' hw' => hRw.out w' hw'.below) Tryd.underlying23 rfl Fr.out.size ?_
   (intro K k; go_simp; apply k; clear k K)
   refine q_row rfl 70 (.tmp 6) rfl (w.heap.size + 1) rfl 70 (pc) (0, 0) _ (fun w' hw' => hPw.out w' hw'.below) Tryd.underlying70 rfl szP.out ?_
   (intro K k; go_simp; apply k; clear k K)
   refine q_fn (v := .int .i64 a1) (args := #[.int .i64 s, .agg (cells8 root).toArray, .agg pc]) rfl _ _ rfl rfl Tryd.func36 (by kernel_rfl) (by kernel_rfl) (fun w' hw' => (hI1.out w' (hb2.out.trans (hw'.below.mono hb2.out.size))).mono (fun e w'' ⟨he, hb⟩ => ⟨he, hw'.next hb⟩)) ?_
   (intro K k; go_simp; apply k; clear k K)
   refine Want.qv0 (.bool false) ?_
   (intro K k; go_simp; apply k; clear k K)
   refine Want.qv0 (.bool false) ?_
   (intro K k; go_simp; apply k; clear k K)
   refine q_skip rfl ?_
   (intro K k; go_simp; apply k; clear k K)
   refine q_skip rfl ?_
   (intro K k; go_simp; apply k; clear k K)
   refine q_skip rfl ?_
   (intro K k; go_simp; apply k; clear k K)
   refine q_skip rfl ?_
   (intro K k; go_simp; apply k; clear k K)
   refine q_skip rfl ?_
   (intro K k; go_simp; apply k; clear k K)
   refine Want.qv0 (.bool false) ?_
   (intro K k; go_simp; apply k; clear k K)
   refine Want.qv0 (.bool false) ?_
   (intro K k; go_simp; apply k; clear k K)
   refine q_skip rfl ?_
   (intro K k; go_simp; apply k; clear k K)
   refine q_skip rfl ?_
   (intro K k; go_simp; apply k; clear k K)
   refine q_skip rfl ?_
   (intro K k; go_simp; apply k; clear k K)
   refine q_skip rfl ?_
   (intro K k; go_simp; apply k; clear k K)
   refine q_skip rfl ?_
   (intro K k; go_simp; apply k; clear k K)
   refine Want.qv0 (.bool false) ?_
   (intro K k; go_simp; apply k; clear k K)
   refine Want.qv0 (.bool false) ?_
   (intro K k; go_simp; apply k; clear k K)
   refine q_skip rfl ?_
   (intro K k; go_simp; apply k; clear k K)
   refine q_skip rfl ?_
   (intro K k; go_simp; apply k; clear k K)
   refine q_skip rfl ?_
   (intro K k; go_simp; apply k; clear k K)
   refine q_skip rfl ?_
   (intro K k; go_simp; apply k; clear k K)
   refine q_skip rfl ?_
   (intro K k; go_simp; apply k; clear k K)
   refine q_skip rfl ?_
   (intro K k; go_simp; apply k; clear k K)
   refine q_skip rfl ?_
   (intro K k; go_simp; apply k; clear k K)
   refine q_skip rfl ?_
   (intro K k; go_simp; apply k; clear k K)
   refine q_skip rfl ?_
   (intro K k; go_simp; apply k; clear k K)
   refine q_skip rfl ?_
   (intro K k; go_simp; apply k; clear k K)
   refine q_skip rfl ?_
   (intro K k; go_simp; apply k; clear k K)
   refine q_skip rfl ?_
   (intro K k; go_simp; apply k; clear k K)
   refine Want.qv0 (.bool false) ?_
   (intro K k; go_simp; apply k; clear k K)
   refine Want.qv0 (.bool false) ?_
   (intro K k; go_simp; apply k; clear k K)
   refine q_nil ?_
   intro w7 hw7
   have h7 : Hid (Below w3.heap.size w3 w7) := hw7.below
   go_wp2_with fail
   go_meet
   case rel => exact ⟨rfl, h7.out⟩
 case rest =>
  obtain ⟨rfl, hbe⟩ := hcut
  obtain ⟨we, rfl⟩ : ∃ we, we = wc := ⟨_, rfl⟩
  clear hI1 hI2 hq hwant q1 q2 hsn hfe ip0 ip1 ip2 iq0 iq1 iq2
  have hbwe : Hid (Below w.heap.size w we) := hb2.out.trans (hbe.out.mono hb2.out.size)
  go_wp2_with (first
   | ((with_reducible change wpList _ _ _ (⟨some 55, _, _, _, _, _⟩ :: _) _ _); refine wpList_load_row (o := ⟨some 55, _, _, _, _, _⟩) rfl 23 (.tmp 5) rfl (w.heap.size) rfl 23 ((cells8 root).toArray) (0, 0) _ (hRw.out we hbe.out) Tryd.underlying23 rfl Fr.out.size ?_)
   | ((with_reducible change wpList _ _ _ (⟨some 56, _, _, _, _, _⟩ :: _) _ _); refine wpList_load_row (o := ⟨some 56, _, _, _, _, _⟩) rfl 70 (.tmp 6) rfl ((w.heap.size + 1)) rfl 70 (pc) (0, 0) _ (hPw.out we hbe.out) Tryd.underlying70 rfl szP.out ?_)
   | ((with_reducible change wpList _ _ _ (⟨some 57, _, _, _, _, _⟩ :: _) _ _); refine wpList_load_row (o := ⟨some 57, _, _, _, _, _⟩) rfl 70 (.tmp 7) rfl ((w.heap.size + 2)) rfl 70 (qc) (0, 0) _ (hQw.out we hbe.out) Tryd.underlying70 rfl szQ.out ?_))
  refine (hTX.out we hbwe.out).mono ?_
  rintro e' w5 ⟨hk5, xa, xb, ok, rfl, hXR⟩
  have h5 : Hid (Below w3.heap.size w3 w5) := hbe.out.trans (hk5.mono hbe.out.size)
  have hFE : Hid (FitE #[xa, xb]) := XR.fit hXR
  replace hXR := Lib.hid hXR
  clear hk5 hTX hbwe hbe
  go_upto_region 5 with ((with_reducible change wpList _ _ _ ({ dst := none, op := Op.store 82 (.tmp 10) _, type := _, pos := _, after := _, guard := _ } :: _) _ _); refine wpList_store_whole (o := ⟨none, _, _, _, _, _⟩) rfl 82 (.tmp 10) (.tmp 59) rfl (w5.heap.size) (#[xa, xb]) rfl rfl 82 (#[Value.slice none 0 0, Value.slice none 0 0]) (Blk.new w5 _ _) hFE.out.size hFE.out.zero hFE.out.one ?_; intro w6 hM kk; have k56 : Below w5.heap.size w5 w6 := kept_fresh kk; have h6 : Hid (Below w3.heap.size w3 w6) := h5.out.trans (k56.mono h5.out.size); replace hXR := Lib.hid (hXR.out.below k56); replace hM := Lib.hid hM; clear kk k56 h5)
  have hbwd : Hid (Below w.heap.size w w6) := hb2.out.trans (h6.out.mono hb2.out.size)
  have s0 : Hid (Below w6.heap.size w6 w6.drew) := (Below.refl _ _).drew
  refine held_start (fun w' => Below w6.heap.size w6 w') 13 rfl (by kernel_rfl) ?_
  refine Held.tk0 (i := 0) (v := .int .i64 s) rfl s0.out (fun w' hw' => run_mv (.tmp 0) rfl w') ?_
  (intro K k; go_simp; apply k; clear k K)
  refine Held.tk0 (i := 1) (v := .agg (#[xa, xb])) rfl s0.out (fun w' hw' => exec_row 82 (.tmp 10) rfl (w5.heap.size) rfl 82 (#[xa, xb]) (0, 0) _ ((show Blk w' w5.heap.size 82 #[xa, xb] from (hw'.block _ hM.out.lt).trans hM.out)) Tryd.underlying82 rfl sizeE2) ?_
  (intro K k; go_simp; apply k; clear k K)
  refine Held.tk0 (i := 2) (v := .bool ok) rfl s0.out (fun w' hw' => run_mv (.tmp 11) rfl w') ?_
  (intro K k; go_simp; apply k; clear k K)
  refine Held.tk0 (i := 3) (v := .bool want) rfl s0.out (fun w' hw' => run_mv (.tmp 9) rfl w') ?_
  (intro K k; go_simp; apply k; clear k K)
  refine Held.tk0 (i := 4) (v := .int .i64 s) rfl s0.out (fun w' hw' => run_mv (.tmp 0) rfl w') ?_
  (intro K k; go_simp; apply k; clear k K)
  refine Held.tk0 (i := 5) (v := .agg (pc)) rfl s0.out (fun w' hw' => exec_row 70 (.tmp 6) rfl ((w.heap.size + 1)) rfl 70 (pc) (0, 0) _ (hPw.out w' (h6.out.trans (hw'.mono h6.out.size))) Tryd.underlying70 rfl szP.out) ?_
  (intro K k; go_simp; apply k; clear k K)
  refine Held.tk0 (i := 7) (v := .int .i64 s) rfl s0.out (fun w' hw' => run_mv (.tmp 0) rfl w') ?_
  (intro K k; go_simp; apply k; clear k K)
  refine Held.tk0 (i := 8) (v := .agg (qc)) rfl s0.out (fun w' hw' => exec_row 70 (.tmp 7) rfl ((w.heap.size + 2)) rfl 70 (qc) (0, 0) _ (hQw.out w' (h6.out.trans (hw'.mono h6.out.size))) Tryd.underlying70 rfl szQ.out) ?_
  (intro K k; go_simp; apply k; clear k K)
  refine held_only (i := 6) rfl (by kernel_rfl) (by rfl) (fun K hK => ?_)
  refine wp_fn (R := fun v w'' => ∃ xs, w''.ownsRow w6.heap.size 27 1 v k1 xs ∧ Ty w'' xs T1 ∧ Below (w6.drew).heap.size (w6.drew) w'' ∧ (k1 = 0 → v = .slice none 0 0)) (args := #[.int .i64 s, .agg pc]) _ _ rfl rfl Tryd.func45 (by kernel_rfl) (by kernel_rfl) ((hRa.out _ (hbwd.out.trans (s0.out.mono hbwd.out.size))).mono fun e w'' ⟨v, xs, he, ho, hty, hb, hz⟩ => ⟨_, he, xs, own_down ho s0.out.size, hty, hb, hz⟩) ?_
  rintro vF w8 ⟨xsF, hoF, tyF, kk1, hzzk1⟩
  have h8 : Hid (Below w6.heap.size w6 w8) := s0.out.trans (kk1.mono s0.out.size)
  replace hoF := Lib.hid hoF
  replace tyF := Lib.hid tyF
  replace hzzk1 := Lib.hid hzzk1
  clear kk1
  go_simp
  refine hK _ _ h8.out ?_
  clear hK K
  refine held_only (i := 9) rfl (by kernel_rfl) (by rfl) (fun K hK => ?_)
  refine wp_fn (R := fun v w'' => ∃ xs, w''.ownsRow w6.heap.size 27 1 v k2 xs ∧ Ty w'' xs T2 ∧ Below (w8).heap.size (w8) w'' ∧ (k2 = 0 → v = .slice none 0 0)) (args := #[.int .i64 s, .agg qc]) _ _ rfl rfl Tryd.func45 (by kernel_rfl) (by kernel_rfl) ((hRb.out _ (hbwd.out.trans (h8.out.mono hbwd.out.size))).mono fun e w'' ⟨v, xs, he, ho, hty, hb, hz⟩ => ⟨_, he, xs, own_down ho h8.out.size, hty, hb, hz⟩) ?_
  rintro vS w9 ⟨xsS, hoS, tyS, kk1, hzzk2⟩
  have h9 : Hid (Below w6.heap.size w6 w9) := h8.out.trans (kk1.mono h8.out.size)
  replace hoF := Lib.hid (Own.own_below hoF.out kk1)
  replace tyF := Lib.hid (tyF.out.below kk1)
  replace hoS := Lib.hid hoS
  replace tyS := Lib.hid tyS
  clear kk1 hzzk2
  go_simp
  refine hK _ _ h9.out ?_
  clear hK K
  obtain ⟨A1', c1', e1', -, -, hnil1', -, hA1'⟩ := Append.Own.reads hoF.out
  obtain ⟨A2', c2', e2', -, -, hnil2', hr2', -⟩ := Append.Own.reads hoS.out
  subst e1' e2'
  have hone := Lib.hid (Ty.one hoS.out tyS.out hk2h.out)
  have hmx : Hid (k1 + k2 ≤ maxLen) := by have := hk1s.out; have := hk2s.out; show _ ≤ _; unfold maxLen; omega
  have hmb : Hid ((k1 + k2) * 24 ≤ 140737488355328) := by have := hk1s.out; have := hk2s.out; show _ ≤ _; omega
  have hz1 := hzzk1
  refine held_only (i := 10) rfl (by kernel_rfl) (by rfl) (fun K hK => ?_)
  refine Append.wp_append_src _ (.tmp 67) (.tmp 70) 24 rfl w6.heap.size 27 i0 (.slice none 0 0) 1 24 Tryd.underlying24 ii iz0 iz1 iz2 rfl (by decide) (.slice A1' k1 c1') k1 xsF rfl hoF.out A2' k2 c2' xsS rfl hr2' hnil2' hone.out hmx.out hmb.out h9.out.size (fun v10 w10 hGr => ?_)
  obtain ⟨t12, o12, -⟩ := ty_cat2 hk1h.out hoF.out tyF.out tyS.out hz1.out hGr
  have h10 : Hid (Below w6.heap.size w6 w10) := hGr.below h9.out h9.out.size (fun k hk => own_base hoF.out k hk)
  have hkG : Kept (fun k => some k = Value.ownBlock (.slice A1' k1 c1')) w9 w10 := (Kept.refl _ w9).grown hGr.grow (fun k e => .inl e.symm)
  have ho1l := hoF.out
  rw [← hk1h.out] at ho1l
  have hXR7 : Hid (XR w10 s want (T1 ++ T2) xa xb ok) := (hXR.out.below h9.out).keep hkG (fun g hg => by
   rcases Nat.eq_zero_or_pos T1.length with h0 | h0
   ·have h1 := hz1.out (by rw [← hk1h.out]; exact h0)
    rw [h1] at hg; cases hg
   ·exact own_frontY ho1l tyF.out h0 g (by rw [hk1h.out]; exact hg))
  have hlen3 : (T1 ++ T2).length = k1 + k2 := by rw [List.length_append, hk1h.out, hk2h.out]
  rw [← hlen3] at o12
  obtain ⟨A8, c8, e8, -, -, hp8⟩ := Ty.pieces o12 t12
  subst e8
  rw [hlen3]
  replace hp8 := Lib.hid hp8
  clear t12 o12 hkG ho1l hlen3
  go_simp
  refine hK _ _ h10.out ?_
  clear hK K
  refine held_only (i := 11) rfl (by kernel_rfl) (by rfl) (fun K hK => ?_)
  refine wp_fn (R := fun v w'' => v = .bool true ∧ Below w6.heap.size w6 w'') (args := #[.int .i64 s, .agg #[xa, xb], .bool ok, .bool want, .slice A8 (k1 + k2) c8]) _ _ rfl rfl Tryd.func43 (by kernel_rfl) (by kernel_rfl) ((hTo.out w10 want A8 c8 xa xb ok hp8.out hXR7.out).mono fun e w'' ⟨he, hb⟩ => ⟨_, he, rfl, h10.out.trans (hb.mono h10.out.size)⟩) ?_
  rintro qq w13 ⟨rfl, h13⟩
  replace h13 := Lib.hid h13
  go_simp
  refine hK _ _ h13.out ?_
  clear hK K
  refine Held.tk0 (i := 12) (v := .bool true) rfl h13.out (fun w' hw' => by first | go_simp | rfl) ?_
  (intro K k; go_simp; apply k; clear k K)
  refine held_end (by kernel_rfl) ?_
  have hfin : Hid (Below w.heap.size w w13) := hbwd.out.trans (h13.out.mono hbwd.out.size)
  go_wp2_with fail
  go_ret
  exact ⟨rfl, hfin.out⟩
end Go.Proofs.YtmdkfhfkdcbpgaaDoorR.AuditTwoEntries
