/-
  Texts of the claim, put into one file: IdxRef2.
-/
import Derived.Test.YtmdkfhfkdcbpgaaZ26
import Derived.Test.YtmdkfhfkdcbpgaaZ16
import Derived.Test.YtmdkfhfkdcbpgaaZ37

namespace Go.Proofs.Ytmdkfhfkdcbpgaa.IdxRef2
open Go Go.RowKit Go.Proofs.Ytmdkfhfkdcbpgaa Go.Proofs.Ytmdkfhfkdcbpgaa.Mem Go.Proofs.Ytmdkfhfkdcbpgaa.Sha Go.Proofs.Ytmdkfhfkdcbpgaa.Bytes Go.Proofs.Ytmdkfhfkdcbpgaa.Append Go.Proofs.Ytmdkfhfkdcbpgaa.Octet Go.Proofs.Ytmdkfhfkdcbpgaa.Octet2 Go.Proofs.Ytmdkfhfkdcbpgaa.Own Go.Proofs.Ytmdkfhfkdcbpgaa.HeadMem Go.Proofs.Ytmdkfhfkdcbpgaa.ProofBeside Go.Proofs.Ytmdkfhfkdcbpgaa.ProofEnc Go.Proofs.Ytmdkfhfkdcbpgaa.ProofIdx Go.Proofs.Ytmdkfhfkdcbpgaa.ProofIdx2 Go.Proofs.Ytmdkfhfkdcbpgaa.ProofIdx3 Go.Proofs.Ytmdkfhfkdcbpgaa.StructEq Go.Proofs.Ytmdkfhfkdcbpgaa.IdxAny Go.Proofs.Ytmdkfhfkdcbpgaa.IdxEnc Go.Proofs.Ytmdkfhfkdcbpgaa.IdxRef0 Go.Proofs.Ytmdkfhfkdcbpgaa.IdxRef Go.Proofs.Ytmdkfhfkdcbpgaa.QuietTail Go.Proofs.Ytmdkfhfkdcbpgaa.Grown Go.Proofs.Ytmdkfhfkdcbpgaa.Held Go.Proofs.Ytmdkfhfkdcbpgaa.Want Go.Proofs.Ytmdkfhfkdcbpgaa.TreeMem Go.Proofs.Ytmdkfhfkdcbpgaa.Ref17

set_option maxRecDepth 100000 in
set_option maxHeartbeats 20000000 in
theorem refidx_yes (s : ByteArray) (f : Bool) (cnt : Int) (ch : Text) (hch : ch.length = 32) (d : Text) (hd : d.length = 32) (ds : List Text) (A : Option Addr) (n c : Nat) (hok : okIx s f cnt ch d n = true) (w : World) (hr : RdD w A n ds) :
    Calls Try.prog 9 #[.agg (idxCells s f (entC cnt ch) d A n c).toArray] w fun e w' => ∃ v, e = .returned v ∧ w'.ownsRow w.heap.size 5 1 v (idxB s f cnt ch d ds).length (cells8 (idxB s f cnt ch d ds)) ∧ Below w.heap.size w w' := by
  obtain ⟨i0', hi0, iz0, iz1, iz2⟩ := info_parts8 info8
  have h64 := okIx_64 hok
  have hon := okIx_ones hok
  have hnmd := okIx_name hok
  have hn256 : n ≤ 256 := by
    rw [← hon]
    have := onesOf_le d
    omega
  have hlen := idxB_len (s := s) (f := f) (cnt := cnt) (ch := ch) (d := d) (ds := ds) hch hd hr.2.1
  rw [hr.1] at hlen
  have hchh := Lib.hid hch
  have hdh := Lib.hid hd
  obtain ⟨cs, hcs⟩ : ∃ cs : Array Value, (idxCells s f (entC cnt ch) d A n c).toArray = cs := ⟨_, rfl⟩
  have i0 : Hid (cs[0]? = some (.string s)) := by show _ = _; rw [← hcs, List.getElem?_toArray]; exact idx_name
  have i1 : Hid (cs[1]? = some (.bool f)) := by show _ = _; rw [← hcs, List.getElem?_toArray]; exact idx_found
  have i2 : Hid (∀ j v, (entC cnt ch)[j]? = some v → cs[2 + j]? = some v) := fun j v hv => by rw [← hcs, List.getElem?_toArray]; exact idx_ent j v hv
  have ie : Hid (cs[2]? = some (.int .i64 cnt)) := i2.out 0 _ rfl
  have i3 : Hid (∀ j v, (cells8 d)[j]? = some v → cs[35 + j]? = some v) := fun j v hv => by rw [← hcs, List.getElem?_toArray]; exact idx_bitmap (entC_len hch) j v hv
  have i4 : Hid (cs[67]? = some (.slice A n c)) := by show _ = _; rw [← hcs, List.getElem?_toArray]; exact idx_way (entC_len hch) hd
  rw [hcs]
  clear hcs
  have sE : Hid ((Try.prog.info? 25).map (·.size) = some (entC cnt ch).length) := by show _ = _; rw [entC_len hch]; exact sizeE
  have sD : Hid ((Try.prog.info? 23).map (·.size) = some (cells8 d).length) := agg_hi size32 (by rw [cells8_len, hd])
  have hnq := Lib.hid (fun w' => neq_entry cnt 0 ch IdxAny.z32 hch IdxAny.z32_len w')
  have hB0 : Hid (Blk (w.alloc (.cells cs 28)) w.heap.size 28 cs) := Blk.new w _ _
  have hb0 : Hid (Below w.heap.size w (w.alloc (.cells cs 28))) := Below.heap_below w _
  have hz0 : Hid ((w.alloc (.cells cs 28)).heap.size = w.heap.size + 1) := by show _ = _; simp
  obtain ⟨EE, hEe⟩ : ∃ Z, Hid ((entC cnt ch).toArray = Z) := ⟨_, Lib.hid rfl⟩
  have hZE0 : (entC 0 IdxAny.z32).toArray = #[.int .i64 0, .int .u8 0, .int .u8 0, .int .u8 0, .int .u8 0, .int .u8 0, .int .u8 0, .int .u8 0, .int .u8 0, .int .u8 0, .int .u8 0, .int .u8 0, .int .u8 0, .int .u8 0, .int .u8 0, .int .u8 0, .int .u8 0, .int .u8 0, .int .u8 0, .int .u8 0, .int .u8 0, .int .u8 0, .int .u8 0, .int .u8 0, .int .u8 0, .int .u8 0, .int .u8 0, .int .u8 0, .int .u8 0, .int .u8 0, .int .u8 0, .int .u8 0, .int .u8 0] := by kernel_rfl
  have hone := oneE
  have hsz0 : (entC 0 IdxAny.z32).toArray.size = 33 := rfl
  obtain ⟨ZE, hZE⟩ : ∃ Z, (entC 0 IdxAny.z32).toArray = Z := ⟨_, rfl⟩
  rw [hZE] at hnq hZE0 hone hsz0
  rw [hEe.out] at hnq
  have sZ : Hid ((Try.prog.info? 25).map (·.size) = some ZE.size) := by show _ = _; rw [hsz0]; exact sizeE
  have sZ2 : Hid (ZE.size = ZE.size) := rfl
  replace hone := Lib.hid hone
  replace hZE0 := Lib.hid hZE0
  have hL0 : Hid (Blk ((w.alloc (.cells cs 28)).alloc (.cells #[.int .i64 0, .int .u8 0, .int .u8 0, .int .u8 0, .int .u8 0, .int .u8 0, .int .u8 0, .int .u8 0, .int .u8 0, .int .u8 0, .int .u8 0, .int .u8 0, .int .u8 0, .int .u8 0, .int .u8 0, .int .u8 0, .int .u8 0, .int .u8 0, .int .u8 0, .int .u8 0, .int .u8 0, .int .u8 0, .int .u8 0, .int .u8 0, .int .u8 0, .int .u8 0, .int .u8 0, .int .u8 0, .int .u8 0, .int .u8 0, .int .u8 0, .int .u8 0, .int .u8 0] 25)) (w.heap.size + 1) 25 #[.int .i64 0, .int .u8 0, .int .u8 0, .int .u8 0, .int .u8 0, .int .u8 0, .int .u8 0, .int .u8 0, .int .u8 0, .int .u8 0, .int .u8 0, .int .u8 0, .int .u8 0, .int .u8 0, .int .u8 0, .int .u8 0, .int .u8 0, .int .u8 0, .int .u8 0, .int .u8 0, .int .u8 0, .int .u8 0, .int .u8 0, .int .u8 0, .int .u8 0, .int .u8 0, .int .u8 0, .int .u8 0, .int .u8 0, .int .u8 0, .int .u8 0, .int .u8 0, .int .u8 0]) := by
    have := Blk.new (w.alloc (.cells cs 28)) 25 #[.int .i64 0, .int .u8 0, .int .u8 0, .int .u8 0, .int .u8 0, .int .u8 0, .int .u8 0, .int .u8 0, .int .u8 0, .int .u8 0, .int .u8 0, .int .u8 0, .int .u8 0, .int .u8 0, .int .u8 0, .int .u8 0, .int .u8 0, .int .u8 0, .int .u8 0, .int .u8 0, .int .u8 0, .int .u8 0, .int .u8 0, .int .u8 0, .int .u8 0, .int .u8 0, .int .u8 0, .int .u8 0, .int .u8 0, .int .u8 0, .int .u8 0, .int .u8 0, .int .u8 0]
    rw [hz0.out] at this
    exact this
  obtain ⟨b1, h1⟩ : ∃ b, Hid (namedB s.data.toList = b) := ⟨_, Lib.hid rfl⟩
  obtain ⟨b2, h2⟩ : ∃ b, Hid (((onesOf d : Int) == (n : Int)) = b) := ⟨_, Lib.hid rfl⟩
  clear hZE hsz0 hch
  replace hd := Lib.hid hd
  replace hok := hok
  go_enter Try.func9, Try.ntmps9
  go_wp2_with ((with_reducible change wpList _ _ _ ({ dst := none, op := Op.store 25 (.tmp 3) _, type := _, pos := _, after := _, guard := _ } :: _) _ _); refine wpList_store_whole (o := ⟨none, _, _, _, _, _⟩) rfl 25 (.tmp 3) (.tmp 5) rfl (w.heap.size + 1) ((#[.int .i64 0, .int .u8 0, .int .u8 0, .int .u8 0, .int .u8 0, .int .u8 0, .int .u8 0, .int .u8 0, .int .u8 0, .int .u8 0, .int .u8 0, .int .u8 0, .int .u8 0, .int .u8 0, .int .u8 0, .int .u8 0, .int .u8 0, .int .u8 0, .int .u8 0, .int .u8 0, .int .u8 0, .int .u8 0, .int .u8 0, .int .u8 0, .int .u8 0, .int .u8 0, .int .u8 0, .int .u8 0, .int .u8 0, .int .u8 0, .int .u8 0, .int .u8 0, .int .u8 0] : Array Value)) rfl rfl 25 ((#[.int .i64 0, .int .u8 0, .int .u8 0, .int .u8 0, .int .u8 0, .int .u8 0, .int .u8 0, .int .u8 0, .int .u8 0, .int .u8 0, .int .u8 0, .int .u8 0, .int .u8 0, .int .u8 0, .int .u8 0, .int .u8 0, .int .u8 0, .int .u8 0, .int .u8 0, .int .u8 0, .int .u8 0, .int .u8 0, .int .u8 0, .int .u8 0, .int .u8 0, .int .u8 0, .int .u8 0, .int .u8 0, .int .u8 0, .int .u8 0, .int .u8 0, .int .u8 0, .int .u8 0] : Array Value)) hL0.out sizeL rfl oneL ?_; intro w1 hZ1 hk1; rw [← hZE0.out] at hZ1 ⊢; replace hZ1 := Lib.hid hZ1; have hB1 : Hid (Blk w1 w.heap.size 28 cs) := Blk.kept (hB0.out.alloc _) hk1 (by omega); have hb1 : Hid (Below w.heap.size w w1) := (hb0.out.alloc (by have := hz0.out; omega) _).trans (Kept.below_of hk1 (by omega) (by have := hz0.out; simp; omega)); clear hk1)
  have hC : Hid (∀ w', Class w1 w' → ∀ j v, cs[j]? = some v → w'.cell? ⟨w.heap.size, j, none⟩ = some v) := fun w' hw' j v hv => ((show Blk w' w.heap.size 28 cs from (hw'.below.block _ hB1.out.lt).trans hB1.out).cell j).trans hv
  clear hB0 hb0 hL0 hz0
  have y1 : IntKind.u8.wrap (s.size : Int) = (s.size : Int) := by simp [IntKind.wrap, IntKind.signed, IntKind.bits]; omega
  have hb1t : b1 = true := h1.out.symm.trans hnmd
  have hb2t : b2 = true := by rw [← h2.out, hon]; exact beq_self_eq_true _
  subst hb1t hb2t
  have h2n : Hid ((onesOf d : Int) = (n : Int)) := by show _ = _; rw [hon]
  have hent : okEnt f cnt ch = true := by
    have h := hok
    unfold okIx at h
    simp only [Bool.and_eq_true] at h
    exact h.1
  have hE : Hid (∀ N : Nat, N ≤ 1099511627776 → ∀ w' g, w'.heap.size = g → Calls Try.prog 30 #[.int .i64 (N : Int)] w' fun e w'' => e = .returned (.slice (some ⟨g, 0, none⟩) 8 8) ∧ Below w'.heap.size w' w'' ∧ w''.ownsRow g 5 1 (.slice (some ⟨g, 0, none⟩) 8 8) 8 (cells8 (be8 N))) := fun N h w' g hg => by
    subst hg
    exact eight_any N (by omega) w'
  replace hlen := Lib.hid hlen
  replace hr := Lib.hid hr
  replace hon := Lib.hid hon
  replace hnmd := Lib.hid hnmd
  clear hok
  cases f with
  | false =>
    have hz : cnt = 0 ∧ ch = IdxAny.z32 := of_decide_eq_true hent
    rw [decide_eq_true hz] at hnq
    clear hent hz
    refine q_region (Class w1) (by kernel_rfl) (by kernel_rfl) (Class.mk_ ((Below.refl _ _).drew)) ?_
    refine q_val (v := .pointer (some ⟨w.heap.size, 0, none⟩)) rfl (fun w' hw' => by go_simp) ?_
    (intro K hK; go_simp; refine hK _ ?_; clear hK K)
    refine q_val (v := .string s) rfl (fun w' hw' => by have hc := (hC.out w' hw' 0 _ i0.out); go_simp) ?_
    (intro K hK; go_simp; refine hK _ ?_; clear hK K)
    refine q_fn (v := .bool true) (args := #[.string s]) rfl _ _ rfl rfl Try.func28 (by kernel_rfl) (by kernel_rfl) (fun w' hw' => (named17_any s w').mono (fun e w'' ⟨he, hw⟩ => ⟨by rw [he, h1.out], by rw [← hw]; exact hw'⟩)) ?_
    (intro K hK; go_simp; refine hK _ ?_; clear hK K)
    refine q_val (v := .bool false) rfl (fun w' hw' => by go_simp) ?_
    (intro K hK; go_simp; refine hK _ ?_; clear hK K)
    refine q_val (v := .bool false) rfl (fun w' hw' => by go_simp) ?_
    (intro K hK; go_simp; refine hK _ ?_; clear hK K)
    refine q_val (v := .pointer (some ⟨w.heap.size, 35, none⟩)) rfl (fun w' hw' => by go_simp) ?_
    (intro K hK; go_simp; refine hK _ ?_; clear hK K)
    refine q_part rfl 23 (.tmp 11) rfl w.heap.size 35 rfl (cells8 d) _ (fun w' hw' j v hv => hC.out w' hw' (35 + j) v (i3.out j v hv)) Try.underlying23 rfl sD.out ?_
    (intro K hK; go_simp; refine hK _ ?_; clear hK K)
    refine q_fn (v := .int .i64 (onesOf d : Nat)) (args := #[.agg (cells8 d).toArray]) rfl _ _ rfl rfl Try.func29 (by kernel_rfl) (by kernel_rfl) (fun w' hw' => (ones17_any d hd.out w').mono (fun e w'' ⟨he, hb⟩ => ⟨he, hw'.next hb⟩)) ?_
    (intro K hK; go_simp; refine hK _ ?_; clear hK K)
    refine q_val (v := .pointer (some ⟨w.heap.size, 67, none⟩)) rfl (fun w' hw' => by go_simp) ?_
    (intro K hK; go_simp; refine hK _ ?_; clear hK K)
    refine q_val (v := .slice A n c) rfl (fun w' hw' => by have hc := (hC.out w' hw' 67 _ i4.out); go_simp) ?_
    (intro K hK; go_simp; refine hK _ ?_; clear hK K)
    refine q_val (v := .int .i64 (n : Int)) rfl (fun w' hw' => by go_simp) ?_
    (intro K hK; go_simp; refine hK _ ?_; clear hK K)
    refine q_val (v := .bool false) rfl (fun w' hw' => by have hc := h2n.out; go_simp) ?_
    (intro K hK; go_simp; refine hK _ ?_; clear hK K)
    refine q_val (v := .bool false) rfl (fun w' hw' => by go_simp) ?_
    (intro K hK; go_simp; refine hK _ ?_; clear hK K)
    refine q_val (v := .bool false) rfl (fun w' hw' => by go_simp) ?_
    (intro K hK; go_simp; refine hK _ ?_; clear hK K)
    refine q_val (v := .pointer (some ⟨w.heap.size, 1, none⟩)) rfl (fun w' hw' => by go_simp) ?_
    (intro K hK; go_simp; refine hK _ ?_; clear hK K)
    refine q_val (v := .bool false) rfl (fun w' hw' => by have hc := (hC.out w' hw' 1 _ i1.out); go_simp) ?_
    (intro K hK; go_simp; refine hK _ ?_; clear hK K)
    refine q_val (v := .bool true) rfl (fun w' hw' => by go_simp) ?_
    (intro K hK; go_simp; refine hK _ ?_; clear hK K)
    refine q_val (v := .bool true) rfl (fun w' hw' => by go_simp) ?_
    (intro K hK; go_simp; refine hK _ ?_; clear hK K)
    refine q_val (v := .pointer (some ⟨w.heap.size, 2, none⟩)) rfl (fun w' hw' => by go_simp) ?_
    (intro K hK; go_simp; refine hK _ ?_; clear hK K)
    refine q_part rfl 25 (.tmp 24) rfl w.heap.size 2 rfl (entC cnt ch) _ (fun w' hw' j v hv => hC.out w' hw' (2 + j) v (i2.out j v hv)) Try.underlying25 rfl sE.out ?_
    (intro K hK; go_simp; rw [hEe.out]; refine hK _ ?_; clear hK K)
    refine q_row rfl 25 (.tmp 3) rfl (w.heap.size + 1) rfl 25 ZE (0, 0) _ (fun w' hw' => (hw'.below.block _ hZ1.out.lt).trans hZ1.out) Try.underlying25 rfl sZ.out ?_
    (intro K hK; go_simp; refine hK _ ?_; clear hK K)
    refine q_val (v := .bool false) rfl (fun w' hw' => run_cmp rfl rfl rfl qE (hnq.out w')) ?_
    (intro K hK; go_simp; refine hK _ ?_; clear hK K)
    refine q_val (v := .bool false) rfl (fun w' hw' => by go_simp) ?_
    (intro K hK; go_simp; refine hK _ ?_; clear hK K)
    refine q_val (v := .bool false) rfl (fun w' hw' => by go_simp) ?_
    (intro K hK; go_simp; refine hK _ ?_; clear hK K)
    refine q_val (v := .bool false) rfl (fun w' hw' => by go_simp) ?_
    (intro K hK; go_simp; refine hK _ ?_; clear hK K)
    refine q_val (v := .pointer (some ⟨w.heap.size, 1, none⟩)) rfl (fun w' hw' => by go_simp) ?_
    (intro K hK; go_simp; refine hK _ ?_; clear hK K)
    refine q_val (v := .bool false) rfl (fun w' hw' => by have hc := (hC.out w' hw' 1 _ i1.out); go_simp) ?_
    (intro K hK; go_simp; refine hK _ ?_; clear hK K)
    refine q_val (v := .bool false) rfl (fun w' hw' => by go_simp) ?_
    (intro K hK; go_simp; refine hK _ ?_; clear hK K)
    refine q_skip rfl ?_
    (intro K hK; go_simp; refine hK _ ?_; clear hK K)
    refine q_skip rfl ?_
    (intro K hK; go_simp; refine hK _ ?_; clear hK K)
    refine q_skip rfl ?_
    (intro K hK; go_simp; refine hK _ ?_; clear hK K)
    refine q_skip rfl ?_
    (intro K hK; go_simp; refine hK _ ?_; clear hK K)
    refine q_skip rfl ?_
    (intro K hK; go_simp; refine hK _ ?_; clear hK K)
    refine q_skip rfl ?_
    (intro K hK; go_simp; refine hK _ ?_; clear hK K)
    refine q_skip rfl ?_
    (intro K hK; go_simp; refine hK _ ?_; clear hK K)
    refine q_skip rfl ?_
    (intro K hK; go_simp; refine hK _ ?_; clear hK K)
    refine q_skip rfl ?_
    (intro K hK; go_simp; refine hK _ ?_; clear hK K)
    refine q_skip rfl ?_
    (intro K hK; go_simp; refine hK _ ?_; clear hK K)
    refine q_val (v := .bool false) rfl (fun w' hw' => by go_simp) ?_
    (intro K hK; go_simp; refine hK _ ?_; clear hK K)
    refine q_val (v := .bool false) rfl (fun w' hw' => by go_simp) ?_
    (intro K hK; go_simp; refine hK _ ?_; clear hK K)
    refine q_nil ?_
    intro w2 hw2
    have hb2 : Hid (Below w.heap.size w w2) := hb1.out.trans (hw2.below.mono hb1.out.size)
    have hlt2 : Hid (w.heap.size < w2.heap.size) := Nat.lt_of_lt_of_le hB1.out.lt hw2.below.size
    have hcell : Hid (∀ w', Below w2.heap.size w2 w' → ∀ j v, cs[j]? = some v → w'.cell? ⟨w.heap.size, j, none⟩ = some v) := fun w' hb => hC.out w' (hw2.next hb)
    have hdR : Hid (∀ w', Below w2.heap.size w2 w' → Reads w' 1 (some ⟨w.heap.size, 35, none⟩) 32 (cells8 d)) := fun w' hb => ⟨by rw [cells8_len, hdh.out], fun _ => ⟨_, _, rfl, Nat.lt_of_lt_of_le hlt2.out hb.size, fun j u hu => hcell.out w' hb _ _ (i3.out j u hu)⟩⟩
    have hcR : Hid (∀ w', Below w2.heap.size w2 w' → Reads w' 1 (some ⟨w.heap.size, 3, none⟩) 32 (cells8 ch)) := fun w' hb => ⟨by rw [cells8_len, hchh.out], fun _ => ⟨_, _, rfl, Nat.lt_of_lt_of_le hlt2.out hb.size, fun j u hu => by
      have h := i2.out (1 + j) u (by rw [Nat.add_comm]; exact hu)
      rw [show 2 + (1 + j) = 3 + j by omega] at h
      exact hcell.out w' hb _ _ h⟩⟩
    have hrw : Hid (∀ w', Below w2.heap.size w2 w' → RdD w' A n ds) := fun w' hb => hr.out.below (hb2.out.trans (hb.mono hb2.out.size))
    have hAlt : Hid (0 < n → ∀ b o, A = some ⟨b, o, none⟩ → b < w2.heap.size) := fun h0 b o e => by
      obtain ⟨b', o', e', hb', -⟩ := hr.out.2.2.at_ (by omega)
      rw [e] at e'
      injection e' with e'
      injection e' with e1 e2
      have := hb2.out.size
      omega
    have e0 : w2.cell? ⟨w.heap.size, 0, none⟩ = some (.string s) := hcell.out w2 (Below.refl _ _) 0 _ i0.out
    have hV3 : Hid (Below w2.heap.size w2 (w2.alloc (.cells #[.int .u8 50, .int .u8 (s.size : Int)] 5))) := Below.heap_below w2 _
    have e0' : (w2.alloc (.cells #[.int .u8 50, .int .u8 (s.size : Int)] 5)).cell? ⟨w.heap.size, 0, none⟩ = some (.string s) := hcell.out _ hV3.out 0 _ i0.out
    have hO3 : Hid ((w2.alloc (.cells #[.int .u8 50, .int .u8 (s.size : Int)] 5)).ownsRow w2.heap.size 5 1 (.slice (some ⟨w2.heap.size, 0, none⟩) 2 2) 2 (cells8 [50, kb s.size])) := by
      have := own_new w2 w2.heap.size (Nat.le_refl _) 5 #[.int .u8 50, .int .u8 (s.size : Int)] 2 rfl (by unfold maxLen; omega)
      have e : cells8 [50, kb s.size] = [.int .u8 50, .int .u8 (s.size : Int)] := by show [cell8 50, cell8 (kb s.size)] = _; rw [cell_kb h64]; rfl
      show World.ownsRow _ _ _ _ _ _ _
      rw [e]
      exact this
    go_wp2_with (first
      | ((with_reducible change wpList _ _ _ ({ dst := some 53, op := _, type := _, pos := _, after := _, guard := _ } :: _) _ _); refine Lib.wpList_append_own_string _ (o := ⟨some 53, _, _, _, _, _⟩) rfl (.tmp 50) (.tmp 52) 29 9 rfl w2.heap.size 5 i0' Try.underlying29 Try.underlying9 hi0 iz0 iz1 iz2 (.slice (some ⟨w2.heap.size, 0, none⟩) 2 2) 2 (cells8 [50, kb s.size]) rfl hO3.out s rfl (by unfold maxLen; omega) (by omega) hV3.out.size ?_; intro v5 w5 ho5 hg5 _; obtain ⟨A5, c5, rfl, hO5, hb5⟩ := grew_string ho5 hg5 hV3.out hV3.out.size hO3.out; have e1 : w5.cell? ⟨w.heap.size, 1, none⟩ = some (.bool false) := hcell.out _ hb5.out 1 _ i1.out; clear ho5 hg5 e0 e0')
      | ((with_reducible change wpList _ _ _ ({ dst := some 71, op := _, type := _, pos := _, after := _, guard := _ } :: _) _ _); refine wpList_append_src _ (o := ⟨some 71, _, _, _, _, _⟩) rfl (.tmp 69) (.tmp 70) 29 rfl (w2.heap.size) 5 i0' (.int .u8 0) 1 1 Try.underlying29 hi0 iz0 iz1 iz2 rfl (by decide) (.slice A5 (2 + s.size) c5) (2 + s.size) (cells8 ([50, kb s.size] ++ nm s)) rfl (own_below hO5.out (Below.heap_below w5 _)) (some ⟨w5.heap.size, 0, none⟩) 1 1 (cells8 [0]) rfl (Blk.reads (Blk.new w5 _ _) 0 _ rfl (fun j u hu => by rw [Nat.zero_add, List.getElem?_toArray]; exact hu)) (fun e => by cases e) (cells8_one _) (by unfold maxLen; omega) (by omega) (hb5.out.alloc hb5.out.size _).size ?_; intro v7 w7 hG; obtain ⟨A7, c7, rfl, hO7, hb7⟩ := grew_text hG (hb5.out.alloc hb5.out.size _) (hb5.out.alloc hb5.out.size _).size (own_below hO5.out (Below.heap_below w5 _)) (([50, kb s.size] ++ nm s) ++ [0]) rfl (3 + s.size) (by omega); clear hG e1))
    have s9 : Hid (Below w2.heap.size w2 w7.drew) := hb7.out.drew
    refine held_start (fun w' => Below w2.heap.size w2 w') 8 rfl (by kernel_rfl) ?_
    refine held_take (i := 0) (v := .slice A7 (3 + s.size) c7) rfl (by kernel_rfl) (by kernel_rfl) (by kernel_rfl) (fun _ _ _ h => h) s9.out (by rfl) (fun w' hw' => run_mv (.tmp 4) rfl w') ?_
    (intro K hK; go_simp; refine hK _ ?_; clear hK K)
    refine held_take (i := 1) (v := .pointer (some ⟨w.heap.size, 35, none⟩)) rfl (by kernel_rfl) (by kernel_rfl) (by kernel_rfl) (fun _ _ _ h => h) s9.out (by rfl) (fun w' hw' => by go_simp) ?_
    (intro K hK; go_simp; refine hK _ ?_; clear hK K)
    refine held_take (i := 2) (v := .slice (some ⟨w.heap.size, 35, none⟩) 32 32) rfl (by kernel_rfl) (by kernel_rfl) (by kernel_rfl) (fun _ _ _ h => h) s9.out (by rfl) (fun w' hw' => by go_simp) ?_
    (intro K hK; go_simp; refine hK _ ?_; clear hK K)
    refine held_take (i := 4) (v := .pointer (some ⟨w.heap.size, 67, none⟩)) rfl (by kernel_rfl) (by kernel_rfl) (by kernel_rfl) (fun _ _ _ h => h) s9.out (by rfl) (fun w' hw' => by go_simp) ?_
    (intro K hK; go_simp; refine hK _ ?_; clear hK K)
    refine held_take (i := 5) (v := .slice A n c) rfl (by kernel_rfl) (by kernel_rfl) (by kernel_rfl) (fun _ _ _ h => h) s9.out (by rfl) (fun w' hw' => by have h := hcell.out w' hw' 67 _ i4.out; go_simp) ?_
    (intro K hK; go_simp; refine hK _ ?_; clear hK K)
    refine held_only (i := 3) rfl (by kernel_rfl) (by rfl) (fun K hK => ?_)
    refine wp_append_src _ (.tmp 72) (.tmp 74) 29 rfl w2.heap.size 5 i0' (.int .u8 0) 1 1 Try.underlying29 hi0 iz0 iz1 iz2 rfl (by decide) (.slice A7 (3 + s.size) c7) (3 + s.size) (cells8 (([50, kb s.size] ++ nm s) ++ [0])) rfl hO7.out (some ⟨w.heap.size, 35, none⟩) 32 32 (cells8 d) rfl (hdR.out _ s9.out) (fun e => by cases e) (cells8_one _) (by unfold maxLen; omega) (by omega) hb7.out.size ?_
    intro v10 w10 hG
    obtain ⟨A10, c10, rfl, hO10, hb10⟩ := grew_text hG s9.out s9.out.size hO7.out ((([50, kb s.size] ++ nm s) ++ [0]) ++ d) rfl (3 + s.size + 32) rfl
    clear hG
    go_simp
    refine hK _ _ hb10.out ?_
    clear hK K
    refine held_only (i := 6) rfl (by kernel_rfl) (by rfl) (fun K hK => ?_)
    refine wp_fn (R := fun v w'' => w''.ownsRow w2.heap.size 5 1 v (3 + s.size + 32 + 32 * n) (cells8 ((([50, kb s.size] ++ nm s) ++ [0]) ++ d ++ ds.flatten)) ∧ Below w2.heap.size w10 w'') (args := #[.slice A10 (3 + s.size + 32) c10, .slice A n c]) _ _ rfl rfl Try.func31 (by kernel_rfl) (by kernel_rfl) ((digests17_any w2.heap.size ((([50, kb s.size] ++ nm s) ++ [0]) ++ d) (3 + s.size + 32) A10 c10 ds n A c w10 hb10.out.size hO10.out (hrw.out w10 hb10.out) hAlt.out (by omega)).mono fun e w'' ⟨v, he, ho, hb⟩ => ⟨_, he, ho, hb⟩) ?_
    rintro v11 w11 ⟨ho11, h11⟩
    obtain ⟨A11, c11, rfl, -⟩ := own_reads ho11
    have hb11 : Hid (Below w2.heap.size w2 w11) := hb10.out.trans h11
    replace ho11 := Lib.hid ho11
    clear h11
    go_simp
    refine hK _ _ hb11.out ?_
    clear hK K
    refine held_take (i := 7) (v := .slice A11 (3 + s.size + 32 + 32 * n) c11) rfl (by kernel_rfl) (by kernel_rfl) (by kernel_rfl) (fun _ _ _ h => h) hb11.out (by rfl) (fun w' hw' => by first | go_simp | rfl) ?_
    (intro K hK; go_simp; refine hK _ ?_; clear hK K)
    refine held_end (by kernel_rfl) ?_
    go_wp2_with fail
    go_ret
    refine ⟨.slice A11 (3 + s.size + 32 + 32 * n) c11, rfl, ?_, hb2.out.trans (hb11.out.mono hb2.out.size)⟩
    have hl2 := hlen.out
    simp only [Bool.false_eq_true, if_false] at hl2
    rw [hl2]
    have h := ownsRow_base ho11.out hb2.out.size
    rw [show 35 + s.size + 32 * n = 3 + s.size + 32 + 32 * n by omega]
    have e : idxB s false cnt ch d ds = (([50, kb s.size] ++ nm s) ++ [0]) ++ d ++ ds.flatten := by simp [idxB]
    rw [e]
    exact h
  | true =>
    have hz : 1 ≤ cnt ∧ cnt ≤ 1099511627776 := of_decide_eq_true hent
    have c1 : Hid (decide (cnt < 1) = false) := decide_eq_false (by omega)
    have c2 : Hid (decide (1099511627776 < cnt) = false) := decide_eq_false (by omega)
    obtain ⟨N, hN⟩ := Int.eq_ofNat_of_zero_le (show 0 ≤ cnt by omega)
    have hN40 : Hid (N ≤ 1099511627776) := by show _ ≤ _; omega
    subst hN
    clear hent hz hnq
    refine q_region (Class w1) (by kernel_rfl) (by kernel_rfl) (Class.mk_ ((Below.refl _ _).drew)) ?_
    refine q_val (v := .pointer (some ⟨w.heap.size, 0, none⟩)) rfl (fun w' hw' => by go_simp) ?_
    (intro K hK; go_simp; refine hK _ ?_; clear hK K)
    refine q_val (v := .string s) rfl (fun w' hw' => by have hc := (hC.out w' hw' 0 _ i0.out); go_simp) ?_
    (intro K hK; go_simp; refine hK _ ?_; clear hK K)
    refine q_fn (v := .bool true) (args := #[.string s]) rfl _ _ rfl rfl Try.func28 (by kernel_rfl) (by kernel_rfl) (fun w' hw' => (named17_any s w').mono (fun e w'' ⟨he, hw⟩ => ⟨by rw [he, h1.out], by rw [← hw]; exact hw'⟩)) ?_
    (intro K hK; go_simp; refine hK _ ?_; clear hK K)
    refine q_val (v := .bool false) rfl (fun w' hw' => by go_simp) ?_
    (intro K hK; go_simp; refine hK _ ?_; clear hK K)
    refine q_val (v := .bool false) rfl (fun w' hw' => by go_simp) ?_
    (intro K hK; go_simp; refine hK _ ?_; clear hK K)
    refine q_val (v := .pointer (some ⟨w.heap.size, 35, none⟩)) rfl (fun w' hw' => by go_simp) ?_
    (intro K hK; go_simp; refine hK _ ?_; clear hK K)
    refine q_part rfl 23 (.tmp 11) rfl w.heap.size 35 rfl (cells8 d) _ (fun w' hw' j v hv => hC.out w' hw' (35 + j) v (i3.out j v hv)) Try.underlying23 rfl sD.out ?_
    (intro K hK; go_simp; refine hK _ ?_; clear hK K)
    refine q_fn (v := .int .i64 (onesOf d : Nat)) (args := #[.agg (cells8 d).toArray]) rfl _ _ rfl rfl Try.func29 (by kernel_rfl) (by kernel_rfl) (fun w' hw' => (ones17_any d hd.out w').mono (fun e w'' ⟨he, hb⟩ => ⟨he, hw'.next hb⟩)) ?_
    (intro K hK; go_simp; refine hK _ ?_; clear hK K)
    refine q_val (v := .pointer (some ⟨w.heap.size, 67, none⟩)) rfl (fun w' hw' => by go_simp) ?_
    (intro K hK; go_simp; refine hK _ ?_; clear hK K)
    refine q_val (v := .slice A n c) rfl (fun w' hw' => by have hc := (hC.out w' hw' 67 _ i4.out); go_simp) ?_
    (intro K hK; go_simp; refine hK _ ?_; clear hK K)
    refine q_val (v := .int .i64 (n : Int)) rfl (fun w' hw' => by go_simp) ?_
    (intro K hK; go_simp; refine hK _ ?_; clear hK K)
    refine q_val (v := .bool false) rfl (fun w' hw' => by have hc := h2n.out; go_simp) ?_
    (intro K hK; go_simp; refine hK _ ?_; clear hK K)
    refine q_val (v := .bool false) rfl (fun w' hw' => by go_simp) ?_
    (intro K hK; go_simp; refine hK _ ?_; clear hK K)
    refine q_val (v := .bool false) rfl (fun w' hw' => by go_simp) ?_
    (intro K hK; go_simp; refine hK _ ?_; clear hK K)
    refine q_val (v := .pointer (some ⟨w.heap.size, 1, none⟩)) rfl (fun w' hw' => by go_simp) ?_
    (intro K hK; go_simp; refine hK _ ?_; clear hK K)
    refine q_val (v := .bool true) rfl (fun w' hw' => by have hc := (hC.out w' hw' 1 _ i1.out); go_simp) ?_
    (intro K hK; go_simp; refine hK _ ?_; clear hK K)
    refine q_val (v := .bool false) rfl (fun w' hw' => by go_simp) ?_
    (intro K hK; go_simp; refine hK _ ?_; clear hK K)
    refine q_val (v := .bool false) rfl (fun w' hw' => by go_simp) ?_
    (intro K hK; go_simp; refine hK _ ?_; clear hK K)
    refine q_skip rfl ?_
    (intro K hK; go_simp; refine hK _ ?_; clear hK K)
    refine q_skip rfl ?_
    (intro K hK; go_simp; refine hK _ ?_; clear hK K)
    refine q_skip rfl ?_
    (intro K hK; go_simp; refine hK _ ?_; clear hK K)
    refine q_skip rfl ?_
    (intro K hK; go_simp; refine hK _ ?_; clear hK K)
    refine q_val (v := .bool false) rfl (fun w' hw' => by go_simp) ?_
    (intro K hK; go_simp; refine hK _ ?_; clear hK K)
    refine q_val (v := .bool false) rfl (fun w' hw' => by go_simp) ?_
    (intro K hK; go_simp; refine hK _ ?_; clear hK K)
    refine q_val (v := .bool false) rfl (fun w' hw' => by go_simp) ?_
    (intro K hK; go_simp; refine hK _ ?_; clear hK K)
    refine q_val (v := .pointer (some ⟨w.heap.size, 1, none⟩)) rfl (fun w' hw' => by go_simp) ?_
    (intro K hK; go_simp; refine hK _ ?_; clear hK K)
    refine q_val (v := .bool true) rfl (fun w' hw' => by have hc := (hC.out w' hw' 1 _ i1.out); go_simp) ?_
    (intro K hK; go_simp; refine hK _ ?_; clear hK K)
    refine q_val (v := .bool true) rfl (fun w' hw' => by go_simp) ?_
    (intro K hK; go_simp; refine hK _ ?_; clear hK K)
    refine q_val (v := .pointer (some ⟨w.heap.size, 2, none⟩)) rfl (fun w' hw' => by go_simp) ?_
    (intro K hK; go_simp; refine hK _ ?_; clear hK K)
    refine q_val (v := .pointer (some ⟨w.heap.size, 2, none⟩)) rfl (fun w' hw' => by go_simp) ?_
    (intro K hK; go_simp; refine hK _ ?_; clear hK K)
    refine q_val (v := .int .i64 (N : Int)) rfl (fun w' hw' => by have hc := (hC.out w' hw' 2 _ ie.out); go_simp) ?_
    (intro K hK; go_simp; refine hK _ ?_; clear hK K)
    refine q_val (v := .bool false) rfl (fun w' hw' => by have hc := c1.out; go_simp) ?_
    (intro K hK; go_simp; refine hK _ ?_; clear hK K)
    refine q_val (v := .bool false) rfl (fun w' hw' => by go_simp) ?_
    (intro K hK; go_simp; refine hK _ ?_; clear hK K)
    refine q_val (v := .pointer (some ⟨w.heap.size, 2, none⟩)) rfl (fun w' hw' => by go_simp) ?_
    (intro K hK; go_simp; refine hK _ ?_; clear hK K)
    refine q_val (v := .pointer (some ⟨w.heap.size, 2, none⟩)) rfl (fun w' hw' => by go_simp) ?_
    (intro K hK; go_simp; refine hK _ ?_; clear hK K)
    refine q_val (v := .int .i64 (N : Int)) rfl (fun w' hw' => by have hc := (hC.out w' hw' 2 _ ie.out); go_simp) ?_
    (intro K hK; go_simp; refine hK _ ?_; clear hK K)
    refine q_val (v := .bool false) rfl (fun w' hw' => by have hc := c2.out; go_simp) ?_
    (intro K hK; go_simp; refine hK _ ?_; clear hK K)
    refine q_val (v := .bool false) rfl (fun w' hw' => by go_simp) ?_
    (intro K hK; go_simp; refine hK _ ?_; clear hK K)
    refine q_val (v := .bool false) rfl (fun w' hw' => by go_simp) ?_
    (intro K hK; go_simp; refine hK _ ?_; clear hK K)
    refine q_val (v := .bool false) rfl (fun w' hw' => by go_simp) ?_
    (intro K hK; go_simp; refine hK _ ?_; clear hK K)
    refine q_nil ?_
    intro w2 hw2
    have hb2 : Hid (Below w.heap.size w w2) := hb1.out.trans (hw2.below.mono hb1.out.size)
    have hlt2 : Hid (w.heap.size < w2.heap.size) := Nat.lt_of_lt_of_le hB1.out.lt hw2.below.size
    have hcell : Hid (∀ w', Below w2.heap.size w2 w' → ∀ j v, cs[j]? = some v → w'.cell? ⟨w.heap.size, j, none⟩ = some v) := fun w' hb => hC.out w' (hw2.next hb)
    have hdR : Hid (∀ w', Below w2.heap.size w2 w' → Reads w' 1 (some ⟨w.heap.size, 35, none⟩) 32 (cells8 d)) := fun w' hb => ⟨by rw [cells8_len, hdh.out], fun _ => ⟨_, _, rfl, Nat.lt_of_lt_of_le hlt2.out hb.size, fun j u hu => hcell.out w' hb _ _ (i3.out j u hu)⟩⟩
    have hcR : Hid (∀ w', Below w2.heap.size w2 w' → Reads w' 1 (some ⟨w.heap.size, 3, none⟩) 32 (cells8 ch)) := fun w' hb => ⟨by rw [cells8_len, hchh.out], fun _ => ⟨_, _, rfl, Nat.lt_of_lt_of_le hlt2.out hb.size, fun j u hu => by
      have h := i2.out (1 + j) u (by rw [Nat.add_comm]; exact hu)
      rw [show 2 + (1 + j) = 3 + j by omega] at h
      exact hcell.out w' hb _ _ h⟩⟩
    have hrw : Hid (∀ w', Below w2.heap.size w2 w' → RdD w' A n ds) := fun w' hb => hr.out.below (hb2.out.trans (hb.mono hb2.out.size))
    have hAlt : Hid (0 < n → ∀ b o, A = some ⟨b, o, none⟩ → b < w2.heap.size) := fun h0 b o e => by
      obtain ⟨b', o', e', hb', -⟩ := hr.out.2.2.at_ (by omega)
      rw [e] at e'
      injection e' with e'
      injection e' with e1 e2
      have := hb2.out.size
      omega
    have e0 : w2.cell? ⟨w.heap.size, 0, none⟩ = some (.string s) := hcell.out w2 (Below.refl _ _) 0 _ i0.out
    have hV3 : Hid (Below w2.heap.size w2 (w2.alloc (.cells #[.int .u8 50, .int .u8 (s.size : Int)] 5))) := Below.heap_below w2 _
    have e0' : (w2.alloc (.cells #[.int .u8 50, .int .u8 (s.size : Int)] 5)).cell? ⟨w.heap.size, 0, none⟩ = some (.string s) := hcell.out _ hV3.out 0 _ i0.out
    have hO3 : Hid ((w2.alloc (.cells #[.int .u8 50, .int .u8 (s.size : Int)] 5)).ownsRow w2.heap.size 5 1 (.slice (some ⟨w2.heap.size, 0, none⟩) 2 2) 2 (cells8 [50, kb s.size])) := by
      have := own_new w2 w2.heap.size (Nat.le_refl _) 5 #[.int .u8 50, .int .u8 (s.size : Int)] 2 rfl (by unfold maxLen; omega)
      have e : cells8 [50, kb s.size] = [.int .u8 50, .int .u8 (s.size : Int)] := by show [cell8 50, cell8 (kb s.size)] = _; rw [cell_kb h64]; rfl
      show World.ownsRow _ _ _ _ _ _ _
      rw [e]
      exact this
    go_wp2_with ((with_reducible change wpList _ _ _ ({ dst := some 53, op := _, type := _, pos := _, after := _, guard := _ } :: _) _ _); refine Lib.wpList_append_own_string _ (o := ⟨some 53, _, _, _, _, _⟩) rfl (.tmp 50) (.tmp 52) 29 9 rfl w2.heap.size 5 i0' Try.underlying29 Try.underlying9 hi0 iz0 iz1 iz2 (.slice (some ⟨w2.heap.size, 0, none⟩) 2 2) 2 (cells8 [50, kb s.size]) rfl hO3.out s rfl (by unfold maxLen; omega) (by omega) hV3.out.size ?_; intro v5 w5 ho5 hg5 _; obtain ⟨A5, c5, rfl, hO5, hb5⟩ := grew_string ho5 hg5 hV3.out hV3.out.size hO3.out; have e1 : w5.cell? ⟨w.heap.size, 1, none⟩ = some (.bool true) := hcell.out _ hb5.out 1 _ i1.out; clear ho5 hg5 e0 e0')
    have s0 : Hid (Below w2.heap.size w2 w5.drew) := hb5.out.drew
    have hN1 : Hid (Below w2.heap.size w2 (w5.drew.alloc (.cells #[.int .u8 1] 5))) := s0.out.alloc s0.out.size _
    refine held_start (fun w' => Below w2.heap.size w2 w') 9 rfl (by kernel_rfl) ?_
    refine held_take (i := 0) (v := .slice A5 (2 + s.size) c5) rfl (by kernel_rfl) (by kernel_rfl) (by kernel_rfl) (fun _ _ _ h => h) s0.out (by rfl) (fun w' hw' => run_mv (.tmp 4) rfl w') ?_
    (intro K hK; go_simp; refine hK _ ?_; clear hK K)
    refine held_take (i := 3) (v := .pointer (some ⟨w.heap.size, 2, none⟩)) rfl (by kernel_rfl) (by kernel_rfl) (by kernel_rfl) (fun _ _ _ h => h) s0.out (by rfl) (fun w' hw' => by go_simp) ?_
    (intro K hK; go_simp; refine hK _ ?_; clear hK K)
    refine held_take (i := 4) (v := .pointer (some ⟨w.heap.size, 2, none⟩)) rfl (by kernel_rfl) (by kernel_rfl) (by kernel_rfl) (fun _ _ _ h => h) s0.out (by rfl) (fun w' hw' => by go_simp) ?_
    (intro K hK; go_simp; refine hK _ ?_; clear hK K)
    refine held_take (i := 5) (v := .int .i64 (N : Int)) rfl (by kernel_rfl) (by kernel_rfl) (by kernel_rfl) (fun _ _ _ h => h) s0.out (by rfl) (fun w' hw' => by have h := hcell.out w' hw' 2 _ ie.out; go_simp) ?_
    (intro K hK; go_simp; refine hK _ ?_; clear hK K)
    refine held_only (i := 1) rfl (by kernel_rfl) (by rfl) (fun K hK => ?_)
    go_simp
    refine hK _ _ hN1.out ?_
    clear hK K
    refine held_only (i := 2) rfl (by kernel_rfl) (by rfl) (fun K hK => ?_)
    refine wp_append_src _ (.tmp 56) (.tmp 57) 29 rfl w2.heap.size 5 i0' (.int .u8 0) 1 1 Try.underlying29 hi0 iz0 iz1 iz2 rfl (by decide) (.slice A5 (2 + s.size) c5) (2 + s.size) (cells8 ([50, kb s.size] ++ nm s)) rfl (own_below (w := w5.drew) hO5.out (Below.heap_below w5.drew _)) (some ⟨w5.heap.size, 0, none⟩) 1 1 (cells8 [1]) rfl (Blk.reads (Blk.new w5.drew _ _) 0 _ rfl (fun j u hu => by rw [Nat.zero_add, List.getElem?_toArray]; exact hu)) (fun e => by cases e) (cells8_one _) (by unfold maxLen; omega) (by omega) hN1.out.size ?_
    intro v6 w6 hG
    obtain ⟨A6, c6, rfl, hO6, hb6⟩ := grew_text hG hN1.out hN1.out.size (own_below (w := w5.drew) hO5.out (Below.heap_below w5.drew _)) (([50, kb s.size] ++ nm s) ++ [1]) rfl (3 + s.size) (by omega)
    clear hG
    go_simp
    refine hK _ _ hb6.out ?_
    clear hK K
    refine held_only (i := 6) rfl (by kernel_rfl) (by rfl) (fun K hK => ?_)
    refine wp_fn (R := fun v w'' => v = .slice (some ⟨w6.heap.size, 0, none⟩) 8 8 ∧ Below w6.heap.size w6 w'' ∧ w''.ownsRow w6.heap.size 5 1 (.slice (some ⟨w6.heap.size, 0, none⟩) 8 8) 8 (cells8 (be8 N))) (args := #[.int .i64 (N : Int)]) _ _ rfl rfl Try.func30 (by kernel_rfl) (by kernel_rfl) ((hE.out N hN40.out w6 w6.heap.size rfl).mono fun e w'' ⟨he, hb, ho⟩ => ⟨_, he, rfl, hb, ho⟩) ?_
    rintro qq w7 ⟨rfl, h7, ho7⟩
    have hb7 : Hid (Below w2.heap.size w2 w7) := hb6.out.trans (h7.mono hb6.out.size)
    have hO7 := Lib.hid (own_below hO6.out h7)
    obtain ⟨Al, cl, el, -, -, hrl, -⟩ := own_reads ho7
    injection el with el1 el2 el3
    subst el1 el3
    replace hrl := Lib.hid hrl
    clear ho7 h7
    go_simp
    refine hK _ _ hb7.out ?_
    clear hK K
    refine held_only (i := 7) rfl (by kernel_rfl) (by rfl) (fun K hK => ?_)
    refine wp_append_src _ (.tmp 58) (.tmp 62) 29 rfl w2.heap.size 5 i0' (.int .u8 0) 1 1 Try.underlying29 hi0 iz0 iz1 iz2 rfl (by decide) (.slice A6 (3 + s.size) c6) (3 + s.size) (cells8 (([50, kb s.size] ++ nm s) ++ [1])) rfl hO7.out (some ⟨w6.heap.size, 0, none⟩) 8 8 (cells8 (be8 N)) rfl hrl.out (fun e => by cases e) (cells8_one _) (by unfold maxLen; omega) (by omega) hb7.out.size ?_
    intro v8 w8 hG
    obtain ⟨A8, c8, rfl, hO8, hb8⟩ := grew_text hG hb7.out hb7.out.size hO7.out (([50, kb s.size] ++ nm s) ++ [1] ++ be8 N) rfl (11 + s.size) (by omega)
    clear hG hrl
    go_simp
    refine hK _ _ hb8.out ?_
    clear hK K
    refine held_take (i := 8) (v := .slice A8 (11 + s.size) c8) rfl (by kernel_rfl) (by kernel_rfl) (by kernel_rfl) (fun _ _ _ h => h) hb8.out (by rfl) (fun w' hw' => by first | go_simp | rfl) ?_
    (intro K hK; go_simp; refine hK _ ?_; clear hK K)
    refine held_end (by kernel_rfl) ?_
    go_wp2_with ((with_reducible change wpList _ _ _ ({ dst := some 68, op := _, type := _, pos := _, after := _, guard := _ } :: _) _ _); refine wpList_append_src _ (o := ⟨some 68, _, _, _, _, _⟩) rfl (.tmp 64) (.tmp 67) 29 rfl (w2.heap.size) 5 i0' (.int .u8 0) 1 1 Try.underlying29 hi0 iz0 iz1 iz2 rfl (by decide) (.slice A8 (11 + s.size) c8) (11 + s.size) (cells8 (([50, kb s.size] ++ nm s) ++ [1] ++ be8 N)) rfl hO8.out (some ⟨w.heap.size, 3, none⟩) 32 32 (cells8 ch) rfl (hcR.out _ hb8.out) (fun e => by cases e) (cells8_one _) (by unfold maxLen; omega) (by omega) hb8.out.size ?_; intro v7 w7 hG; obtain ⟨A7, c7, rfl, hO7, hb7⟩ := grew_text hG hb8.out hb8.out.size hO8.out (([50, kb s.size] ++ nm s) ++ [1] ++ be8 N ++ ch) rfl (43 + s.size) (by omega); clear hG)
    have s9 : Hid (Below w2.heap.size w2 w7.drew) := hb7.out.drew
    refine held_start (fun w' => Below w2.heap.size w2 w') 8 rfl (by kernel_rfl) ?_
    refine held_take (i := 0) (v := .slice A7 (43 + s.size) c7) rfl (by kernel_rfl) (by kernel_rfl) (by kernel_rfl) (fun _ _ _ h => h) s9.out (by rfl) (fun w' hw' => run_mv (.tmp 4) rfl w') ?_
    (intro K hK; go_simp; refine hK _ ?_; clear hK K)
    refine held_take (i := 1) (v := .pointer (some ⟨w.heap.size, 35, none⟩)) rfl (by kernel_rfl) (by kernel_rfl) (by kernel_rfl) (fun _ _ _ h => h) s9.out (by rfl) (fun w' hw' => by go_simp) ?_
    (intro K hK; go_simp; refine hK _ ?_; clear hK K)
    refine held_take (i := 2) (v := .slice (some ⟨w.heap.size, 35, none⟩) 32 32) rfl (by kernel_rfl) (by kernel_rfl) (by kernel_rfl) (fun _ _ _ h => h) s9.out (by rfl) (fun w' hw' => by go_simp) ?_
    (intro K hK; go_simp; refine hK _ ?_; clear hK K)
    refine held_take (i := 4) (v := .pointer (some ⟨w.heap.size, 67, none⟩)) rfl (by kernel_rfl) (by kernel_rfl) (by kernel_rfl) (fun _ _ _ h => h) s9.out (by rfl) (fun w' hw' => by go_simp) ?_
    (intro K hK; go_simp; refine hK _ ?_; clear hK K)
    refine held_take (i := 5) (v := .slice A n c) rfl (by kernel_rfl) (by kernel_rfl) (by kernel_rfl) (fun _ _ _ h => h) s9.out (by rfl) (fun w' hw' => by have h := hcell.out w' hw' 67 _ i4.out; go_simp) ?_
    (intro K hK; go_simp; refine hK _ ?_; clear hK K)
    refine held_only (i := 3) rfl (by kernel_rfl) (by rfl) (fun K hK => ?_)
    refine wp_append_src _ (.tmp 72) (.tmp 74) 29 rfl w2.heap.size 5 i0' (.int .u8 0) 1 1 Try.underlying29 hi0 iz0 iz1 iz2 rfl (by decide) (.slice A7 (43 + s.size) c7) (43 + s.size) (cells8 (([50, kb s.size] ++ nm s) ++ [1] ++ be8 N ++ ch)) rfl hO7.out (some ⟨w.heap.size, 35, none⟩) 32 32 (cells8 d) rfl (hdR.out _ s9.out) (fun e => by cases e) (cells8_one _) (by unfold maxLen; omega) (by omega) hb7.out.size ?_
    intro v10 w10 hG
    obtain ⟨A10, c10, rfl, hO10, hb10⟩ := grew_text hG s9.out s9.out.size hO7.out ((([50, kb s.size] ++ nm s) ++ [1] ++ be8 N ++ ch) ++ d) rfl (43 + s.size + 32) rfl
    clear hG
    go_simp
    refine hK _ _ hb10.out ?_
    clear hK K
    refine held_only (i := 6) rfl (by kernel_rfl) (by rfl) (fun K hK => ?_)
    refine wp_fn (R := fun v w'' => w''.ownsRow w2.heap.size 5 1 v (43 + s.size + 32 + 32 * n) (cells8 ((([50, kb s.size] ++ nm s) ++ [1] ++ be8 N ++ ch) ++ d ++ ds.flatten)) ∧ Below w2.heap.size w10 w'') (args := #[.slice A10 (43 + s.size + 32) c10, .slice A n c]) _ _ rfl rfl Try.func31 (by kernel_rfl) (by kernel_rfl) ((digests17_any w2.heap.size ((([50, kb s.size] ++ nm s) ++ [1] ++ be8 N ++ ch) ++ d) (43 + s.size + 32) A10 c10 ds n A c w10 hb10.out.size hO10.out (hrw.out w10 hb10.out) hAlt.out (by omega)).mono fun e w'' ⟨v, he, ho, hb⟩ => ⟨_, he, ho, hb⟩) ?_
    rintro v11 w11 ⟨ho11, h11⟩
    obtain ⟨A11, c11, rfl, -⟩ := own_reads ho11
    have hb11 : Hid (Below w2.heap.size w2 w11) := hb10.out.trans h11
    replace ho11 := Lib.hid ho11
    clear h11
    go_simp
    refine hK _ _ hb11.out ?_
    clear hK K
    refine held_take (i := 7) (v := .slice A11 (43 + s.size + 32 + 32 * n) c11) rfl (by kernel_rfl) (by kernel_rfl) (by kernel_rfl) (fun _ _ _ h => h) hb11.out (by rfl) (fun w' hw' => by first | go_simp | rfl) ?_
    (intro K hK; go_simp; refine hK _ ?_; clear hK K)
    refine held_end (by kernel_rfl) ?_
    go_wp2_with fail
    go_ret
    refine ⟨.slice A11 (43 + s.size + 32 + 32 * n) c11, rfl, ?_, hb2.out.trans (hb11.out.mono hb2.out.size)⟩
    have hl2 := hlen.out
    simp only [if_true] at hl2
    rw [hl2]
    have h := ownsRow_base ho11.out hb2.out.size
    rw [show 75 + s.size + 32 * n = 43 + s.size + 32 + 32 * n by omega]
    have e : idxB s true (N : Int) ch d ds = (([50, kb s.size] ++ nm s) ++ [1] ++ be8 N ++ ch) ++ d ++ ds.flatten := by simp [idxB]
    rw [e]
    exact h
end Go.Proofs.Ytmdkfhfkdcbpgaa.IdxRef2
