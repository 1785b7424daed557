/-
  Texts of the claim, put into one file: IdxRef.
-/
import Derived.Test.YtmdkfhfkdcbpgaaZ19
import Derived.Test.YtmdkfhfkdcbpgaaZ21
import Derived.Test.YtmdkfhfkdcbpgaaZ7
import Derived.Test.YtmdkfhfkdcbpgaaZ6

namespace Go.Proofs.Ytmdkfhfkdcbpgaa.IdxRef
open Go Go.RowKit Go.Proofs.Ytmdkfhfkdcbpgaa Go.Proofs.Ytmdkfhfkdcbpgaa.Mem Go.Proofs.Ytmdkfhfkdcbpgaa.Sha Go.Proofs.Ytmdkfhfkdcbpgaa.Bytes Go.Proofs.Ytmdkfhfkdcbpgaa.Append Go.Proofs.Ytmdkfhfkdcbpgaa.Octet Go.Proofs.Ytmdkfhfkdcbpgaa.Octet2 Go.Proofs.Ytmdkfhfkdcbpgaa.HeadMem Go.Proofs.Ytmdkfhfkdcbpgaa.ProofBeside Go.Proofs.Ytmdkfhfkdcbpgaa.ProofEnc Go.Proofs.Ytmdkfhfkdcbpgaa.ProofIdx Go.Proofs.Ytmdkfhfkdcbpgaa.ProofIdx2 Go.Proofs.Ytmdkfhfkdcbpgaa.ProofIdx3 Go.Proofs.Ytmdkfhfkdcbpgaa.StructEq Go.Proofs.Ytmdkfhfkdcbpgaa.IdxAny Go.Proofs.Ytmdkfhfkdcbpgaa.IdxEnc Go.Proofs.Ytmdkfhfkdcbpgaa.IdxRef0 Go.Proofs.Ytmdkfhfkdcbpgaa.QuietTail Go.Proofs.Ytmdkfhfkdcbpgaa.Grown Go.Proofs.Ytmdkfhfkdcbpgaa.Held Go.Proofs.Ytmdkfhfkdcbpgaa.Want

theorem sizeE : (Try.prog.info? 25).map (·.size) = some 33 := by kernel_rfl
theorem oneE : (entC 0 IdxAny.z32).toArray.all (fun v => v.oneCell') = true := by kernel_rfl
theorem sizeL : (Try.prog.info? 25).map (·.size) = some (#[.int .i64 0, .int .u8 0, .int .u8 0, .int .u8 0, .int .u8 0, .int .u8 0, .int .u8 0, .int .u8 0, .int .u8 0, .int .u8 0, .int .u8 0, .int .u8 0, .int .u8 0, .int .u8 0, .int .u8 0, .int .u8 0, .int .u8 0, .int .u8 0, .int .u8 0, .int .u8 0, .int .u8 0, .int .u8 0, .int .u8 0, .int .u8 0, .int .u8 0, .int .u8 0, .int .u8 0, .int .u8 0, .int .u8 0, .int .u8 0, .int .u8 0, .int .u8 0, .int .u8 0] : Array Value).size := by kernel_rfl
theorem oneL : (#[.int .i64 0, .int .u8 0, .int .u8 0, .int .u8 0, .int .u8 0, .int .u8 0, .int .u8 0, .int .u8 0, .int .u8 0, .int .u8 0, .int .u8 0, .int .u8 0, .int .u8 0, .int .u8 0, .int .u8 0, .int .u8 0, .int .u8 0, .int .u8 0, .int .u8 0, .int .u8 0, .int .u8 0, .int .u8 0, .int .u8 0, .int .u8 0, .int .u8 0, .int .u8 0, .int .u8 0, .int .u8 0, .int .u8 0, .int .u8 0, .int .u8 0, .int .u8 0, .int .u8 0] : Array Value).all (fun v => v.oneCell') = true := by kernel_rfl
theorem qE : Try.prog.eqGuardType Try.prog.depth 25 = false := by kernel_rfl
set_option maxRecDepth 100000 in
set_option maxHeartbeats 20000000 in
theorem refidx_no (s : ByteArray) (f : Bool) (cnt : Int) (ch : Text) (hch : ch.length = 32) (d : Text) (hd : d.length = 32) (A : Option Addr) (n c : Nat) (hok : okIx s f cnt ch d n = false) (w : World) :
    Calls Try.prog 9 #[.agg (idxCells s f (entC cnt ch) d A n c).toArray] w fun e w' => e = .returned (.slice none 0 0) ∧ Below w.heap.size w w' := by
  obtain ⟨cs, hcs⟩ : ∃ cs : Array Value, (idxCells s f (entC cnt ch) d A n c).toArray = cs := ⟨_, rfl⟩
  have i0 : Hid (cs[0]? = some (.string s)) := by show _ = _; rw [← hcs, List.getElem?_toArray]; exact idx_name
  have i1 : Hid (cs[1]? = some (.bool f)) := by show _ = _; rw [← hcs, List.getElem?_toArray]; exact idx_found
  have i2 : Hid (∀ j v, (entC cnt ch)[j]? = some v → cs[2 + j]? = some v) := fun j v hv => by rw [← hcs, List.getElem?_toArray]; exact idx_ent j v hv
  have ie : Hid (cs[2]? = some (.int .i64 cnt)) := i2.out 0 _ rfl
  have i3 : Hid (∀ j v, (cells8 d)[j]? = some v → cs[35 + j]? = some v) := fun j v hv => by rw [← hcs, List.getElem?_toArray]; exact idx_bitmap (entC_len hch) j v hv
  have i4 : Hid (cs[67]? = some (.slice A n c)) := by show _ = _; rw [← hcs, List.getElem?_toArray]; exact idx_way (entC_len hch) hd
  rw [hcs]
  clear hcs
  have sE : Hid ((Try.prog.info? 25).map (·.size) = some (entC cnt ch).length) := by show _ = _; rw [entC_len hch]; exact sizeE
  have sD : Hid ((Try.prog.info? 23).map (·.size) = some (cells8 d).length) := agg_hi size32 (by rw [cells8_len, hd])
  have hnq := Lib.hid (fun w' => neq_entry cnt 0 ch IdxAny.z32 hch IdxAny.z32_len w')
  have hB0 : Hid (Blk (w.alloc (.cells cs 28)) w.heap.size 28 cs) := Blk.new w _ _
  have hb0 : Hid (Below w.heap.size w (w.alloc (.cells cs 28))) := Below.heap_below w _
  have hz0 : Hid ((w.alloc (.cells cs 28)).heap.size = w.heap.size + 1) := by show _ = _; simp
  obtain ⟨EE, hEe⟩ : ∃ Z, Hid ((entC cnt ch).toArray = Z) := ⟨_, Lib.hid rfl⟩
  have hZE0 : (entC 0 IdxAny.z32).toArray = #[.int .i64 0, .int .u8 0, .int .u8 0, .int .u8 0, .int .u8 0, .int .u8 0, .int .u8 0, .int .u8 0, .int .u8 0, .int .u8 0, .int .u8 0, .int .u8 0, .int .u8 0, .int .u8 0, .int .u8 0, .int .u8 0, .int .u8 0, .int .u8 0, .int .u8 0, .int .u8 0, .int .u8 0, .int .u8 0, .int .u8 0, .int .u8 0, .int .u8 0, .int .u8 0, .int .u8 0, .int .u8 0, .int .u8 0, .int .u8 0, .int .u8 0, .int .u8 0, .int .u8 0] := by kernel_rfl
  have hone := oneE
  have hsz0 : (entC 0 IdxAny.z32).toArray.size = 33 := rfl
  obtain ⟨ZE, hZE⟩ : ∃ Z, (entC 0 IdxAny.z32).toArray = Z := ⟨_, rfl⟩
  rw [hZE] at hnq hZE0 hone hsz0
  rw [hEe.out] at hnq
  have sZ : Hid ((Try.prog.info? 25).map (·.size) = some ZE.size) := by show _ = _; rw [hsz0]; exact sizeE
  have sZ2 : Hid (ZE.size = ZE.size) := rfl
  replace hone := Lib.hid hone
  replace hZE0 := Lib.hid hZE0
  have hL0 : Hid (Blk ((w.alloc (.cells cs 28)).alloc (.cells #[.int .i64 0, .int .u8 0, .int .u8 0, .int .u8 0, .int .u8 0, .int .u8 0, .int .u8 0, .int .u8 0, .int .u8 0, .int .u8 0, .int .u8 0, .int .u8 0, .int .u8 0, .int .u8 0, .int .u8 0, .int .u8 0, .int .u8 0, .int .u8 0, .int .u8 0, .int .u8 0, .int .u8 0, .int .u8 0, .int .u8 0, .int .u8 0, .int .u8 0, .int .u8 0, .int .u8 0, .int .u8 0, .int .u8 0, .int .u8 0, .int .u8 0, .int .u8 0, .int .u8 0] 25)) (w.heap.size + 1) 25 #[.int .i64 0, .int .u8 0, .int .u8 0, .int .u8 0, .int .u8 0, .int .u8 0, .int .u8 0, .int .u8 0, .int .u8 0, .int .u8 0, .int .u8 0, .int .u8 0, .int .u8 0, .int .u8 0, .int .u8 0, .int .u8 0, .int .u8 0, .int .u8 0, .int .u8 0, .int .u8 0, .int .u8 0, .int .u8 0, .int .u8 0, .int .u8 0, .int .u8 0, .int .u8 0, .int .u8 0, .int .u8 0, .int .u8 0, .int .u8 0, .int .u8 0, .int .u8 0, .int .u8 0]) := by
    have := Blk.new (w.alloc (.cells cs 28)) 25 #[.int .i64 0, .int .u8 0, .int .u8 0, .int .u8 0, .int .u8 0, .int .u8 0, .int .u8 0, .int .u8 0, .int .u8 0, .int .u8 0, .int .u8 0, .int .u8 0, .int .u8 0, .int .u8 0, .int .u8 0, .int .u8 0, .int .u8 0, .int .u8 0, .int .u8 0, .int .u8 0, .int .u8 0, .int .u8 0, .int .u8 0, .int .u8 0, .int .u8 0, .int .u8 0, .int .u8 0, .int .u8 0, .int .u8 0, .int .u8 0, .int .u8 0, .int .u8 0, .int .u8 0]
    rw [hz0.out] at this
    exact this
  obtain ⟨b1, h1⟩ : ∃ b, Hid (namedB s.data.toList = b) := ⟨_, Lib.hid rfl⟩
  obtain ⟨b2, h2⟩ : ∃ b, Hid (((onesOf d : Int) == (n : Int)) = b) := ⟨_, Lib.hid rfl⟩
  clear hZE hsz0 hch
  replace hd := Lib.hid hd
  replace hok := hok
  go_enter Try.func9, Try.ntmps9
  go_wp2_with ((with_reducible change wpList _ _ _ ({ dst := none, op := Op.store 25 (.tmp 3) _, type := _, pos := _, after := _, guard := _ } :: _) _ _); refine wpList_store_whole (o := ⟨none, _, _, _, _, _⟩) rfl 25 (.tmp 3) (.tmp 5) rfl (w.heap.size + 1) ((#[.int .i64 0, .int .u8 0, .int .u8 0, .int .u8 0, .int .u8 0, .int .u8 0, .int .u8 0, .int .u8 0, .int .u8 0, .int .u8 0, .int .u8 0, .int .u8 0, .int .u8 0, .int .u8 0, .int .u8 0, .int .u8 0, .int .u8 0, .int .u8 0, .int .u8 0, .int .u8 0, .int .u8 0, .int .u8 0, .int .u8 0, .int .u8 0, .int .u8 0, .int .u8 0, .int .u8 0, .int .u8 0, .int .u8 0, .int .u8 0, .int .u8 0, .int .u8 0, .int .u8 0] : Array Value)) rfl rfl 25 ((#[.int .i64 0, .int .u8 0, .int .u8 0, .int .u8 0, .int .u8 0, .int .u8 0, .int .u8 0, .int .u8 0, .int .u8 0, .int .u8 0, .int .u8 0, .int .u8 0, .int .u8 0, .int .u8 0, .int .u8 0, .int .u8 0, .int .u8 0, .int .u8 0, .int .u8 0, .int .u8 0, .int .u8 0, .int .u8 0, .int .u8 0, .int .u8 0, .int .u8 0, .int .u8 0, .int .u8 0, .int .u8 0, .int .u8 0, .int .u8 0, .int .u8 0, .int .u8 0, .int .u8 0] : Array Value)) hL0.out sizeL rfl oneL ?_; intro w1 hZ1 hk1; rw [← hZE0.out] at hZ1 ⊢; replace hZ1 := Lib.hid hZ1; have hB1 : Hid (Blk w1 w.heap.size 28 cs) := Blk.kept (hB0.out.alloc _) hk1 (by omega); have hb1 : Hid (Below w.heap.size w w1) := (hb0.out.alloc (by have := hz0.out; omega) _).trans (Kept.below_of hk1 (by omega) (by have := hz0.out; simp; omega)); clear hk1)
  have hC : Hid (∀ w', Class w1 w' → ∀ j v, cs[j]? = some v → w'.cell? ⟨w.heap.size, j, none⟩ = some v) := fun w' hw' j v hv => ((show Blk w' w.heap.size 28 cs from (hw'.below.block _ hB1.out.lt).trans hB1.out).cell j).trans hv
  clear hB0 hb0 hL0 hz0
  cases b1 with
  | false =>
    refine q_region (Class w1) (by kernel_rfl) (by kernel_rfl) (Class.mk_ ((Below.refl _ _).drew)) ?_
    refine q_val (v := .pointer (some ⟨w.heap.size, 0, none⟩)) rfl (fun w' hw' => by go_simp) ?_
    (intro K hK; go_simp; refine hK _ ?_; clear hK K)
    refine q_val (v := .string s) rfl (fun w' hw' => by have hc := (hC.out w' hw' 0 _ i0.out); go_simp) ?_
    (intro K hK; go_simp; refine hK _ ?_; clear hK K)
    refine q_fn (v := .bool false) (args := #[.string s]) rfl _ _ rfl rfl Try.func28 (by kernel_rfl) (by kernel_rfl) (fun w' hw' => (named17_any s w').mono (fun e w'' ⟨he, hw⟩ => ⟨by rw [he, h1.out], by rw [← hw]; exact hw'⟩)) ?_
    (intro K hK; go_simp; refine hK _ ?_; clear hK K)
    refine q_val (v := .bool true) rfl (fun w' hw' => by go_simp) ?_
    (intro K hK; go_simp; refine hK _ ?_; clear hK K)
    refine q_val (v := .bool true) rfl (fun w' hw' => by go_simp) ?_
    (intro K hK; go_simp; refine hK _ ?_; clear hK K)
    refine q_skip rfl ?_
    (intro K hK; go_simp; refine hK _ ?_; clear hK K)
    refine q_skip rfl ?_
    (intro K hK; go_simp; refine hK _ ?_; clear hK K)
    refine q_skip rfl ?_
    (intro K hK; go_simp; refine hK _ ?_; clear hK K)
    refine q_skip rfl ?_
    (intro K hK; go_simp; refine hK _ ?_; clear hK K)
    refine q_skip rfl ?_
    (intro K hK; go_simp; refine hK _ ?_; clear hK K)
    refine q_skip rfl ?_
    (intro K hK; go_simp; refine hK _ ?_; clear hK K)
    refine q_skip rfl ?_
    (intro K hK; go_simp; refine hK _ ?_; clear hK K)
    refine q_val (v := .bool true) rfl (fun w' hw' => by go_simp) ?_
    (intro K hK; go_simp; refine hK _ ?_; clear hK K)
    refine q_val (v := .bool true) rfl (fun w' hw' => by go_simp) ?_
    (intro K hK; go_simp; refine hK _ ?_; clear hK K)
    refine q_skip rfl ?_
    (intro K hK; go_simp; refine hK _ ?_; clear hK K)
    refine q_skip rfl ?_
    (intro K hK; go_simp; refine hK _ ?_; clear hK K)
    refine q_skip rfl ?_
    (intro K hK; go_simp; refine hK _ ?_; clear hK K)
    refine q_skip rfl ?_
    (intro K hK; go_simp; refine hK _ ?_; clear hK K)
    refine q_skip rfl ?_
    (intro K hK; go_simp; refine hK _ ?_; clear hK K)
    refine q_skip rfl ?_
    (intro K hK; go_simp; refine hK _ ?_; clear hK K)
    refine q_skip rfl ?_
    (intro K hK; go_simp; refine hK _ ?_; clear hK K)
    refine q_skip rfl ?_
    (intro K hK; go_simp; refine hK _ ?_; clear hK K)
    refine q_skip rfl ?_
    (intro K hK; go_simp; refine hK _ ?_; clear hK K)
    refine q_val (v := .bool true) rfl (fun w' hw' => by go_simp) ?_
    (intro K hK; go_simp; refine hK _ ?_; clear hK K)
    refine q_val (v := .bool true) rfl (fun w' hw' => by go_simp) ?_
    (intro K hK; go_simp; refine hK _ ?_; clear hK K)
    refine q_skip rfl ?_
    (intro K hK; go_simp; refine hK _ ?_; clear hK K)
    refine q_skip rfl ?_
    (intro K hK; go_simp; refine hK _ ?_; clear hK K)
    refine q_skip rfl ?_
    (intro K hK; go_simp; refine hK _ ?_; clear hK K)
    refine q_skip rfl ?_
    (intro K hK; go_simp; refine hK _ ?_; clear hK K)
    refine q_skip rfl ?_
    (intro K hK; go_simp; refine hK _ ?_; clear hK K)
    refine q_skip rfl ?_
    (intro K hK; go_simp; refine hK _ ?_; clear hK K)
    refine q_skip rfl ?_
    (intro K hK; go_simp; refine hK _ ?_; clear hK K)
    refine q_skip rfl ?_
    (intro K hK; go_simp; refine hK _ ?_; clear hK K)
    refine q_skip rfl ?_
    (intro K hK; go_simp; refine hK _ ?_; clear hK K)
    refine q_skip rfl ?_
    (intro K hK; go_simp; refine hK _ ?_; clear hK K)
    refine q_skip rfl ?_
    (intro K hK; go_simp; refine hK _ ?_; clear hK K)
    refine q_skip rfl ?_
    (intro K hK; go_simp; refine hK _ ?_; clear hK K)
    refine q_skip rfl ?_
    (intro K hK; go_simp; refine hK _ ?_; clear hK K)
    refine q_skip rfl ?_
    (intro K hK; go_simp; refine hK _ ?_; clear hK K)
    refine q_val (v := .bool true) rfl (fun w' hw' => by go_simp) ?_
    (intro K hK; go_simp; refine hK _ ?_; clear hK K)
    refine q_nil ?_
    intro w2 hw2
    have hb2 : Hid (Below w.heap.size w w2) := hb1.out.trans (hw2.below.mono hb1.out.size)
    go_wp2_with fail
    go_ret
    exact ⟨rfl, hb2.out⟩
  | true =>
    cases b2 with
    | false =>
      have h2n : Hid (¬ ((onesOf d : Int) = (n : Int))) := beq_eq_false_iff_ne.1 h2.out
      refine q_region (Class w1) (by kernel_rfl) (by kernel_rfl) (Class.mk_ ((Below.refl _ _).drew)) ?_
      refine q_val (v := .pointer (some ⟨w.heap.size, 0, none⟩)) rfl (fun w' hw' => by go_simp) ?_
      (intro K hK; go_simp; refine hK _ ?_; clear hK K)
      refine q_val (v := .string s) rfl (fun w' hw' => by have hc := (hC.out w' hw' 0 _ i0.out); go_simp) ?_
      (intro K hK; go_simp; refine hK _ ?_; clear hK K)
      refine q_fn (v := .bool true) (args := #[.string s]) rfl _ _ rfl rfl Try.func28 (by kernel_rfl) (by kernel_rfl) (fun w' hw' => (named17_any s w').mono (fun e w'' ⟨he, hw⟩ => ⟨by rw [he, h1.out], by rw [← hw]; exact hw'⟩)) ?_
      (intro K hK; go_simp; refine hK _ ?_; clear hK K)
      refine q_val (v := .bool false) rfl (fun w' hw' => by go_simp) ?_
      (intro K hK; go_simp; refine hK _ ?_; clear hK K)
      refine q_val (v := .bool false) rfl (fun w' hw' => by go_simp) ?_
      (intro K hK; go_simp; refine hK _ ?_; clear hK K)
      refine q_val (v := .pointer (some ⟨w.heap.size, 35, none⟩)) rfl (fun w' hw' => by go_simp) ?_
      (intro K hK; go_simp; refine hK _ ?_; clear hK K)
      refine q_part rfl 23 (.tmp 11) rfl w.heap.size 35 rfl (cells8 d) _ (fun w' hw' j v hv => hC.out w' hw' (35 + j) v (i3.out j v hv)) Try.underlying23 rfl sD.out ?_
      (intro K hK; go_simp; refine hK _ ?_; clear hK K)
      refine q_fn (v := .int .i64 (onesOf d : Nat)) (args := #[.agg (cells8 d).toArray]) rfl _ _ rfl rfl Try.func29 (by kernel_rfl) (by kernel_rfl) (fun w' hw' => (ones17_any d hd.out w').mono (fun e w'' ⟨he, hb⟩ => ⟨he, hw'.next hb⟩)) ?_
      (intro K hK; go_simp; refine hK _ ?_; clear hK K)
      refine q_val (v := .pointer (some ⟨w.heap.size, 67, none⟩)) rfl (fun w' hw' => by go_simp) ?_
      (intro K hK; go_simp; refine hK _ ?_; clear hK K)
      refine q_val (v := .slice A n c) rfl (fun w' hw' => by have hc := (hC.out w' hw' 67 _ i4.out); go_simp) ?_
      (intro K hK; go_simp; refine hK _ ?_; clear hK K)
      refine q_val (v := .int .i64 (n : Int)) rfl (fun w' hw' => by go_simp) ?_
      (intro K hK; go_simp; refine hK _ ?_; clear hK K)
      refine q_val (v := .bool true) rfl (fun w' hw' => by have hc := h2n.out; go_simp) ?_
      (intro K hK; go_simp; refine hK _ ?_; clear hK K)
      refine q_val (v := .bool true) rfl (fun w' hw' => by go_simp) ?_
      (intro K hK; go_simp; refine hK _ ?_; clear hK K)
      refine q_val (v := .bool true) rfl (fun w' hw' => by go_simp) ?_
      (intro K hK; go_simp; refine hK _ ?_; clear hK K)
      refine q_skip rfl ?_
      (intro K hK; go_simp; refine hK _ ?_; clear hK K)
      refine q_skip rfl ?_
      (intro K hK; go_simp; refine hK _ ?_; clear hK K)
      refine q_skip rfl ?_
      (intro K hK; go_simp; refine hK _ ?_; clear hK K)
      refine q_skip rfl ?_
      (intro K hK; go_simp; refine hK _ ?_; clear hK K)
      refine q_skip rfl ?_
      (intro K hK; go_simp; refine hK _ ?_; clear hK K)
      refine q_skip rfl ?_
      (intro K hK; go_simp; refine hK _ ?_; clear hK K)
      refine q_skip rfl ?_
      (intro K hK; go_simp; refine hK _ ?_; clear hK K)
      refine q_skip rfl ?_
      (intro K hK; go_simp; refine hK _ ?_; clear hK K)
      refine q_skip rfl ?_
      (intro K hK; go_simp; refine hK _ ?_; clear hK K)
      refine q_val (v := .bool true) rfl (fun w' hw' => by go_simp) ?_
      (intro K hK; go_simp; refine hK _ ?_; clear hK K)
      refine q_val (v := .bool true) rfl (fun w' hw' => by go_simp) ?_
      (intro K hK; go_simp; refine hK _ ?_; clear hK K)
      refine q_skip rfl ?_
      (intro K hK; go_simp; refine hK _ ?_; clear hK K)
      refine q_skip rfl ?_
      (intro K hK; go_simp; refine hK _ ?_; clear hK K)
      refine q_skip rfl ?_
      (intro K hK; go_simp; refine hK _ ?_; clear hK K)
      refine q_skip rfl ?_
      (intro K hK; go_simp; refine hK _ ?_; clear hK K)
      refine q_skip rfl ?_
      (intro K hK; go_simp; refine hK _ ?_; clear hK K)
      refine q_skip rfl ?_
      (intro K hK; go_simp; refine hK _ ?_; clear hK K)
      refine q_skip rfl ?_
      (intro K hK; go_simp; refine hK _ ?_; clear hK K)
      refine q_skip rfl ?_
      (intro K hK; go_simp; refine hK _ ?_; clear hK K)
      refine q_skip rfl ?_
      (intro K hK; go_simp; refine hK _ ?_; clear hK K)
      refine q_skip rfl ?_
      (intro K hK; go_simp; refine hK _ ?_; clear hK K)
      refine q_skip rfl ?_
      (intro K hK; go_simp; refine hK _ ?_; clear hK K)
      refine q_skip rfl ?_
      (intro K hK; go_simp; refine hK _ ?_; clear hK K)
      refine q_skip rfl ?_
      (intro K hK; go_simp; refine hK _ ?_; clear hK K)
      refine q_skip rfl ?_
      (intro K hK; go_simp; refine hK _ ?_; clear hK K)
      refine q_val (v := .bool true) rfl (fun w' hw' => by go_simp) ?_
      (intro K hK; go_simp; refine hK _ ?_; clear hK K)
      refine q_nil ?_
      intro w2 hw2
      have hb2 : Hid (Below w.heap.size w w2) := hb1.out.trans (hw2.below.mono hb1.out.size)
      go_wp2_with fail
      go_ret
      exact ⟨rfl, hb2.out⟩
    | true =>
      have h2n : Hid ((onesOf d : Int) = (n : Int)) := eq_of_beq h2.out
      have hent : okEnt f cnt ch = false := by
        have h := hok
        unfold okIx at h
        rw [h1.out, h2.out] at h
        simpa using h
      cases f with
      | false =>
        have hz : ¬ (cnt = 0 ∧ ch = IdxAny.z32) := of_decide_eq_false hent
        rw [decide_eq_false hz] at hnq
        clear hok hent hz
        refine q_region (Class w1) (by kernel_rfl) (by kernel_rfl) (Class.mk_ ((Below.refl _ _).drew)) ?_
        refine q_val (v := .pointer (some ⟨w.heap.size, 0, none⟩)) rfl (fun w' hw' => by go_simp) ?_
        (intro K hK; go_simp; refine hK _ ?_; clear hK K)
        refine q_val (v := .string s) rfl (fun w' hw' => by have hc := (hC.out w' hw' 0 _ i0.out); go_simp) ?_
        (intro K hK; go_simp; refine hK _ ?_; clear hK K)
        refine q_fn (v := .bool true) (args := #[.string s]) rfl _ _ rfl rfl Try.func28 (by kernel_rfl) (by kernel_rfl) (fun w' hw' => (named17_any s w').mono (fun e w'' ⟨he, hw⟩ => ⟨by rw [he, h1.out], by rw [← hw]; exact hw'⟩)) ?_
        (intro K hK; go_simp; refine hK _ ?_; clear hK K)
        refine q_val (v := .bool false) rfl (fun w' hw' => by go_simp) ?_
        (intro K hK; go_simp; refine hK _ ?_; clear hK K)
        refine q_val (v := .bool false) rfl (fun w' hw' => by go_simp) ?_
        (intro K hK; go_simp; refine hK _ ?_; clear hK K)
        refine q_val (v := .pointer (some ⟨w.heap.size, 35, none⟩)) rfl (fun w' hw' => by go_simp) ?_
        (intro K hK; go_simp; refine hK _ ?_; clear hK K)
        refine q_part rfl 23 (.tmp 11) rfl w.heap.size 35 rfl (cells8 d) _ (fun w' hw' j v hv => hC.out w' hw' (35 + j) v (i3.out j v hv)) Try.underlying23 rfl sD.out ?_
        (intro K hK; go_simp; refine hK _ ?_; clear hK K)
        refine q_fn (v := .int .i64 (onesOf d : Nat)) (args := #[.agg (cells8 d).toArray]) rfl _ _ rfl rfl Try.func29 (by kernel_rfl) (by kernel_rfl) (fun w' hw' => (ones17_any d hd.out w').mono (fun e w'' ⟨he, hb⟩ => ⟨he, hw'.next hb⟩)) ?_
        (intro K hK; go_simp; refine hK _ ?_; clear hK K)
        refine q_val (v := .pointer (some ⟨w.heap.size, 67, none⟩)) rfl (fun w' hw' => by go_simp) ?_
        (intro K hK; go_simp; refine hK _ ?_; clear hK K)
        refine q_val (v := .slice A n c) rfl (fun w' hw' => by have hc := (hC.out w' hw' 67 _ i4.out); go_simp) ?_
        (intro K hK; go_simp; refine hK _ ?_; clear hK K)
        refine q_val (v := .int .i64 (n : Int)) rfl (fun w' hw' => by go_simp) ?_
        (intro K hK; go_simp; refine hK _ ?_; clear hK K)
        refine q_val (v := .bool false) rfl (fun w' hw' => by have hc := h2n.out; go_simp) ?_
        (intro K hK; go_simp; refine hK _ ?_; clear hK K)
        refine q_val (v := .bool false) rfl (fun w' hw' => by go_simp) ?_
        (intro K hK; go_simp; refine hK _ ?_; clear hK K)
        refine q_val (v := .bool false) rfl (fun w' hw' => by go_simp) ?_
        (intro K hK; go_simp; refine hK _ ?_; clear hK K)
        refine q_val (v := .pointer (some ⟨w.heap.size, 1, none⟩)) rfl (fun w' hw' => by go_simp) ?_
        (intro K hK; go_simp; refine hK _ ?_; clear hK K)
        refine q_val (v := .bool false) rfl (fun w' hw' => by have hc := (hC.out w' hw' 1 _ i1.out); go_simp) ?_
        (intro K hK; go_simp; refine hK _ ?_; clear hK K)
        refine q_val (v := .bool true) rfl (fun w' hw' => by go_simp) ?_
        (intro K hK; go_simp; refine hK _ ?_; clear hK K)
        refine q_val (v := .bool true) rfl (fun w' hw' => by go_simp) ?_
        (intro K hK; go_simp; refine hK _ ?_; clear hK K)
        refine q_val (v := .pointer (some ⟨w.heap.size, 2, none⟩)) rfl (fun w' hw' => by go_simp) ?_
        (intro K hK; go_simp; refine hK _ ?_; clear hK K)
        refine q_part rfl 25 (.tmp 24) rfl w.heap.size 2 rfl (entC cnt ch) _ (fun w' hw' j v hv => hC.out w' hw' (2 + j) v (i2.out j v hv)) Try.underlying25 rfl sE.out ?_
        (intro K hK; go_simp; rw [hEe.out]; refine hK _ ?_; clear hK K)
        refine q_row rfl 25 (.tmp 3) rfl (w.heap.size + 1) rfl 25 ZE (0, 0) _ (fun w' hw' => (hw'.below.block _ hZ1.out.lt).trans hZ1.out) Try.underlying25 rfl sZ.out ?_
        (intro K hK; go_simp; refine hK _ ?_; clear hK K)
        refine q_val (v := .bool true) rfl (fun w' hw' => run_cmp rfl rfl rfl qE (hnq.out w')) ?_
        (intro K hK; go_simp; refine hK _ ?_; clear hK K)
        refine q_val (v := .bool true) rfl (fun w' hw' => by go_simp) ?_
        (intro K hK; go_simp; refine hK _ ?_; clear hK K)
        refine q_val (v := .bool true) rfl (fun w' hw' => by go_simp) ?_
        (intro K hK; go_simp; refine hK _ ?_; clear hK K)
        refine q_val (v := .bool true) rfl (fun w' hw' => by go_simp) ?_
        (intro K hK; go_simp; refine hK _ ?_; clear hK K)
        refine q_skip rfl ?_
        (intro K hK; go_simp; refine hK _ ?_; clear hK K)
        refine q_skip rfl ?_
        (intro K hK; go_simp; refine hK _ ?_; clear hK K)
        refine q_skip rfl ?_
        (intro K hK; go_simp; refine hK _ ?_; clear hK K)
        refine q_skip rfl ?_
        (intro K hK; go_simp; refine hK _ ?_; clear hK K)
        refine q_skip rfl ?_
        (intro K hK; go_simp; refine hK _ ?_; clear hK K)
        refine q_skip rfl ?_
        (intro K hK; go_simp; refine hK _ ?_; clear hK K)
        refine q_skip rfl ?_
        (intro K hK; go_simp; refine hK _ ?_; clear hK K)
        refine q_skip rfl ?_
        (intro K hK; go_simp; refine hK _ ?_; clear hK K)
        refine q_skip rfl ?_
        (intro K hK; go_simp; refine hK _ ?_; clear hK K)
        refine q_skip rfl ?_
        (intro K hK; go_simp; refine hK _ ?_; clear hK K)
        refine q_skip rfl ?_
        (intro K hK; go_simp; refine hK _ ?_; clear hK K)
        refine q_skip rfl ?_
        (intro K hK; go_simp; refine hK _ ?_; clear hK K)
        refine q_skip rfl ?_
        (intro K hK; go_simp; refine hK _ ?_; clear hK K)
        refine q_skip rfl ?_
        (intro K hK; go_simp; refine hK _ ?_; clear hK K)
        refine q_val (v := .bool true) rfl (fun w' hw' => by go_simp) ?_
        (intro K hK; go_simp; refine hK _ ?_; clear hK K)
        refine q_nil ?_
        intro w2 hw2
        have hb2 : Hid (Below w.heap.size w w2) := hb1.out.trans (hw2.below.mono hb1.out.size)
        go_wp2_with fail
        go_ret
        exact ⟨rfl, hb2.out⟩
      | true =>
        have hz : ¬ (1 ≤ cnt ∧ cnt ≤ 1099511627776) := of_decide_eq_false hent
        by_cases c1 : cnt < 1
        · replace c1 : Hid (decide (cnt < 1) = true) := decide_eq_true c1
          clear hok hent hz hnq
          refine q_region (Class w1) (by kernel_rfl) (by kernel_rfl) (Class.mk_ ((Below.refl _ _).drew)) ?_
          refine q_val (v := .pointer (some ⟨w.heap.size, 0, none⟩)) rfl (fun w' hw' => by go_simp) ?_
          (intro K hK; go_simp; refine hK _ ?_; clear hK K)
          refine q_val (v := .string s) rfl (fun w' hw' => by have hc := (hC.out w' hw' 0 _ i0.out); go_simp) ?_
          (intro K hK; go_simp; refine hK _ ?_; clear hK K)
          refine q_fn (v := .bool true) (args := #[.string s]) rfl _ _ rfl rfl Try.func28 (by kernel_rfl) (by kernel_rfl) (fun w' hw' => (named17_any s w').mono (fun e w'' ⟨he, hw⟩ => ⟨by rw [he, h1.out], by rw [← hw]; exact hw'⟩)) ?_
          (intro K hK; go_simp; refine hK _ ?_; clear hK K)
          refine q_val (v := .bool false) rfl (fun w' hw' => by go_simp) ?_
          (intro K hK; go_simp; refine hK _ ?_; clear hK K)
          refine q_val (v := .bool false) rfl (fun w' hw' => by go_simp) ?_
          (intro K hK; go_simp; refine hK _ ?_; clear hK K)
          refine q_val (v := .pointer (some ⟨w.heap.size, 35, none⟩)) rfl (fun w' hw' => by go_simp) ?_
          (intro K hK; go_simp; refine hK _ ?_; clear hK K)
          refine q_part rfl 23 (.tmp 11) rfl w.heap.size 35 rfl (cells8 d) _ (fun w' hw' j v hv => hC.out w' hw' (35 + j) v (i3.out j v hv)) Try.underlying23 rfl sD.out ?_
          (intro K hK; go_simp; refine hK _ ?_; clear hK K)
          refine q_fn (v := .int .i64 (onesOf d : Nat)) (args := #[.agg (cells8 d).toArray]) rfl _ _ rfl rfl Try.func29 (by kernel_rfl) (by kernel_rfl) (fun w' hw' => (ones17_any d hd.out w').mono (fun e w'' ⟨he, hb⟩ => ⟨he, hw'.next hb⟩)) ?_
          (intro K hK; go_simp; refine hK _ ?_; clear hK K)
          refine q_val (v := .pointer (some ⟨w.heap.size, 67, none⟩)) rfl (fun w' hw' => by go_simp) ?_
          (intro K hK; go_simp; refine hK _ ?_; clear hK K)
          refine q_val (v := .slice A n c) rfl (fun w' hw' => by have hc := (hC.out w' hw' 67 _ i4.out); go_simp) ?_
          (intro K hK; go_simp; refine hK _ ?_; clear hK K)
          refine q_val (v := .int .i64 (n : Int)) rfl (fun w' hw' => by go_simp) ?_
          (intro K hK; go_simp; refine hK _ ?_; clear hK K)
          refine q_val (v := .bool false) rfl (fun w' hw' => by have hc := h2n.out; go_simp) ?_
          (intro K hK; go_simp; refine hK _ ?_; clear hK K)
          refine q_val (v := .bool false) rfl (fun w' hw' => by go_simp) ?_
          (intro K hK; go_simp; refine hK _ ?_; clear hK K)
          refine q_val (v := .bool false) rfl (fun w' hw' => by go_simp) ?_
          (intro K hK; go_simp; refine hK _ ?_; clear hK K)
          refine q_val (v := .pointer (some ⟨w.heap.size, 1, none⟩)) rfl (fun w' hw' => by go_simp) ?_
          (intro K hK; go_simp; refine hK _ ?_; clear hK K)
          refine q_val (v := .bool true) rfl (fun w' hw' => by have hc := (hC.out w' hw' 1 _ i1.out); go_simp) ?_
          (intro K hK; go_simp; refine hK _ ?_; clear hK K)
          refine q_val (v := .bool false) rfl (fun w' hw' => by go_simp) ?_
          (intro K hK; go_simp; refine hK _ ?_; clear hK K)
          refine q_val (v := .bool false) rfl (fun w' hw' => by go_simp) ?_
          (intro K hK; go_simp; refine hK _ ?_; clear hK K)
          refine q_skip rfl ?_
          (intro K hK; go_simp; refine hK _ ?_; clear hK K)
          refine q_skip rfl ?_
          (intro K hK; go_simp; refine hK _ ?_; clear hK K)
          refine q_skip rfl ?_
          (intro K hK; go_simp; refine hK _ ?_; clear hK K)
          refine q_skip rfl ?_
          (intro K hK; go_simp; refine hK _ ?_; clear hK K)
          refine q_val (v := .bool false) rfl (fun w' hw' => by go_simp) ?_
          (intro K hK; go_simp; refine hK _ ?_; clear hK K)
          refine q_val (v := .bool false) rfl (fun w' hw' => by go_simp) ?_
          (intro K hK; go_simp; refine hK _ ?_; clear hK K)
          refine q_val (v := .bool false) rfl (fun w' hw' => by go_simp) ?_
          (intro K hK; go_simp; refine hK _ ?_; clear hK K)
          refine q_val (v := .pointer (some ⟨w.heap.size, 1, none⟩)) rfl (fun w' hw' => by go_simp) ?_
          (intro K hK; go_simp; refine hK _ ?_; clear hK K)
          refine q_val (v := .bool true) rfl (fun w' hw' => by have hc := (hC.out w' hw' 1 _ i1.out); go_simp) ?_
          (intro K hK; go_simp; refine hK _ ?_; clear hK K)
          refine q_val (v := .bool true) rfl (fun w' hw' => by go_simp) ?_
          (intro K hK; go_simp; refine hK _ ?_; clear hK K)
          refine q_val (v := .pointer (some ⟨w.heap.size, 2, none⟩)) rfl (fun w' hw' => by go_simp) ?_
          (intro K hK; go_simp; refine hK _ ?_; clear hK K)
          refine q_val (v := .pointer (some ⟨w.heap.size, 2, none⟩)) rfl (fun w' hw' => by go_simp) ?_
          (intro K hK; go_simp; refine hK _ ?_; clear hK K)
          refine q_val (v := .int .i64 cnt) rfl (fun w' hw' => by have hc := (hC.out w' hw' 2 _ ie.out); go_simp) ?_
          (intro K hK; go_simp; refine hK _ ?_; clear hK K)
          refine q_val (v := .bool true) rfl (fun w' hw' => by have hc := c1.out; go_simp) ?_
          (intro K hK; go_simp; refine hK _ ?_; clear hK K)
          refine q_val (v := .bool true) rfl (fun w' hw' => by go_simp) ?_
          (intro K hK; go_simp; refine hK _ ?_; clear hK K)
          refine q_skip rfl ?_
          (intro K hK; go_simp; refine hK _ ?_; clear hK K)
          refine q_skip rfl ?_
          (intro K hK; go_simp; refine hK _ ?_; clear hK K)
          refine q_skip rfl ?_
          (intro K hK; go_simp; refine hK _ ?_; clear hK K)
          refine q_skip rfl ?_
          (intro K hK; go_simp; refine hK _ ?_; clear hK K)
          refine q_val (v := .bool true) rfl (fun w' hw' => by go_simp) ?_
          (intro K hK; go_simp; refine hK _ ?_; clear hK K)
          refine q_val (v := .bool true) rfl (fun w' hw' => by go_simp) ?_
          (intro K hK; go_simp; refine hK _ ?_; clear hK K)
          refine q_val (v := .bool true) rfl (fun w' hw' => by go_simp) ?_
          (intro K hK; go_simp; refine hK _ ?_; clear hK K)
          refine q_nil ?_
          intro w2 hw2
          have hb2 : Hid (Below w.heap.size w w2) := hb1.out.trans (hw2.below.mono hb1.out.size)
          go_wp2_with fail
          go_ret
          exact ⟨rfl, hb2.out⟩
        · have c2 : Hid (decide (1099511627776 < cnt) = true) := decide_eq_true (by omega)
          replace c1 : Hid (decide (cnt < 1) = false) := decide_eq_false c1
          clear hok hent hz hnq
          refine q_region (Class w1) (by kernel_rfl) (by kernel_rfl) (Class.mk_ ((Below.refl _ _).drew)) ?_
          refine q_val (v := .pointer (some ⟨w.heap.size, 0, none⟩)) rfl (fun w' hw' => by go_simp) ?_
          (intro K hK; go_simp; refine hK _ ?_; clear hK K)
          refine q_val (v := .string s) rfl (fun w' hw' => by have hc := (hC.out w' hw' 0 _ i0.out); go_simp) ?_
          (intro K hK; go_simp; refine hK _ ?_; clear hK K)
          refine q_fn (v := .bool true) (args := #[.string s]) rfl _ _ rfl rfl Try.func28 (by kernel_rfl) (by kernel_rfl) (fun w' hw' => (named17_any s w').mono (fun e w'' ⟨he, hw⟩ => ⟨by rw [he, h1.out], by rw [← hw]; exact hw'⟩)) ?_
          (intro K hK; go_simp; refine hK _ ?_; clear hK K)
          refine q_val (v := .bool false) rfl (fun w' hw' => by go_simp) ?_
          (intro K hK; go_simp; refine hK _ ?_; clear hK K)
          refine q_val (v := .bool false) rfl (fun w' hw' => by go_simp) ?_
          (intro K hK; go_simp; refine hK _ ?_; clear hK K)
          refine q_val (v := .pointer (some ⟨w.heap.size, 35, none⟩)) rfl (fun w' hw' => by go_simp) ?_
          (intro K hK; go_simp; refine hK _ ?_; clear hK K)
          refine q_part rfl 23 (.tmp 11) rfl w.heap.size 35 rfl (cells8 d) _ (fun w' hw' j v hv => hC.out w' hw' (35 + j) v (i3.out j v hv)) Try.underlying23 rfl sD.out ?_
          (intro K hK; go_simp; refine hK _ ?_; clear hK K)
          refine q_fn (v := .int .i64 (onesOf d : Nat)) (args := #[.agg (cells8 d).toArray]) rfl _ _ rfl rfl Try.func29 (by kernel_rfl) (by kernel_rfl) (fun w' hw' => (ones17_any d hd.out w').mono (fun e w'' ⟨he, hb⟩ => ⟨he, hw'.next hb⟩)) ?_
          (intro K hK; go_simp; refine hK _ ?_; clear hK K)
          refine q_val (v := .pointer (some ⟨w.heap.size, 67, none⟩)) rfl (fun w' hw' => by go_simp) ?_
          (intro K hK; go_simp; refine hK _ ?_; clear hK K)
          refine q_val (v := .slice A n c) rfl (fun w' hw' => by have hc := (hC.out w' hw' 67 _ i4.out); go_simp) ?_
          (intro K hK; go_simp; refine hK _ ?_; clear hK K)
          refine q_val (v := .int .i64 (n : Int)) rfl (fun w' hw' => by go_simp) ?_
          (intro K hK; go_simp; refine hK _ ?_; clear hK K)
          refine q_val (v := .bool false) rfl (fun w' hw' => by have hc := h2n.out; go_simp) ?_
          (intro K hK; go_simp; refine hK _ ?_; clear hK K)
          refine q_val (v := .bool false) rfl (fun w' hw' => by go_simp) ?_
          (intro K hK; go_simp; refine hK _ ?_; clear hK K)
          refine q_val (v := .bool false) rfl (fun w' hw' => by go_simp) ?_
          (intro K hK; go_simp; refine hK _ ?_; clear hK K)
          refine q_val (v := .pointer (some ⟨w.heap.size, 1, none⟩)) rfl (fun w' hw' => by go_simp) ?_
          (intro K hK; go_simp; refine hK _ ?_; clear hK K)
          refine q_val (v := .bool true) rfl (fun w' hw' => by have hc := (hC.out w' hw' 1 _ i1.out); go_simp) ?_
          (intro K hK; go_simp; refine hK _ ?_; clear hK K)
          refine q_val (v := .bool false) rfl (fun w' hw' => by go_simp) ?_
          (intro K hK; go_simp; refine hK _ ?_; clear hK K)
          refine q_val (v := .bool false) rfl (fun w' hw' => by go_simp) ?_
          (intro K hK; go_simp; refine hK _ ?_; clear hK K)
          refine q_skip rfl ?_
          (intro K hK; go_simp; refine hK _ ?_; clear hK K)
          refine q_skip rfl ?_
          (intro K hK; go_simp; refine hK _ ?_; clear hK K)
          refine q_skip rfl ?_
          (intro K hK; go_simp; refine hK _ ?_; clear hK K)
          refine q_skip rfl ?_
          (intro K hK; go_simp; refine hK _ ?_; clear hK K)
          refine q_val (v := .bool false) rfl (fun w' hw' => by go_simp) ?_
          (intro K hK; go_simp; refine hK _ ?_; clear hK K)
          refine q_val (v := .bool false) rfl (fun w' hw' => by go_simp) ?_
          (intro K hK; go_simp; refine hK _ ?_; clear hK K)
          refine q_val (v := .bool false) rfl (fun w' hw' => by go_simp) ?_
          (intro K hK; go_simp; refine hK _ ?_; clear hK K)
          refine q_val (v := .pointer (some ⟨w.heap.size, 1, none⟩)) rfl (fun w' hw' => by go_simp) ?_
          (intro K hK; go_simp; refine hK _ ?_; clear hK K)
          refine q_val (v := .bool true) rfl (fun w' hw' => by have hc := (hC.out w' hw' 1 _ i1.out); go_simp) ?_
          (intro K hK; go_simp; refine hK _ ?_; clear hK K)
          refine q_val (v := .bool true) rfl (fun w' hw' => by go_simp) ?_
          (intro K hK; go_simp; refine hK _ ?_; clear hK K)
          refine q_val (v := .pointer (some ⟨w.heap.size, 2, none⟩)) rfl (fun w' hw' => by go_simp) ?_
          (intro K hK; go_simp; refine hK _ ?_; clear hK K)
          refine q_val (v := .pointer (some ⟨w.heap.size, 2, none⟩)) rfl (fun w' hw' => by go_simp) ?_
          (intro K hK; go_simp; refine hK _ ?_; clear hK K)
          refine q_val (v := .int .i64 cnt) rfl (fun w' hw' => by have hc := (hC.out w' hw' 2 _ ie.out); go_simp) ?_
          (intro K hK; go_simp; refine hK _ ?_; clear hK K)
          refine q_val (v := .bool false) rfl (fun w' hw' => by have hc := c1.out; go_simp) ?_
          (intro K hK; go_simp; refine hK _ ?_; clear hK K)
          refine q_val (v := .bool false) rfl (fun w' hw' => by go_simp) ?_
          (intro K hK; go_simp; refine hK _ ?_; clear hK K)
          refine q_val (v := .pointer (some ⟨w.heap.size, 2, none⟩)) rfl (fun w' hw' => by go_simp) ?_
          (intro K hK; go_simp; refine hK _ ?_; clear hK K)
          refine q_val (v := .pointer (some ⟨w.heap.size, 2, none⟩)) rfl (fun w' hw' => by go_simp) ?_
          (intro K hK; go_simp; refine hK _ ?_; clear hK K)
          refine q_val (v := .int .i64 cnt) rfl (fun w' hw' => by have hc := (hC.out w' hw' 2 _ ie.out); go_simp) ?_
          (intro K hK; go_simp; refine hK _ ?_; clear hK K)
          refine q_val (v := .bool true) rfl (fun w' hw' => by have hc := c2.out; go_simp) ?_
          (intro K hK; go_simp; refine hK _ ?_; clear hK K)
          refine q_val (v := .bool true) rfl (fun w' hw' => by go_simp) ?_
          (intro K hK; go_simp; refine hK _ ?_; clear hK K)
          refine q_val (v := .bool true) rfl (fun w' hw' => by go_simp) ?_
          (intro K hK; go_simp; refine hK _ ?_; clear hK K)
          refine q_val (v := .bool true) rfl (fun w' hw' => by go_simp) ?_
          (intro K hK; go_simp; refine hK _ ?_; clear hK K)
          refine q_nil ?_
          intro w2 hw2
          have hb2 : Hid (Below w.heap.size w w2) := hb1.out.trans (hw2.below.mono hb1.out.size)
          go_wp2_with fail
          go_ret
          exact ⟨rfl, hb2.out⟩
end Go.Proofs.Ytmdkfhfkdcbpgaa.IdxRef
