/-
  docketlaw20.AuditChains, walked.
-/
import Derived.Test.YtngieimjlkpkaaaDoorChain2
import Derived.Test.YtngieimjlkpkaaaDoorDigEq
namespace Go.Proofs.YtngieimjlkpkaaaDoor.AuditChains
open Go Go.RowKit Go.Proofs.YtngieimjlkpkaaaDoor Go.Proofs.YtngieimjlkpkaaaDoor.Mem Go.Proofs.YtngieimjlkpkaaaDoor.Sha Go.Proofs.YtngieimjlkpkaaaDoor.ShaWalk Go.Proofs.YtngieimjlkpkaaaDoor.Bytes Go.Proofs.YtngieimjlkpkaaaDoor.HashMem Go.Proofs.YtngieimjlkpkaaaDoor.Hash Go.Proofs.YtngieimjlkpkaaaDoor.HashSum Go.Proofs.YtngieimjlkpkaaaDoor.DigestMem Go.Proofs.YtngieimjlkpkaaaDoor.Digest Go.Proofs.YtngieimjlkpkaaaDoor.DigestOf Go.Proofs.YtngieimjlkpkaaaDoor.DigestTop Go.Proofs.YtngieimjlkpkaaaDoor.QuietTail Go.Proofs.YtngieimjlkpkaaaDoor.Grown Go.Proofs.YtngieimjlkpkaaaDoor.Chain Go.Proofs.YtngieimjlkpkaaaDoor.Chain2 Go.Proofs.YtngieimjlkpkaaaDoor.DigEq

set_option maxRecDepth 100000 in
set_option maxHeartbeats 1000000 in
theorem auditChains_any (s : Int) (hs63 : s < 9223372036854775808) (b : Text) (hb : b.length = 32) (es : List Text) (n : Nat) (hn : es.length = n) (A : Option Addr) (c : Nat) (hc : n ≤ c) (x : Int) (w : World) (hB : Base w) (hp : Pieces w A es) (hsh : Short es) :
    Calls Tryd.prog 5 #[.int .i64 s, .agg (cells8 b).toArray, .slice A n c, .int .i64 x] w fun e w' => e = .returned (.bool true) ∧ Below w.heap.size w w' := by
  obtain ⟨m, hm⟩ : ∃ m, Hid (m = min n 300) := ⟨_, rfl⟩
  have hm3 : Hid (m ≤ 300 ∧ m ≤ n) := by have := hm.out; show _ ∧ _; omega
  obtain ⟨fs, hfs⟩ : ∃ fs, Hid (fs = es.take m) := ⟨_, rfl⟩
  have hfl : Hid (fs.length = m) := by have := hm3.out; show _ = _; rw [hfs.out, List.length_take]; omega
  have hfp : Hid (Pieces w A fs) := by show Pieces _ _ _; rw [hfs.out]; exact Pieces.take_ hp m
  have hfsh : Hid (Short fs) := fun q hq => hsh q (by rw [hfs.out] at hq; exact List.mem_of_mem_take hq)
  have hmc : Hid (m ≤ c) := by have := hm3.out; show _ ≤ _; omega
  obtain ⟨k, hk⟩ : ∃ k : Nat, Hid ((k : Int) = x % ((m : Int) + 1)) := ⟨(x % ((m : Int) + 1)).toNat, by
    have := Int.emod_nonneg x (show (m : Int) + 1 ≠ 0 by omega)
    show _ = _; omega⟩
  have hkm : Hid (k ≤ m) := by
    have := Int.emod_lt_of_pos x (show (0 : Int) < (m : Int) + 1 by omega)
    have := hk.out
    show _ ≤ _; omega
  obtain ⟨y, hy⟩ : ∃ y, Hid (y = chainOf s b fs) := ⟨_, rfl⟩
  obtain ⟨z, hz⟩ : ∃ z, Hid (z = chainOf s b (fs.take k)) := ⟨_, rfl⟩
  have hyl : Hid (y.length = 32) := by show _ = _; rw [hy.out]; exact chainOf_len s b hb _
  have hzl : Hid (z.length = 32) := by show _ = _; rw [hz.out]; exact chainOf_len s b hb _
  have hyz : Hid (y = chainOf s z (fs.drop k)) := by show _ = _; rw [hz.out, ← chainOf_append, List.take_append_drop, hy.out]
  have hbl : Hid (b.length = 32) := hb
  have hB0 : Hid (Blk (w.alloc (.cells (cells8 b).toArray 31)) w.heap.size 31 (cells8 b).toArray) := Blk.new w _ _
  have hb0 : Hid (Below w.heap.size w (w.alloc (.cells (cells8 b).toArray 31))) := Below.heap_below w _
  have hsb : Hid ((Tryd.prog.info? 31).map (·.size) = some (cells8 b).toArray.size) := dig_size b hb
  have hsy : Hid ((Tryd.prog.info? 31).map (·.size) = some (cells8 y).toArray.size) := dig_size y hyl.out
  have hsz : Hid ((Z32 : Array Value).size = (cells8 y).toArray.size) := by show _ = _; simp [cells8_len, hyl.out, Z32]
  have hoy := Lib.hid (dig_one y)
  replace hs63 := Lib.hid hs63
  replace hB := Lib.hid hB
  replace hc := Lib.hid hc
  clear hp hsh hb hn
  go_enter Tryd.func5, Tryd.ntmps5
  go_wp2_with (first
    | (go_at_call 19; refine (few20_any A n c hc.out _).mono ?_; rw [← hm.out]; rintro e w1 ⟨rfl, rfl⟩)
    | ((with_reducible change wpList _ _ _ ({ dst := some 13, op := _, type := _, pos := _, after := _, guard := _ } :: _) _ _); refine wpList_load_row (o := ⟨some 13, _, _, _, _, _⟩) rfl 31 (.tmp 5) rfl w.heap.size rfl 31 (cells8 b).toArray (0, 0) _ hB0.out Tryd.underlying31 rfl hsb.out ?_)
    | (go_at_call 20; refine (refchain_any s hs63.out b hbl.out fs m hfl.out (by have := hm3.out; omega) A c _ (Pieces.below hfp.out hb0.out) hfsh.out).mono ?_; rw [← hy.out]; rintro e w2 ⟨rfl, hb2⟩; replace hb2 := Lib.hid hb2)
    | ((with_reducible change wpList _ _ _ ({ dst := none, op := Op.store 31 _ _, type := _, pos := _, after := _, guard := _ } :: _) _ _); refine wpList_store_row (o := ⟨none, _, _, _, _, _⟩) rfl 31 (.tmp 9) (.tmp 15) rfl w2.heap.size (cells8 y).toArray rfl rfl 31 Z32 (heap_alloc_new w2 _) hsy.out hsz.out hoy.out ?_; rw [alloc_setRow])
    | (go_at_call 21; refine (within_any x m (by have := hm3.out; omega) _).mono ?_; rw [← hk.out]; rintro e w3 ⟨rfl, rfl⟩))
  have hB4 : Hid (Blk (w2.alloc (.cells (cells8 y).toArray 31)) w.heap.size 31 (cells8 b).toArray) := Blk.alloc ((hb2.out.block _ hB0.out.lt).trans hB0.out) _
  have hY4 : Hid (Blk (w2.alloc (.cells (cells8 y).toArray 31)) w2.heap.size 31 (cells8 y).toArray) := Blk.new w2 _ _
  have hb4 : Hid (Below w.heap.size w (w2.alloc (.cells (cells8 y).toArray 31))) := (hb0.out.trans (hb2.out.mono hb0.out.size)).alloc (hb0.out.trans (hb2.out.mono hb0.out.size)).size _
  generalize w2.alloc (.cells (cells8 y).toArray 31) = w4 at *
  have hBs : ∀ w', Class w4 w' → Base w' := fun w' hw' => hB.out.below (hb4.out.trans (hw'.below.mono hb4.out.size)) hB.out.1
  have hps : ∀ w', Class w4 w' → Pieces w' A fs := fun w' hw' => Pieces.below hfp.out (hb4.out.trans (hw'.below.mono hb4.out.size))
  replace hBs := Lib.hid hBs
  replace hps := Lib.hid hps
  have hfl2 : Hid ((fs.take k).length = k) := by show _ = _; rw [List.length_take, hfl.out]; have := hkm.out; omega
  have hfl3 : Hid ((fs.drop k).length = m - k) := by show _ = _; rw [List.length_drop, hfl.out]
  have X2 : ∀ w', (Instr.sliceAt 36 (.slice A m c) none (some (.int .i64 (k : Int))) none).run Tryd.prog w' = .ok (.slice A k c) w' := run_headOf (m := k) Tryd.underlying36 (fun _ => rfl) (Nat.le_trans hkm.out hmc.out) _ rfl
  have X3 := fun w' => run_tail (A := A) (c := c) hkm.out (k : Int) rfl w'
  have hE := fun w' => eql_dig y y hyl.out hyl.out w'
  simp only [decide_true] at hE
  refine wp_region_class (Class w4) (by kernel_rfl) (by kernel_rfl) (Class.mk_ ((Below.refl _ _).drew)) ?_
  refine wpQuiet_move rfl (.tmp 0) rfl ?_
  (intro K hK; go_simp; refine hK _ ?_; clear hK K)
  refine wpQuiet_load_row rfl 31 (.tmp 5) rfl w.heap.size rfl 31 (cells8 b).toArray (0, 0) _ (fun w' hw' => (hw'.below.block _ hB4.out.lt).trans hB4.out) Tryd.underlying31 rfl hsb.out ?_
  (intro K hK; go_simp; refine hK _ ?_; clear hK K)
  refine wpQuiet_move rfl (.tmp 2) rfl ?_
  (intro K hK; go_simp; refine hK _ ?_; clear hK K)
  refine wpQuiet_fn (v := .agg (cells8 y).toArray) (args := #[.int .i64 s, .agg (cells8 b).toArray, .slice A m c]) rfl _ _ rfl rfl Tryd.func22 (by kernel_rfl) (by kernel_rfl) (fun w' hw' => ?_) ?_
  · refine (chain_any s b hbl.out fs m hfl.out (by have := hm3.out; omega) A c w' (hBs.out w' hw') (hps.out w' hw') hfsh.out).mono ?_
    rintro e w1 ⟨rfl, hb1⟩
    exact ⟨by rw [hy.out], hw'.next hb1⟩
  (intro K hK; go_simp; refine hK _ ?_; clear hK K)
  refine wpQuiet_load_row rfl 31 (.tmp 9) rfl w2.heap.size rfl 31 (cells8 y).toArray (0, 0) _ (fun w' hw' => (hw'.below.block _ hY4.out.lt).trans hY4.out) Tryd.underlying31 rfl hsy.out ?_
  (intro K hK; go_simp; refine hK _ ?_; clear hK K)
  refine wpQuiet_val (v := .bool true) rfl (fun w' hw' => by go_simp) ?_
  (intro K hK; go_simp; refine hK _ ?_; clear hK K)
  refine wpQuiet_move rfl (.tmp 25) rfl ?_
  (intro K hK; go_simp; refine hK _ ?_; clear hK K)
  refine wpQuiet_move rfl (.tmp 0) rfl ?_
  (intro K hK; go_simp; refine hK _ ?_; clear hK K)
  refine wpQuiet_move rfl (.tmp 0) rfl ?_
  (intro K hK; go_simp; refine hK _ ?_; clear hK K)
  refine wpQuiet_load_row rfl 31 (.tmp 5) rfl w.heap.size rfl 31 (cells8 b).toArray (0, 0) _ (fun w' hw' => (hw'.below.block _ hB4.out.lt).trans hB4.out) Tryd.underlying31 rfl hsb.out ?_
  (intro K hK; go_simp; refine hK _ ?_; clear hK K)
  refine wpQuiet_move rfl (.tmp 2) rfl ?_
  (intro K hK; go_simp; refine hK _ ?_; clear hK K)
  refine wpQuiet_move rfl (.tmp 3) rfl ?_
  (intro K hK; go_simp; refine hK _ ?_; clear hK K)
  refine wpQuiet_val (v := .slice A k c) rfl (fun w' hw' => by go_simp) ?_
  (intro K hK; go_simp; refine hK _ ?_; clear hK K)
  refine wpQuiet_fn (v := .agg (cells8 z).toArray) (args := #[.int .i64 s, .agg (cells8 b).toArray, .slice A k c]) rfl _ _ rfl rfl Tryd.func22 (by kernel_rfl) (by kernel_rfl) (fun w' hw' => ?_) ?_
  · refine (chain_any s b hbl.out (fs.take k) k hfl2.out (by have := hm3.out; have := hkm.out; omega) A c w' (hBs.out w' hw') (Pieces.take_ (hps.out w' hw') k) (fun q hq => hfsh.out q (List.mem_of_mem_take hq))).mono ?_
    rintro e w1 ⟨rfl, hb1⟩
    exact ⟨by rw [hz.out], hw'.next hb1⟩
  (intro K hK; go_simp; refine hK _ ?_; clear hK K)
  refine wpQuiet_move rfl (.tmp 2) rfl ?_
  (intro K hK; go_simp; refine hK _ ?_; clear hK K)
  refine wpQuiet_move rfl (.tmp 3) rfl ?_
  (intro K hK; go_simp; refine hK _ ?_; clear hK K)
  refine wpQuiet_val (v := .slice (cutA A k c) (m - k) (c - k)) rfl (fun w' hw' => by go_simp) ?_
  (intro K hK; go_simp; refine hK _ ?_; clear hK K)
  refine wpQuiet_fn (v := .agg (cells8 y).toArray) (args := #[.int .i64 s, .agg (cells8 z).toArray, .slice (cutA A k c) (m - k) (c - k)]) rfl _ _ rfl rfl Tryd.func22 (by kernel_rfl) (by kernel_rfl) (fun w' hw' => ?_) ?_
  · refine (chain_any s z hzl.out (fs.drop k) (m - k) hfl3.out (by have := hm3.out; omega) _ _ w' (hBs.out w' hw') (Pieces.drop_ (hps.out w' hw') k c (by rw [hfl.out]; exact hmc.out)) (fun q hq => hfsh.out q (List.mem_of_mem_drop hq))).mono ?_
    rintro e w1 ⟨rfl, hb1⟩
    exact ⟨by rw [hyz.out], hw'.next hb1⟩
  (intro K hK; go_simp; refine hK _ ?_; clear hK K)
  refine wpQuiet_load_row rfl 31 (.tmp 9) rfl w2.heap.size rfl 31 (cells8 y).toArray (0, 0) _ (fun w' hw' => (hw'.below.block _ hY4.out.lt).trans hY4.out) Tryd.underlying31 rfl hsy.out ?_
  (intro K hK; go_simp; refine hK _ ?_; clear hK K)
  refine wpQuiet_val (v := .bool true) rfl (fun w' hw' => by go_simp) ?_
  (intro K hK; go_simp; refine hK _ ?_; clear hK K)
  refine wpQuiet_val (v := .bool true) rfl (fun w' hw' => by go_simp) ?_
  (intro K hK; go_simp; refine hK _ ?_; clear hK K)
  refine wpQuiet_val (v := .bool true) rfl (fun w' hw' => by go_simp) ?_
  (intro K hK; go_simp; refine hK _ ?_; clear hK K)
  refine wpQuiet_nil ?_
  intro w' hw'
  go_wp2_with fail
  go_ret
  exact ⟨rfl, hb4.out.trans (hw'.below.mono hb4.out.size)⟩
end Go.Proofs.YtngieimjlkpkaaaDoor.AuditChains
