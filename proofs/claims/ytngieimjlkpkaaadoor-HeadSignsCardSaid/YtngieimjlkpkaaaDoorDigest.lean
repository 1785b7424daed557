/-
  The program's digests, walked: Sum, Cut, Of, Leaf, Node, Link, Nothing.
-/
import Derived.Test.YtngieimjlkpkaaaDoorHashSum
import Derived.Test.YtngieimjlkpkaaaDoorDigestMem
namespace Go.Proofs.YtngieimjlkpkaaaDoor.Digest
open Go Go.RowKit Go.Proofs.YtngieimjlkpkaaaDoor Go.Proofs.YtngieimjlkpkaaaDoor.Mem Go.Proofs.YtngieimjlkpkaaaDoor.Sha Go.Proofs.YtngieimjlkpkaaaDoor.ShaWalk Go.Proofs.YtngieimjlkpkaaaDoor.Bytes Go.Proofs.YtngieimjlkpkaaaDoor.HashMem Go.Proofs.YtngieimjlkpkaaaDoor.Hash Go.Proofs.YtngieimjlkpkaaaDoor.HashSum Go.Proofs.YtngieimjlkpkaaaDoor.DigestMem

/-- A sum as a value. -/
def dig (x : Text) : Value := .agg (cells8 x).toArray
theorem dig_size (x : Text) (hx : x.length = 32) : (Tryd.prog.info? 31).map (·.size) = some (cells8 x).toArray.size := size31.trans (congrArg some (by simp [cells8_len, hx]))
theorem dig_one (x : Text) : (cells8 x).toArray.all (fun v => v.oneCell') = true := by rw [List.all_toArray]; exact List.all_eq_true.2 (cells8_one x)

set_option maxRecDepth 100000 in
set_option maxHeartbeats 600000 in
theorem cut_any (x : Text) (hx : x.length = 32) (s : Int) (w : World) :
    Calls Tryd.prog 73 #[.agg (cells8 x).toArray, .int .i64 s] w fun e w' => e = .returned (.agg (cells8 (cutTo x (clampN s))).toArray) ∧ Below w.heap.size w w' := by
  have hm := clampN_ok s
  have hxh := Lib.hid hx
  have hz1 := Lib.hid (dig_size x hx)
  obtain ⟨m, hmm⟩ : ∃ m, Hid (m = clampN s) := ⟨_, rfl⟩
  rw [← hmm.out] at hm ⊢
  have hz2 := Lib.hid (dig_size (cutTo x m) (cutTo_len x m hx hm.2))
  have ho2 := Lib.hid (dig_one (cutTo x m))
  have hz32 : Hid ((Z32 : Array Value).size = (cells8 (cutTo x m)).toArray.size) := by show _ = _; simp [cells8_len, cutTo_len x m hx hm.2, Z32]
  have hf : Hid (m + (32 - m) ≤ (cells8 x).toArray.size) := by show _ ≤ _; simp [cells8_len, hx]; omega
  have hcc : Hid ((splice (cells8 x).toArray.toList m (List.replicate (32 - m) (.int .u8 0))).toArray = (cells8 (cutTo x m)).toArray) := congrArg List.toArray (cutTo_cells x m)
  clear hx
  by_cases c1 : s < 1
  · have em : m = 1 := by have := hmm.out; unfold clampN at this; rw [if_pos c1] at this; exact this
    subst em
    clear hmm hm
    go_enter Tryd.func73, Tryd.ntmps73
    go_wp2_with (first | ((with_reducible change wpList _ _ _ ({ dst := none, op := Op.call { callee := Callee.builtin Builtin.clear, args := _, argTypes := _ }, type := _, pos := _, after := _, guard := _ } :: _) _ _); refine wpList_clear_row (o := ⟨none, _, _, _, _, _⟩) rfl (.tmp 8) 28 rfl 5 Tryd.underlying28 (.int .u8 0) (fun _ => rfl) rfl rfl w.heap.size 1 31 31 rfl 1 (fun _ => rfl) (cells8 x).toArray 31 (heap_alloc2_old w _ _) hf.out ?_; rw [hcc.out]) | ((with_reducible change wpList _ _ _ ({ dst := some 9, op := _, type := _, pos := _, after := _, guard := _ } :: _) _ _); refine wpList_load_row (o := ⟨some 9, _, _, _, _, _⟩) rfl 31 (.tmp 2) rfl w.heap.size rfl 31 (cells8 (cutTo x 1)).toArray (0, 0) _ (setRow_heap _ _ _ _ _ _ (heap_alloc2_old w _ _)) Tryd.underlying31 rfl hz2.out ?_) | ((with_reducible change wpList _ _ _ ({ dst := none, op := Op.store 31 _ _, type := _, pos := _, after := _, guard := _ } :: _) _ _); refine wpList_store_row (o := ⟨none, _, _, _, _, _⟩) rfl 31 (.tmp 4) (.tmp 9) rfl (w.heap.size + 1) (cells8 (cutTo x 1)).toArray rfl rfl 31 Z32 ((setRow_other _ _ _ _ (by omega)).trans (heap_alloc2_new w _ _)) hz2.out hz32.out ho2.out ?_))
    refine bodyPost_ret (results_cell_row rfl _ _ (w.heap.size + 1) 31 (cells8 (cutTo x 1)).toArray (0, 0) _ rfl (setRow_heap _ _ _ _ _ _ ((setRow_other _ _ _ _ (by omega)).trans (heap_alloc2_new w _ _))) Tryd.underlying31 rfl hz2.out) rfl ?_
    exact ⟨rfl, below_setRow (below_setRow (((Below.refl _ w).alloc (Nat.le_refl _) _).alloc (by simp) _) (Nat.le_refl _) _) (by omega) _⟩
  by_cases c2 : 32 < s
  · have em : m = 32 := by have := hmm.out; unfold clampN at this; rw [if_neg c1, if_pos c2] at this; exact this
    subst em
    clear hmm hm
    go_enter Tryd.func73, Tryd.ntmps73
    go_wp2_with (first | ((with_reducible change wpList _ _ _ ({ dst := none, op := Op.call { callee := Callee.builtin Builtin.clear, args := _, argTypes := _ }, type := _, pos := _, after := _, guard := _ } :: _) _ _); refine wpList_clear_row (o := ⟨none, _, _, _, _, _⟩) rfl (.tmp 8) 28 rfl 5 Tryd.underlying28 (.int .u8 0) (fun _ => rfl) rfl rfl w.heap.size 0 0 0 rfl 32 (fun h => absurd h (by omega)) (cells8 x).toArray 31 (heap_alloc2_old w _ _) hf.out ?_; rw [hcc.out]) | ((with_reducible change wpList _ _ _ ({ dst := some 9, op := _, type := _, pos := _, after := _, guard := _ } :: _) _ _); refine wpList_load_row (o := ⟨some 9, _, _, _, _, _⟩) rfl 31 (.tmp 2) rfl w.heap.size rfl 31 (cells8 (cutTo x 32)).toArray (0, 0) _ (setRow_heap _ _ _ _ _ _ (heap_alloc2_old w _ _)) Tryd.underlying31 rfl hz2.out ?_) | ((with_reducible change wpList _ _ _ ({ dst := none, op := Op.store 31 _ _, type := _, pos := _, after := _, guard := _ } :: _) _ _); refine wpList_store_row (o := ⟨none, _, _, _, _, _⟩) rfl 31 (.tmp 4) (.tmp 9) rfl (w.heap.size + 1) (cells8 (cutTo x 32)).toArray rfl rfl 31 Z32 ((setRow_other _ _ _ _ (by omega)).trans (heap_alloc2_new w _ _)) hz2.out hz32.out ho2.out ?_))
    refine bodyPost_ret (results_cell_row rfl _ _ (w.heap.size + 1) 31 (cells8 (cutTo x 32)).toArray (0, 0) _ rfl (setRow_heap _ _ _ _ _ _ ((setRow_other _ _ _ _ (by omega)).trans (heap_alloc2_new w _ _))) Tryd.underlying31 rfl hz2.out) rfl ?_
    exact ⟨rfl, below_setRow (below_setRow (((Below.refl _ w).alloc (Nat.le_refl _) _).alloc (by simp) _) (Nat.le_refl _) _) (by omega) _⟩
  · have em : s = (m : Int) := by have := hmm.out; unfold clampN at this; rw [if_neg c1, if_neg c2] at this; omega
    subst em
    have X : ∀ w', (Instr.sliceAt 31 (.pointer (some ⟨w.heap.size, 0, none⟩)) (some (.int .i64 (m : Int))) none none).run Tryd.prog w' = .ok (.slice (some ⟨w.heap.size, offC m, none⟩) (32 - m) (32 - m)) w' := run_cutC Tryd.underlying31 (by kernel_rfl) (fun _ => rfl) hm.2 _ rfl
    clear hmm hm
    go_enter Tryd.func73, Tryd.ntmps73
    go_wp2_with (first | ((with_reducible change wpList _ _ _ ({ dst := none, op := Op.call { callee := Callee.builtin Builtin.clear, args := _, argTypes := _ }, type := _, pos := _, after := _, guard := _ } :: _) _ _); refine wpList_clear_row (o := ⟨none, _, _, _, _, _⟩) rfl (.tmp 8) 28 rfl 5 Tryd.underlying28 (.int .u8 0) (fun _ => rfl) rfl rfl w.heap.size (offC m) (32 - m) (32 - m) rfl m (fun h => offC_lt h) (cells8 x).toArray 31 (heap_alloc2_old w _ _) hf.out ?_; rw [hcc.out]) | ((with_reducible change wpList _ _ _ ({ dst := some 9, op := _, type := _, pos := _, after := _, guard := _ } :: _) _ _); refine wpList_load_row (o := ⟨some 9, _, _, _, _, _⟩) rfl 31 (.tmp 2) rfl w.heap.size rfl 31 (cells8 (cutTo x m)).toArray (0, 0) _ (setRow_heap _ _ _ _ _ _ (heap_alloc2_old w _ _)) Tryd.underlying31 rfl hz2.out ?_) | ((with_reducible change wpList _ _ _ ({ dst := none, op := Op.store 31 _ _, type := _, pos := _, after := _, guard := _ } :: _) _ _); refine wpList_store_row (o := ⟨none, _, _, _, _, _⟩) rfl 31 (.tmp 4) (.tmp 9) rfl (w.heap.size + 1) (cells8 (cutTo x m)).toArray rfl rfl 31 Z32 ((setRow_other _ _ _ _ (by omega)).trans (heap_alloc2_new w _ _)) hz2.out hz32.out ho2.out ?_))
    refine bodyPost_ret (results_cell_row rfl _ _ (w.heap.size + 1) 31 (cells8 (cutTo x m)).toArray (0, 0) _ rfl (setRow_heap _ _ _ _ _ _ ((setRow_other _ _ _ _ (by omega)).trans (heap_alloc2_new w _ _))) Tryd.underlying31 rfl hz2.out) rfl ?_
    exact ⟨rfl, below_setRow (below_setRow (((Below.refl _ w).alloc (Nat.le_refl _) _).alloc (by simp) _) (Nat.le_refl _) _) (by omega) _⟩

theorem Reads.off {w : World} {A : Option Addr} {k g : Nat} {xs : List Value} (h : Reads w 1 A k xs) (hg : w.heap.size ≤ g) : 0 < k → Off A g := by
  intro hk a ha
  obtain ⟨b, o, e, hb, _⟩ := h.2 (by omega)
  rw [e] at ha
  obtain rfl := Option.some.inj ha
  show b ≠ g
  omega

set_option maxRecDepth 100000 in
set_option maxHeartbeats 600000 in
theorem sumOf_any (q : Text) (k : Nat) (hk : q.length = k) (A : Option Addr) (c : Nat) (w : World) (hB : Base w) (hlen : k < 144115188075855872) (hr : Reads w 1 A k (cells8 q)) (hc : k ≤ c) :
    Calls Tryd.prog 75 #[.slice A k c] w fun e w' => e = .returned (.agg (cells8 (sum q)).toArray) ∧ Below w.heap.size w w' := by
  have hz := Lib.hid (dig_size (sum q) (sum_len q))
  have hz32 : Hid ((Z32 : Array Value).size = (cells8 (sum q)).toArray.size) := by show _ = _; simp [cells8_len, sum_len, Z32]
  have ho := Lib.hid (dig_one (sum q))
  have hkh := Lib.hid hk
  replace hB := Lib.hid hB
  replace hr := Lib.hid hr
  replace hlen := Lib.hid hlen
  have hR := Lib.hid (heap_alloc_new w (Obj.cells Z32 31))
  clear hk
  go_enter Tryd.func75, Tryd.ntmps75
  go_wp2_with (first
    | (go_at_call 71; refine (new_any _).mono ?_; rintro e w2 ⟨g, rfl, hg, hH, hb⟩; replace hH := Lib.hid hH; replace hb := Lib.hid hb; replace hg : Hid (w.heap.size + 1 ≤ g) := (show w.heap.size + 1 ≤ g by simpa using hg); have hb0 : Hid (Below w.heap.size w w2) := ((Below.refl _ w).alloc (Nat.le_refl _) _).trans (hb.out.mono (by simp)); have hR2 : Hid (Blk w2 w.heap.size 31 Z32) := (hb.out.block w.heap.size (by simp)).trans hR.out; clear hb)
    | (go_at_call 72; refine (write_k [] q k hkh.out g A c w2 (hB.out.below hb0.out hB.out.1) (by have := hB.out.1; have := hg.out; omega) hH.out (by have := hlen.out; simp; omega) (hr.out.below hb0.out) (Reads.off hr.out (by have := hg.out; omega)) hc).mono ?_; rintro e w3 ⟨rfl, hH3, hk3⟩; replace hH3 := Lib.hid hH3; replace hk3 := Lib.hid hk3)
    | (go_at_call 74; refine (sum_any q g w3 ((hB.out.below hb0.out hB.out.1).kept hk3.out (by have := hB.out.1; have := hg.out; omega)) hH3.out (by have := hlen.out; rw [hkh.out]; omega)).mono ?_; rintro e w4 ⟨rfl, hb4⟩; replace hb4 := Lib.hid hb4; have hR4 : Hid (Blk w4 w.heap.size 31 Z32) := ((hb4.out.block w.heap.size (by have := hk3.out.size; have := hR2.out.lt; omega)).trans ((hk3.out.block w.heap.size hR2.out.lt (by have := hg.out; omega)).trans hR2.out)); have hbb : Hid (Below w.heap.size w w4) := ⟨hb4.out.os.trans (hk3.out.os.trans hb0.out.os), hb4.out.tape.trans (hk3.out.tape.trans hb0.out.tape), hb4.out.output.trans (hk3.out.output.trans hb0.out.output), by have := hb4.out.size; have := hk3.out.size; have := hb0.out.size; omega, fun x hx => (hb4.out.block x (by have := hk3.out.size; have := hb0.out.size; omega)).trans ((hk3.out.block x (by have := hb0.out.size; omega) (by have := hg.out; omega)).trans (hb0.out.block x hx))⟩)
    | ((with_reducible change wpList _ _ _ ({ dst := none, op := Op.store 31 _ _, type := _, pos := _, after := _, guard := _ } :: _) _ _); refine wpList_store_row (o := ⟨none, _, _, _, _, _⟩) rfl 31 (.tmp 2) (.tmp 9) rfl w.heap.size (cells8 (sum q)).toArray rfl rfl 31 Z32 hR4.out hz.out hz32.out ho.out ?_))
  refine bodyPost_ret (results_cell_row rfl _ _ w.heap.size 31 (cells8 (sum q)).toArray (0, 0) _ rfl (setRow_heap _ _ _ _ _ _ hR4.out) Tryd.underlying31 rfl hz.out) rfl ?_
  exact ⟨rfl, below_setRow hbb.out (Nat.le_refl _) _⟩
end Go.Proofs.YtngieimjlkpkaaaDoor.Digest
