/-
  Texts of the claim, put into one file: Climb0.
-/
import Derived.Test.YtpgenpogjhpeoaaDoorZ27
import Derived.LoopN

namespace Go.Proofs.YtpgenpogjhpeoaaDoor.Climb0
open Go Go.RowKit Go.Proofs.YtpgenpogjhpeoaaDoor Go.Proofs.YtpgenpogjhpeoaaDoor.Digest Go.Proofs.YtpgenpogjhpeoaaDoor.Mem Go.Proofs.YtpgenpogjhpeoaaDoor.Sha Go.Proofs.YtpgenpogjhpeoaaDoor.ShaWalk Go.Proofs.YtpgenpogjhpeoaaDoor.Bytes Go.Proofs.YtpgenpogjhpeoaaDoor.HashMem Go.Proofs.YtpgenpogjhpeoaaDoor.DigestMem Go.Proofs.YtpgenpogjhpeoaaDoor.DigestTop Go.Proofs.YtpgenpogjhpeoaaDoor.RefTop Go.Proofs.YtpgenpogjhpeoaaDoor.QuietTail Go.Proofs.YtpgenpogjhpeoaaDoor.Grown Go.Proofs.YtpgenpogjhpeoaaDoor.Chain Go.Proofs.YtpgenpogjhpeoaaDoor.TreeMath Go.Proofs.YtpgenpogjhpeoaaDoor.TreeMem Go.Proofs.YtpgenpogjhpeoaaDoor.TreeRoot Go.Proofs.YtpgenpogjhpeoaaDoor.Append Go.Proofs.YtpgenpogjhpeoaaDoor.Book Go.Proofs.YtpgenpogjhpeoaaDoor.TreeRefRoot Go.Proofs.YtpgenpogjhpeoaaDoor.Held Go.Proofs.YtpgenpogjhpeoaaDoor.DigestText Go.Proofs.YtpgenpogjhpeoaaDoor.Node Go.Proofs.YtpgenpogjhpeoaaDoor.NodeW Go.Proofs.YtpgenpogjhpeoaaDoor.Sides Go.Proofs.YtpgenpogjhpeoaaDoor.Way Go.Proofs.YtpgenpogjhpeoaaDoor.WayP Go.Proofs.YtpgenpogjhpeoaaDoor.Climb Go.Proofs.YtpgenpogjhpeoaaDoor.Incl Go.Proofs.YtpgenpogjhpeoaaDoor.InclAny Go.Proofs.YtpgenpogjhpeoaaDoor.Include Go.Proofs.YtpgenpogjhpeoaaDoor.Climbs

set_option maxRecDepth 100000 in
set_option maxHeartbeats 1000000 in
theorem incl_zero (gc : Nat) (leaf : Text) (hl : leaf.length = 32) (A : Option Addr) (c : Nat) (w : World) :
    Calls Tryd.prog 63 #[.pointer (some ⟨gc, 0, none⟩), .int .i64 1, .int .i64 0, .agg (cells8 leaf).toArray, .slice A 0 c] w fun e w' => e = .returned (.tuple #[.agg (cells8 leaf).toArray, .int .i64 0]) ∧ Below w.heap.size w w' := by
  have hb2 : Hid (Below w.heap.size w ((w.alloc (.cells (cells8 leaf).toArray 23)).alloc (.cells Z32 23))) := (Below.heap_below w _).alloc (by simp) _
  have hz2 : Hid (((w.alloc (.cells (cells8 leaf).toArray 23)).alloc (.cells Z32 23)).heap.size = w.heap.size + 2) := by show _ = _; simp
  have hB2 : Hid (Blk ((w.alloc (.cells (cells8 leaf).toArray 23)).alloc (.cells Z32 23)) (w.heap.size + 1) 23 Z32) := by
    have := Blk.new (w.alloc (.cells (cells8 leaf).toArray 23)) 23 Z32
    rwa [show (w.alloc (.cells (cells8 leaf).toArray 23)).heap.size = w.heap.size + 1 by simp] at this
  have hL2 : Hid (Blk ((w.alloc (.cells (cells8 leaf).toArray 23)).alloc (.cells Z32 23)) w.heap.size 23 (cells8 leaf).toArray) := (Blk.new w 23 (cells8 leaf).toArray).alloc _
  have hin : Hid (insideB 1 0 = true) := rfl
  have hW : Hid (Calls Tryd.prog 85 #[.int .i64 1, .int .i64 0] ((w.alloc (.cells (cells8 leaf).toArray 23)).alloc (.cells Z32 23)) fun e w' => ∃ (v : Value) (ps : List (Nat × Nat)), e = .returned v ∧ ps.map (sd 0) = sides 1 0 ∧ w'.ownsRow (w.heap.size + 2) 159 2 v ps.length (flatP ps) ∧ Below (w.heap.size + 2) ((w.alloc (.cells (cells8 leaf).toArray 23)).alloc (.cells Z32 23)) w') := by
    have := way_loop 1 0 (by omega) (by omega) ((w.alloc (.cells (cells8 leaf).toArray 23)).alloc (.cells Z32 23))
    rwa [hz2.out] at this
  have Fl := Lib.hid (fit (x := leaf) hl)
  clear hl
  go_enter Tryd.func63, Tryd.ntmps63
  go_wp2_with fail
  refine (inside_any 1 0 _).mono ?_
  rw [hin.out]
  rintro e w2 ⟨rfl, rfl⟩
  go_wp2_with fail
  refine hW.out.mono ?_
  rintro e w3 ⟨v, ps, rfl, hps, ho, hb3⟩
  have hpl : ps.length = 0 := by
    have := congrArg List.length hps
    rw [List.length_map] at this
    exact this
  rw [hpl] at ho
  obtain ⟨Ap, cp, rfl, -⟩ := Go.Proofs.YtpgenpogjhpeoaaDoor.Append.Own.reads ho
  have hB3 : Hid (Blk w3 (w.heap.size + 1) 23 Z32) := (hb3.block _ (by have := hz2.out; omega)).trans hB2.out
  have hL3 : Hid (Blk w3 w.heap.size 23 (cells8 leaf).toArray) := (hb3.block _ (by have := hz2.out; omega)).trans hL2.out
  have hb3' : Hid (Below w.heap.size w w3) := hb2.out.trans (hb3.mono (by omega))
  clear hps ho hb3 hpl hB2 hL2 hb2
  go_wp2_with fail
  refine wp_loop_rounds 1 ?_
  rw [rounds_succ]
  go_wp2_with (first
    | ((with_reducible change wpList _ _ _ ({ dst := some 55, op := _, type := _, pos := _, after := _, guard := _ } :: _) _ _); refine wpList_load_row (o := ⟨some 55, _, _, _, _, _⟩) rfl 23 (.tmp 8) rfl (w.heap.size) rfl 23 ((cells8 leaf).toArray) (0, 0) _ hL3.out Tryd.underlying23 rfl Fl.out.size ?_)
    | ((with_reducible change wpList _ _ _ ({ dst := none, op := Op.store 23 (.tmp 10) _, type := _, pos := _, after := _, guard := _ } :: _) _ _); refine wpList_store_whole (o := ⟨none, _, _, _, _, _⟩) rfl 23 (.tmp 10) (.tmp 55) rfl (w.heap.size + 1) ((cells8 leaf).toArray) rfl rfl 23 (Z32) hB3.out Fl.out.size Fl.out.zero Fl.out.one ?_; intro w4 hB4 kq; have hb4 : Hid (Below w.heap.size w w4) := hb3'.out.trans (Kept.below_of kq (by omega) hb3'.out.size); replace hB4 := Lib.hid hB4; clear kq))
  refine bodyPost_ret (results_cell_row2 rfl _ _ (w.heap.size + 1) 23 (cells8 leaf).toArray (0, 0) _ rfl hB4.out Tryd.underlying23 rfl Fl.out.size) rfl ?_
  exact ⟨rfl, hb4.out⟩

set_option maxRecDepth 100000 in
set_option maxHeartbeats 1000000 in
theorem climb_zero (s : Int) (leaf : Text) (hl : leaf.length = 32) (A : Option Addr) (c : Nat) (w : World) :
    Calls Tryd.prog 22 #[.int .i64 s, .int .i64 1, .int .i64 0, .agg (cells8 leaf).toArray, .slice A 0 c] w fun e w' => e = .returned (.tuple #[.slice none 0 0, .int .i64 0]) ∧ Below w.heap.size w w' := by
  have hb3 : Hid (Below w.heap.size w ((w.alloc (.cells (cells8 leaf).toArray 23)).alloc (.cells #[.int .i64 s, .slice none 0 0] 109))) := (Below.heap_below w _).alloc (by simp) _
  have hz3 : Hid (((w.alloc (.cells (cells8 leaf).toArray 23)).alloc (.cells #[.int .i64 s, .slice none 0 0] 109)).heap.size = w.heap.size + 2) := by show _ = _; simp
  have hL3 : Hid (Blk ((w.alloc (.cells (cells8 leaf).toArray 23)).alloc (.cells #[.int .i64 s, .slice none 0 0] 109)) w.heap.size 23 (cells8 leaf).toArray) := (Blk.new w 23 (cells8 leaf).toArray).alloc _
  have hC3 : Hid (Blk ((w.alloc (.cells (cells8 leaf).toArray 23)).alloc (.cells #[.int .i64 s, .slice none 0 0] 109)) (w.heap.size + 1) 109 #[.int .i64 s, .slice none 0 0]) := by
    have := Blk.new (w.alloc (.cells (cells8 leaf).toArray 23)) 109 #[.int .i64 s, .slice none 0 0]
    rwa [show (w.alloc (.cells (cells8 leaf).toArray 23)).heap.size = w.heap.size + 1 by simp] at this
  have hT := Lib.hid (incl_zero (w.heap.size + 1) leaf hl A c ((w.alloc (.cells (cells8 leaf).toArray 23)).alloc (.cells #[.int .i64 s, .slice none 0 0] 109)))
  have Fl := Lib.hid (fit (x := leaf) hl)
  clear hl
  go_enter Tryd.func22, Tryd.ntmps22
  go_wp2_with ((with_reducible change wpList _ _ _ ({ dst := some 22, op := _, type := _, pos := _, after := _, guard := _ } :: _) _ _); refine wpList_load_row (o := ⟨some 22, _, _, _, _, _⟩) rfl 23 (.tmp 8) rfl (w.heap.size) rfl 23 ((cells8 leaf).toArray) (0, 0) _ hL3.out Tryd.underlying23 rfl Fl.out.size ?_)
  refine hT.out.mono ?_
  rintro e w4 ⟨rfl, hk⟩
  have hb4 : Hid (Below w.heap.size w w4) := hb3.out.trans (hk.mono hb3.out.size)
  have hC4 : Hid (Blk w4 (w.heap.size + 1) 109 #[.int .i64 s, .slice none 0 0]) := (hk.block _ (Blk.lt hC3.out)).trans hC3.out
  clear hT hk
  go_wp2_with ((with_reducible change wpList _ _ _ ({ dst := none, op := Op.store 23 (.tmp 13) _, type := _, pos := _, after := _, guard := _ } :: _) _ _); refine wpList_store_whole (o := ⟨none, _, _, _, _, _⟩) rfl 23 (.tmp 13) (.tmp 25) rfl (w4.heap.size) ((cells8 leaf).toArray) rfl rfl 23 (Z32) (Blk.new w4 _ _) Fl.out.size Fl.out.zero Fl.out.one ?_; intro w5 hB5 hk5; have hb45 : Below w4.heap.size w4 w5 := (Below.heap_below w4 _).trans (Kept.below_of hk5 (Nat.le_refl _) (by simp)); have hC5 : Blk w5 (w.heap.size + 1) 109 #[.int .i64 s, .slice none 0 0] := (hb45.block _ (Blk.lt hC4.out)).trans hC4.out; have e1 : w5.cell? ⟨w.heap.size + 1, 1, none⟩ = some (.slice none 0 0) := hC5.cell 1; have hb5 := Lib.hid (hb4.out.trans (hb45.mono hb4.out.size)); clear hk5 hB5 hb45 hC5)
  go_ret2
  exact ⟨rfl, hb5.out⟩
end Go.Proofs.YtpgenpogjhpeoaaDoor.Climb0
