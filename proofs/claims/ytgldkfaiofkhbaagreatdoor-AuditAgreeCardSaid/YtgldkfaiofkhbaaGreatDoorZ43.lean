/-
  Texts of the claim, put into one file: AudJoins.
-/
import Derived.Test.YtgldkfaiofkhbaaGreatDoorZ32
import Derived.Test.YtgldkfaiofkhbaaGreatDoorZ41
import Derived.Test.YtgldkfaiofkhbaaGreatDoorZ17
import Derived.Test.YtgldkfaiofkhbaaGreatDoorZ4

namespace Go.Proofs.YtgldkfaiofkhbaaGreatDoor.AudJoins
open Go Go.RowKit Go.Proofs.YtgldkfaiofkhbaaGreatDoor Mem Sha Bytes HashMem DigestMem Digest QuietTail Grown TreeMem TreeRoot Held Guard Subs Agree RefAgree Ref17 EncConsAny Mem Sha Bytes TreeMath Sides TreeMem TreeRoot Held Own ProofEnc Ref17 Ref17b Subs Betw BetwRef EncCons RefCons Book Book2 Within

theorem sizeK : (Tryz.prog.info? 46).map (·.size) = some 3 := by kernel_rfl
theorem alloc3_a (w : World) (a b c : Array Value) (t u v : TypeId) : Blk (((w.alloc (.cells a t)).alloc (.cells b u)).alloc (.cells c v)) w.heap.size t a := ((Blk.new w _ _).alloc _).alloc _
theorem alloc3_b (w : World) (a b c : Array Value) (t u v : TypeId) : Blk (((w.alloc (.cells a t)).alloc (.cells b u)).alloc (.cells c v)) (w.heap.size + 1) u b := by
 have := (Blk.new (w.alloc (.cells a t)) u b).alloc (.cells c v)
 rwa [show (w.alloc (.cells a t)).heap.size = w.heap.size + 1 by simp] at this
theorem alloc3_c (w : World) (a b c : Array Value) (t u v : TypeId) : Blk (((w.alloc (.cells a t)).alloc (.cells b u)).alloc (.cells c v)) (w.heap.size + 1 + 1) v c := by
 have := Blk.new ((w.alloc (.cells a t)).alloc (.cells b u)) v c
 rwa [show ((w.alloc (.cells a t)).alloc (.cells b u)).heap.size = w.heap.size + 1 + 1 by simp] at this
theorem alloc3_below (w : World) (a b c : Obj) : Below w.heap.size w (((w.alloc a).alloc b).alloc c) := ((Below.heap_below w _).alloc (by simp) _).alloc (by simp; omega) _
def audJoins (s : Int) (r0 r1 : Text) (x1 x2 : Int) (ds : List Text) : Int :=
 if consWant x1 x2 ds = none ∨ withinB s ds = false then 170 else agreeOf s x1 x2 r0 r1 ds
theorem audJoins_none {s : Int} {r0 r1 : Text} {x1 x2 : Int} {ds : List Text} (h : consWant x1 x2 ds = none) : audJoins s r0 r1 x1 x2 ds = 170 := if_pos (.inl h)
theorem audJoins_wide {s : Int} {r0 r1 : Text} {x1 x2 : Int} {ds : List Text} (h : withinB s ds = false) : audJoins s r0 r1 x1 x2 ds = 170 := if_pos (.inr h)
theorem audJoins_in {s : Int} {r0 r1 : Text} {x1 x2 : Int} {ds : List Text} {b : Text} (h : consWant x1 x2 ds = some b) (h3 : withinB s ds = true) : audJoins s r0 r1 x1 x2 ds = agreeOf s x1 x2 r0 r1 ds := by
 unfold audJoins
 rw [if_neg]
 rintro (h' | h')
 ·rw [h] at h'; cases h'
 ·rw [h3] at h'; cases h'
set_option maxRecDepth 100000 in
set_option maxHeartbeats 2000000 in
theorem audJoins_any (s : Int) (r0 r1 : Text) (h0 : r0.length = 32) (h1 : r1.length = 32) (x1 x2 : Int) (ds : List Text) (A2 : Option Addr) (n c2 : Nat) (hn47 : n < 140737488355328) (w : World) (hB : Base w) (hrd : RdD w A2 n ds) :
  Calls Tryz.prog 67 #[.int .i64 s, .agg (cells8 r0).toArray, .agg (cells8 r1).toArray, .agg (inclCells x1 x2 A2 n c2)] w fun e w' => e = .returned (.int .i64 (audJoins s r0 r1 x1 x2 ds)) ∧ Below w.heap.size w w' := by
 unfold inclCells
 obtain ⟨W, hW⟩ : ∃ W, Hid (W = ((w.alloc (.cells (cells8 r0).toArray 23)).alloc (.cells (cells8 r1).toArray 23)).alloc (.cells #[Value.int .i64 x1, Value.int .i64 x2, Value.slice A2 n c2] 46)) := ⟨_, rfl⟩
 have hb1 : Hid (Below w.heap.size w W) := by show Below _ _ _; rw [hW.out]; exact alloc3_below w _ _ _
 have hX1 : Hid (Blk W w.heap.size 23 (cells8 r0).toArray) := by show Blk _ _ _ _; rw [hW.out]; exact alloc3_a w _ _ _ _ _ _
 have hY1 : Hid (Blk W (w.heap.size + 1) 23 (cells8 r1).toArray) := by show Blk _ _ _ _; rw [hW.out]; exact alloc3_b w _ _ _ _ _ _
 have hP1 : Hid (Blk W (w.heap.size + 1 + 1) 46 #[Value.int .i64 x1, Value.int .i64 x2, Value.slice A2 n c2]) := by show Blk _ _ _ _; rw [hW.out]; exact alloc3_c w _ _ _ _ _ _
 have F0 := Lib.hid (fit (x := r0) h0)
 have F1 := Lib.hid (fit (x := r1) h1)
 have hWi : Hid (∀ w', Below w.heap.size w w' → Calls Tryz.prog 134 #[.int .i64 s, .slice A2 n c2] w' fun e w'' => e = .returned (.bool (withinB s ds)) ∧ Below w'.heap.size w' w'') := fun w' hb => within_any s ds n hn47 A2 c2 w' (hrd.below hb)
 obtain ⟨ag, hag⟩ : ∃ ag, Hid (agreeOf s x1 x2 r0 r1 ds = ag) := ⟨_, Lib.hid rfl⟩
 have hAg : Hid (∀ w', Below w.heap.size w w' → Calls Tryz.prog 135 #[.int .i64 s, .int .i64 x1, .int .i64 x2, .agg (cells8 r0).toArray, .agg (cells8 r1).toArray, .slice A2 n c2] w' fun e w'' => e = .returned (.int .i64 ag) ∧ Below w'.heap.size w' w'') := fun w' hb => by
  have := agree_any s x1 x2 r0 r1 h0 h1 ds A2 n c2 w' (hB.below hb hB.1) (hrd.below hb)
  rw [hag.out] at this
  exact this
 have hsome := Lib.hid (fun b (h : consWant x1 x2 ds = some b) h3 => audJoins_in (s := s) (r0 := r0) (r1 := r1) h h3)
 rw [hag.out] at hsome
 have hnoneA := Lib.hid (fun h => audJoins_none (s := s) (r0 := r0) (r1 := r1) (x1 := x1) (x2 := x2) (ds := ds) h)
 have hwideA := Lib.hid (fun h => audJoins_wide (s := s) (r0 := r0) (r1 := r1) (x1 := x1) (x2 := x2) (ds := ds) h)
 obtain ⟨ans, hans⟩ : ∃ a, Hid (audJoins s r0 r1 x1 x2 ds = a) := ⟨_, Lib.hid rfl⟩
 rw [hans.out] at hsome hnoneA hwideA ⊢
 have hEn : Hid (∀ w', Below w.heap.size w w' → Calls Tryz.prog 66 #[.agg #[Value.int .i64 x1, Value.int .i64 x2, Value.slice A2 n c2]] w' fun e w'' => ∃ A4 c4 b err, e = .returned (.tuple #[.slice A4 b.length c4, .int .i64 err]) ∧ Reads w'' 1 A4 b.length (cells8 b) ∧ ((consWant x1 x2 ds = some b ∧ err = 0) ∨ (consWant x1 x2 ds = none ∧ b = [] ∧ err = 170)) ∧ Below w'.heap.size w' w'') := fun w' hb => encCons_any x1 x2 ds A2 n c2 w' (hrd.below hb)
 have hdg := Lib.hid hrd.2.1
 clear h0 h1 hn47 hrd hB hans
 go_enter Tryz.func67, Tryz.ntmps67
 go_wp2_with fail
 change Calls _ _ _ (((w.alloc (.cells (cells8 r0).toArray 23)).alloc (.cells (cells8 r1).toArray 23)).alloc (.cells #[Value.int .i64 x1, Value.int .i64 x2, Value.slice A2 n c2] 46)) _
 rw [← hW.out]
 clear hW
 refine (hEn.out W hb1.out).mono ?_
 rintro e w2 ⟨A4, c4, b, err, rfl, -, hbe, hk1⟩
 have hb2 : Hid (Below w.heap.size w w2) := hb1.out.trans (hk1.mono hb1.out.size)
 have hX2 : Hid (Blk w2 w.heap.size 23 (cells8 r0).toArray) := Blk.onA hX1.out hk1
 have hY2 : Hid (Blk w2 (w.heap.size + 1) 23 (cells8 r1).toArray) := Blk.onA hY1.out hk1
 have hP2 : Hid (Blk w2 (w.heap.size + 1 + 1) 46 #[Value.int .i64 x1, Value.int .i64 x2, Value.slice A2 n c2]) := Blk.onA hP1.out hk1
 clear hk1 hEn
 rcases hbe with ⟨hwt, rfl⟩ | ⟨hwt, rfl, rfl⟩
 ·have hWd := Lib.hid (hWi.out w2 hb2.out)
  have hsm := Lib.hid (hsome.out b hwt)
  clear hnoneA hwt hsome
  have c2' : w2.cell? ⟨w.heap.size + 1 + 1, 2, none⟩ = some (.slice A2 n c2) := hP2.out.cell 2
  cases hwi : withinB s ds with
  | false =>
   obtain rfl := hwideA.out hwi
   rw [hwi] at hWd
   clear hwi hsm
   go_wp2_with (go_at_call 134; refine hWd.out.mono ?_; rintro e w3 ⟨rfl, hk1⟩; have hb3 : Hid (Below w.heap.size w w3) := hb2.out.trans (hk1.mono hb2.out.size); have hX3 : Hid (Blk w3 w.heap.size 23 (cells8 r0).toArray) := Blk.onA hX2.out hk1; have hY3 : Hid (Blk w3 (w.heap.size + 1) 23 (cells8 r1).toArray) := Blk.onA hY2.out hk1; have hP3 : Hid (Blk w3 (w.heap.size + 1 + 1) 46 #[Value.int .i64 x1, Value.int .i64 x2, Value.slice A2 n c2]) := Blk.onA hP2.out hk1; have d0 : w3.cell? ⟨w.heap.size + 1 + 1, 0, none⟩ = some (.int .i64 x1) := hP3.out.cell 0; have d1 : w3.cell? ⟨w.heap.size + 1 + 1, 1, none⟩ = some (.int .i64 x2) := hP3.out.cell 1; have d2 : w3.cell? ⟨w.heap.size + 1 + 1, 2, none⟩ = some (.slice A2 n c2) := hP3.out.cell 2; clear hk1)
   go_ret
   exact ⟨rfl, hb3.out⟩
  | true =>
   obtain rfl := hsm.out hwi
   rw [hwi] at hWd
   clear hwi hwideA hsm
   go_wp2_with (first
    | (go_at_call 134; refine hWd.out.mono ?_; rintro e w3 ⟨rfl, hk1⟩; have hb3 : Hid (Below w.heap.size w w3) := hb2.out.trans (hk1.mono hb2.out.size); have hX3 : Hid (Blk w3 w.heap.size 23 (cells8 r0).toArray) := Blk.onA hX2.out hk1; have hY3 : Hid (Blk w3 (w.heap.size + 1) 23 (cells8 r1).toArray) := Blk.onA hY2.out hk1; have hP3 : Hid (Blk w3 (w.heap.size + 1 + 1) 46 #[Value.int .i64 x1, Value.int .i64 x2, Value.slice A2 n c2]) := Blk.onA hP2.out hk1; have d0 : w3.cell? ⟨w.heap.size + 1 + 1, 0, none⟩ = some (.int .i64 x1) := hP3.out.cell 0; have d1 : w3.cell? ⟨w.heap.size + 1 + 1, 1, none⟩ = some (.int .i64 x2) := hP3.out.cell 1; have d2 : w3.cell? ⟨w.heap.size + 1 + 1, 2, none⟩ = some (.slice A2 n c2) := hP3.out.cell 2; clear hk1)
    | ((with_reducible change wpList _ _ _ (⟨some 30, _, _, _, _, _⟩ :: _) _ _); refine wpList_load_row (o := ⟨some 30, _, _, _, _, _⟩) rfl 23 (.tmp 5) rfl (w.heap.size) rfl 23 ((cells8 r0).toArray) (0, 0) _ hX3.out Tryz.underlying23 rfl F0.out.size ?_)
    | ((with_reducible change wpList _ _ _ (⟨some 31, _, _, _, _, _⟩ :: _) _ _); refine wpList_load_row (o := ⟨some 31, _, _, _, _, _⟩) rfl 23 (.tmp 6) rfl (w.heap.size + 1) rfl 23 ((cells8 r1).toArray) (0, 0) _ hY3.out Tryz.underlying23 rfl F1.out.size ?_)
    | (go_at_call 135; refine (hAg.out _ hb3.out).mono ?_; rintro e w4 ⟨rfl, hk1⟩; have hb4 : Hid (Below w.heap.size w w4) := hb3.out.trans (hk1.mono hb3.out.size); clear hk1))
   go_ret
   exact ⟨rfl, hb4.out⟩
 ·obtain rfl := hnoneA.out hwt
  clear hwt
  go_wp2_with fail
  go_ret
  exact ⟨rfl, hb2.out⟩

end Go.Proofs.YtgldkfaiofkhbaaGreatDoor.AudJoins
