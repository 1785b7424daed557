/-
  laid and EncodeHead, walked.
-/
import Derived.Test.YtngieimjlkpkaaaHeadMem
namespace Go.Proofs.Ytngieimjlkpkaaa.HeadEnc
open Go Go.RowKit Go.Proofs.Ytngieimjlkpkaaa Go.Proofs.Ytngieimjlkpkaaa.Mem Go.Proofs.Ytngieimjlkpkaaa.Sha Go.Proofs.Ytngieimjlkpkaaa.Bytes Go.Proofs.Ytngieimjlkpkaaa.Append Go.Proofs.Ytngieimjlkpkaaa.Octet Go.Proofs.Ytngieimjlkpkaaa.Octet2 Go.Proofs.Ytngieimjlkpkaaa.HeadMem

set_option maxRecDepth 100000 in
set_option maxHeartbeats 1000000 in
theorem laid_any (h : HeadD) (ok : h.Ok) (hr : rightB h = true) (w : World) :
    Calls Try.prog 21 #[.agg (headCells h).toArray] w fun e w' => ∃ v, e = .returned v ∧ Below w.heap.size w w' ∧ w'.ownsRow w.heap.size 5 1 v 113 (cells8 (headBytes h)) := by
  have hb0 : Hid (Below w.heap.size w (w.alloc (.cells (headCells h).toArray 30))) := Below.heap_below w _
  have hN := Lib.hid (WrAt.new (w.alloc (.cells (headCells h).toArray 30)))
  have hB : Hid (Blk ((w.alloc (.cells (headCells h).toArray 30)).alloc (.cells #[.slice none 0 0] 83)) w.heap.size 30 (headCells h).toArray) := (Blk.new w _ _).alloc _
  have hsz : Hid ((Try.prog.info? 30).map (·.size) = some (headCells h).toArray.size) := by show _ = _; rw [List.size_toArray, headCells_len ok]; exact size98
  have hlen := Lib.hid (headBytes_len ok)
  have hz : Hid ((w.alloc (.cells (headCells h).toArray 30)).heap.size = w.heap.size + 1) := by show _ = _; simp
  rw [hz.out] at hN
  go_enter Try.func21, Try.ntmps21
  go_wp2_with (first
    | (go_at_call 23; refine (new_any _).mono ?_; rintro e w1 ⟨rfl, rfl⟩)
    | ((with_reducible change wpList _ _ _ ({ dst := some 6, op := _, type := _, pos := _, after := _, guard := _ } :: _) _ _); refine wpList_load_row (o := ⟨some 6, _, _, _, _, _⟩) rfl 30 (.tmp 1) rfl w.heap.size rfl 30 (headCells h).toArray (0, 0) _ hB.out Try.underlying30 rfl hsz.out ?_)
    | (go_at_call 47; refine (lay_any h ok hr (w.heap.size + 1) none [] _ (by simp) hN.out).mono ?_; rintro e w2 ⟨rfl, hW2⟩; have hb2 : Hid (Below w.heap.size w w2) := (hb0.out.alloc (by simp) _).trans (hW2.below (fun _ e => by cases e) (B := w.heap.size) (by omega) (by simp; omega)); obtain ⟨r2, hA2, -, -⟩ := hW2; replace hA2 := Lib.hid hA2)
    | (go_at_call 26; refine (all_any (w.heap.size + 1) r2 (headBytes h) w2 (by rw [hlen.out]; omega) hA2.out).mono ?_; rintro e w3 ⟨v, rfl, hb3, ho3⟩; rw [hlen.out] at ho3; obtain ⟨Av, cv, rfl, -⟩ := Own.reads ho3; have hb4 : Hid (Below w.heap.size w w3) := hb2.out.trans (hb3.mono hb2.out.size); replace ho3 := Lib.hid ho3; clear hb3))
  go_ret
  exact ⟨_, rfl, hb4.out, ownsRow_base ho3.out hb2.out.size⟩

set_option maxRecDepth 100000 in
set_option maxHeartbeats 1000000 in
theorem encodeHead_yes (h : HeadD) (ok : h.Ok) (hr : rightB h = true) (w : World) :
    Calls Try.prog 8 #[.agg (headCells h).toArray] w fun e w' => ∃ v, e = .returned (.tuple #[v, .int .i64 0]) ∧ Below w.heap.size w w' ∧ w'.ownsRow w.heap.size 5 1 v 113 (cells8 (headBytes h)) := by
  have hb0 : Hid (Below w.heap.size w (w.alloc (.cells (headCells h).toArray 30))) := Below.heap_below w _
  have hB : Hid (Blk (w.alloc (.cells (headCells h).toArray 30)) w.heap.size 30 (headCells h).toArray) := Blk.new w _ _
  have hsz : Hid ((Try.prog.info? 30).map (·.size) = some (headCells h).toArray.size) := by show _ = _; rw [List.size_toArray, headCells_len ok]; exact size98
  have hz : Hid ((w.alloc (.cells (headCells h).toArray 30)).heap.size = w.heap.size + 1) := by show _ = _; simp
  go_enter Try.func8, Try.ntmps8
  go_wp2_with (first
    | ((with_reducible change wpList _ _ _ ({ dst := some 4, op := _, type := _, pos := _, after := _, guard := _ } :: _) _ _); refine wpList_load_row (o := ⟨some 4, _, _, _, _, _⟩) rfl 30 (.tmp 1) rfl w.heap.size rfl 30 (headCells h).toArray (0, 0) _ hB.out Try.underlying30 rfl hsz.out ?_)
    | (go_at_call 20; refine (right_any h ok _).mono ?_; rw [hr]; rintro e w2 ⟨rfl, hb2⟩; rw [hz.out] at hb2; have hB2 := Lib.hid ((hb2.block w.heap.size (by omega)).trans hB.out); have hbb : Hid (Below w.heap.size w w2) := hb0.out.trans (hb2.mono (by omega)); clear hb2)
    | ((with_reducible change wpList _ _ _ ({ dst := some 7, op := _, type := _, pos := _, after := _, guard := _ } :: _) _ _); refine wpList_load_row (o := ⟨some 7, _, _, _, _, _⟩) rfl 30 (.tmp 1) rfl w.heap.size rfl 30 (headCells h).toArray (0, 0) _ hB2.out Try.underlying30 rfl hsz.out ?_)
    | (go_at_call 21; refine (laid_any h ok hr _).mono ?_; rintro e w3 ⟨v, rfl, hb3, ho3⟩; obtain ⟨Av, cv, rfl, -⟩ := Own.reads ho3; have hb4 : Hid (Below w.heap.size w w3) := hbb.out.trans (hb3.mono hbb.out.size); replace ho3 := Lib.hid ho3; clear hb3))
  go_ret2
  exact ⟨_, rfl, hb4.out, ownsRow_base ho3.out hbb.out.size⟩

set_option maxRecDepth 100000 in
set_option maxHeartbeats 1000000 in
theorem encodeHead_no (h : HeadD) (ok : h.Ok) (hr : rightB h = false) (w : World) :
    Calls Try.prog 8 #[.agg (headCells h).toArray] w fun e w' => e = .returned (.tuple #[.slice none 0 0, .int .i64 1]) ∧ Below w.heap.size w w' := by
  have hb0 : Hid (Below w.heap.size w (w.alloc (.cells (headCells h).toArray 30))) := Below.heap_below w _
  have hB : Hid (Blk (w.alloc (.cells (headCells h).toArray 30)) w.heap.size 30 (headCells h).toArray) := Blk.new w _ _
  have hsz : Hid ((Try.prog.info? 30).map (·.size) = some (headCells h).toArray.size) := by show _ = _; rw [List.size_toArray, headCells_len ok]; exact size98
  have hz : Hid ((w.alloc (.cells (headCells h).toArray 30)).heap.size = w.heap.size + 1) := by show _ = _; simp
  go_enter Try.func8, Try.ntmps8
  go_wp2_with (first
    | ((with_reducible change wpList _ _ _ ({ dst := some 4, op := _, type := _, pos := _, after := _, guard := _ } :: _) _ _); refine wpList_load_row (o := ⟨some 4, _, _, _, _, _⟩) rfl 30 (.tmp 1) rfl w.heap.size rfl 30 (headCells h).toArray (0, 0) _ hB.out Try.underlying30 rfl hsz.out ?_)
    | (go_at_call 20; refine (right_any h ok _).mono ?_; rw [hr]; rintro e w2 ⟨rfl, hb2⟩; rw [hz.out] at hb2; have hbb : Hid (Below w.heap.size w w2) := hb0.out.trans (hb2.mono (by omega)); clear hb2))
  go_ret2
  exact ⟨rfl, hbb.out⟩
end Go.Proofs.Ytngieimjlkpkaaa.HeadEnc
