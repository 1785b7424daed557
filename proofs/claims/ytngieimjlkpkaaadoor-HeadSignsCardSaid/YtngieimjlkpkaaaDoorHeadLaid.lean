/-
  laid and EncodeHead, walked.
-/
import Derived.Test.YtngieimjlkpkaaaDoorHeadMem
namespace Go.Proofs.YtngieimjlkpkaaaDoor.HeadEnc
open Go Go.RowKit Go.Proofs.YtngieimjlkpkaaaDoor Go.Proofs.YtngieimjlkpkaaaDoor.Mem Go.Proofs.YtngieimjlkpkaaaDoor.Sha Go.Proofs.YtngieimjlkpkaaaDoor.Bytes Go.Proofs.YtngieimjlkpkaaaDoor.Append Go.Proofs.YtngieimjlkpkaaaDoor.Octet Go.Proofs.YtngieimjlkpkaaaDoor.Octet2 Go.Proofs.YtngieimjlkpkaaaDoor.HeadMem

set_option maxRecDepth 100000 in
set_option maxHeartbeats 1000000 in
theorem laid_any (h : HeadD) (ok : h.Ok) (hr : rightB h = true) (w : World) :
    Calls Tryd.prog 77 #[.agg (headCells h).toArray] w fun e w' => ∃ v, e = .returned v ∧ Below w.heap.size w w' ∧ w'.ownsRow w.heap.size 5 1 v 113 (cells8 (headBytes h)) := by
  have hb0 : Hid (Below w.heap.size w (w.alloc (.cells (headCells h).toArray 49))) := Below.heap_below w _
  have hN := Lib.hid (WrAt.new (w.alloc (.cells (headCells h).toArray 49)))
  have hB : Hid (Blk ((w.alloc (.cells (headCells h).toArray 49)).alloc (.cells #[.slice none 0 0] 125)) w.heap.size 49 (headCells h).toArray) := (Blk.new w _ _).alloc _
  have hsz : Hid ((Tryd.prog.info? 49).map (·.size) = some (headCells h).toArray.size) := by show _ = _; rw [List.size_toArray, headCells_len ok]; exact size98
  have hlen := Lib.hid (headBytes_len ok)
  have hz : Hid ((w.alloc (.cells (headCells h).toArray 49)).heap.size = w.heap.size + 1) := by show _ = _; simp
  rw [hz.out] at hN
  go_enter Tryd.func77, Tryd.ntmps77
  go_wp2_with (first
    | (go_at_call 87; refine (new_any _).mono ?_; rintro e w1 ⟨rfl, rfl⟩)
    | ((with_reducible change wpList _ _ _ ({ dst := some 6, op := _, type := _, pos := _, after := _, guard := _ } :: _) _ _); refine wpList_load_row (o := ⟨some 6, _, _, _, _, _⟩) rfl 49 (.tmp 1) rfl w.heap.size rfl 49 (headCells h).toArray (0, 0) _ hB.out Tryd.underlying49 rfl hsz.out ?_)
    | (go_at_call 88; refine (lay_any h ok hr (w.heap.size + 1) none [] _ (by simp) hN.out).mono ?_; rintro e w2 ⟨rfl, hW2⟩; have hb2 : Hid (Below w.heap.size w w2) := (hb0.out.alloc (by simp) _).trans (hW2.below (fun _ e => by cases e) (B := w.heap.size) (by omega) (by simp; omega)); obtain ⟨r2, hA2, -, -⟩ := hW2; replace hA2 := Lib.hid hA2)
    | (go_at_call 89; refine (all_any (w.heap.size + 1) r2 (headBytes h) w2 (by rw [hlen.out]; omega) hA2.out).mono ?_; rintro e w3 ⟨v, rfl, hb3, ho3⟩; rw [hlen.out] at ho3; obtain ⟨Av, cv, rfl, -⟩ := Own.reads ho3; have hb4 : Hid (Below w.heap.size w w3) := hb2.out.trans (hb3.mono hb2.out.size); replace ho3 := Lib.hid ho3; clear hb3))
  go_ret
  exact ⟨_, rfl, hb4.out, ownsRow_base ho3.out hb2.out.size⟩

end Go.Proofs.YtngieimjlkpkaaaDoor.HeadEnc
