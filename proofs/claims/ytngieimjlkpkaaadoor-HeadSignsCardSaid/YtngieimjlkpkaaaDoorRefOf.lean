/-
  The reference's Of, walked.
-/
import Derived.Test.YtngieimjlkpkaaaDoorRefSum
import Derived.Test.YtngieimjlkpkaaaDoorRefCut
namespace Go.Proofs.YtngieimjlkpkaaaDoor.RefOf
open Go Go.RowKit Go.Proofs.YtngieimjlkpkaaaDoor Go.Proofs.YtngieimjlkpkaaaDoor.Mem Go.Proofs.YtngieimjlkpkaaaDoor.Sha Go.Proofs.YtngieimjlkpkaaaDoor.ShaWalk Go.Proofs.YtngieimjlkpkaaaDoor.Bytes Go.Proofs.YtngieimjlkpkaaaDoor.HashMem Go.Proofs.YtngieimjlkpkaaaDoor.Hash Go.Proofs.YtngieimjlkpkaaaDoor.HashSum Go.Proofs.YtngieimjlkpkaaaDoor.DigestMem Go.Proofs.YtngieimjlkpkaaaDoor.Digest Go.Proofs.YtngieimjlkpkaaaDoor.DigestOf Go.Proofs.YtngieimjlkpkaaaDoor.RefSum Go.Proofs.YtngieimjlkpkaaaDoor.RefCut

set_option maxRecDepth 100000 in
set_option maxHeartbeats 600000 in
theorem refOf_any (ps : List Text) (n : Nat) (hn : ps.length = n) (A : Option Addr) (c : Nat) (size kind : Int) (hs63 : size < 9223372036854775808) (w : World) (hlen : ps.flatten.length < 140737488355328) (hn2 : n < 72057594037927936) (hp : Pieces w A ps) :
    Calls Tryd.prog 46 #[.int .i64 size, .int .i64 kind, .slice A n c] w fun e w' =>
      e = .returned (.agg (cells8 (cutTo (sum (kb kind :: ps.flatten)) (clampN size))).toArray) ∧ Below w.heap.size w w' := by
  obtain ⟨x, hx⟩ : ∃ x, Hid (x = cutTo (sum (kb kind :: ps.flatten)) (clampN size)) := ⟨_, rfl⟩
  have hxl : x.length = 32 := by rw [hx.out]; exact cutTo_len _ _ (sum_len _) (clampN_ok size).2
  rw [← hx.out]
  have hz := Lib.hid (dig_size x hxl)
  have hz32 : Hid ((Z32 : Array Value).size = (cells8 x).toArray.size) := by show _ = _; simp [cells8_len, hxl, Z32]
  have ho := Lib.hid (dig_one x)
  clear hxl
  obtain ⟨txt, htx⟩ : ∃ txt, Hid (txt = kb kind :: ps.flatten) := ⟨_, rfl⟩
  obtain ⟨tl, htl⟩ : ∃ tl, Hid (tl = 1 + ps.flatten.length) := ⟨_, rfl⟩
  have htt : Hid (txt.length = tl ∧ tl < 144115188075855872) := by show _ ∧ _; rw [htx.out, htl.out, List.length_cons]; omega
  rw [← htx.out] at hx
  replace hn := Lib.hid hn
  replace hp := Lib.hid hp
  replace hlen := Lib.hid hlen
  replace hn2 := Lib.hid hn2
  replace hs63 := Lib.hid hs63
  go_enter Tryd.func46, Tryd.ntmps46
  go_wp2_with (first
    | (go_at_call 65; refine (refText_any ps n hn.out A c kind (w.alloc (.cells Z32 31)) hlen.out hn2.out (hp.out.below (Below.heap_below w _))).mono ?_; rintro e w1 ⟨v, rfl, hown, hb1⟩; rw [← htx.out, ← htl.out] at hown; obtain ⟨A1, c1, rfl, hnc, hcm, hr, hbase⟩ := Reads.of_own hown; replace hr := Lib.hid hr; replace hnc := Lib.hid hnc; replace hb1 : Hid (Below (w.heap.size + 1) (w.alloc (.cells Z32 31)) w1) := (show Below (w.heap.size + 1) (w.alloc (.cells Z32 31)) w1 by simpa using hb1); clear hown hcm hbase)
    | (go_at_call 61; refine (refSum_any txt tl htt.out.1 A1 c1 w1 htt.out.2 hr.out).mono ?_; rintro e w2 ⟨rfl, hb2⟩; replace hb2 := Lib.hid hb2)
    | (go_at_call 60; refine (refCut_any (sum txt) (sum_len _) size hs63.out w2).mono ?_; rw [← hx.out]; rintro e w3 ⟨rfl, hb3⟩; replace hb3 := Lib.hid hb3; have hR3 : Hid (Blk w3 w.heap.size 31 Z32) := (hb3.out.block w.heap.size (by have := hb2.out.size; have := hb1.out.size; simp at this; omega)).trans ((hb2.out.block w.heap.size (by have := hb1.out.size; simp at this; omega)).trans ((hb1.out.block w.heap.size (by omega)).trans (heap_alloc_new w _))); have hbb : Hid (Below w.heap.size w w3) := (Below.heap_below w (.cells Z32 31)).trans ((hb1.out.mono (by omega)).trans ((hb2.out.mono (by have := hb1.out.size; simp at this; omega)).trans (hb3.out.mono (by have := hb2.out.size; have := hb1.out.size; simp at this; omega)))))
    | ((with_reducible change wpList _ _ _ ({ dst := none, op := Op.store 31 _ _, type := _, pos := _, after := _, guard := _ } :: _) _ _); refine wpList_store_row (o := ⟨none, _, _, _, _, _⟩) rfl 31 (.tmp 6) (.tmp 12) rfl w.heap.size (cells8 x).toArray rfl rfl 31 Z32 hR3.out hz.out hz32.out ho.out ?_))
  refine bodyPost_ret (results_cell_row rfl _ _ w.heap.size 31 (cells8 x).toArray (0, 0) _ rfl (setRow_heap _ _ _ _ _ _ hR3.out) Tryd.underlying31 rfl hz.out) rfl ?_
  exact ⟨rfl, below_setRow hbb.out (Nat.le_refl _) _⟩
end Go.Proofs.YtngieimjlkpkaaaDoor.RefOf
