/-
  docketlaw16.heads, walked (printed by wip/gen_heads.py).
-/
import Derived.Test.YtngieimjlkpkaaaHeadEq
import Derived.Test.YtngieimjlkpkaaaHeadEnc
import Derived.Test.YtngieimjlkpkaaaRefHead
import Derived.Test.YtngieimjlkpkaaaLaw16
import Derived.Test.YtngieimjlkpkaaaHeadsZ
namespace Go.Proofs.Ytngieimjlkpkaaa.Heads
open Go Go.RowKit Go.Proofs.Ytngieimjlkpkaaa Go.Proofs.Ytngieimjlkpkaaa.Mem Go.Proofs.Ytngieimjlkpkaaa.Sha Go.Proofs.Ytngieimjlkpkaaa.Bytes Go.Proofs.Ytngieimjlkpkaaa.Append Go.Proofs.Ytngieimjlkpkaaa.Octet Go.Proofs.Ytngieimjlkpkaaa.HeadMem Go.Proofs.Ytngieimjlkpkaaa.HeadTake Go.Proofs.Ytngieimjlkpkaaa.HeadTake2 Go.Proofs.Ytngieimjlkpkaaa.Decode Go.Proofs.Ytngieimjlkpkaaa.High Go.Proofs.Ytngieimjlkpkaaa.ReadHead Go.Proofs.Ytngieimjlkpkaaa.HeadEq Go.Proofs.Ytngieimjlkpkaaa.HeadEnc Go.Proofs.Ytngieimjlkpkaaa.RefHead Go.Proofs.Ytngieimjlkpkaaa.Law16

set_option maxRecDepth 100000 in
set_option maxHeartbeats 1000000 in
theorem heads_nn (h : HeadD) (ok : h.Ok) (hr : rightB h = false) (q : Text) (k : Nat) (hk : q.length = k) (hk47 : k < 140737488355328) (hd : decOk q = false) (A : Option Addr) (c : Nat) (hkc : k ≤ c) (w : World) (hq : Reads w 1 A k (cells8 q)) :
    Calls Try.prog 12 #[.agg (headCells h).toArray, .slice A k c] w fun e w' => e = .returned (.bool true) ∧ Below w.heap.size w w' := by
  obtain ⟨hz, ho, hs⟩ := head_sizes ok
  have hB0 : Hid (Blk (w.alloc (.cells (headCells h).toArray 30)) w.heap.size 30 (headCells h).toArray) := Blk.new w _ _
  have hb0 : Hid (Below w.heap.size w (w.alloc (.cells (headCells h).toArray 30))) := Below.heap_below w _
  have hz0 : Hid ((w.alloc (.cells (headCells h).toArray 30)).heap.size = w.heap.size + 1) := by show _ = _; simp
  have hQ : Hid (∀ w', Below w.heap.size w w' → Reads w' 1 A k (cells8 q)) := fun w' hb => hq.below hb
  have hq0 := Lib.hid hk
  have hk0 := Lib.hid hk47
  have hkc0 := Lib.hid hkc
  have hDo : Hid (decOut q = .tuple #[.agg Z98, .int .i64 8]) := decOut_no (by rw [hd]; decide)
  have hRo : Hid (readOut q = .tuple #[.agg Z98, .bool false]) := readOut_no (by rw [hd]; decide)
  have hE := eql_z98
  clear hd hq hk hk47 hkc
  go_enter Try.func12, Try.ntmps12
  go_wp2_with (first
    | ((with_reducible change wpList _ _ _ ({ dst := some 15, op := _, type := _, pos := _, after := _, guard := _ } :: _) _ _); refine wpList_load_row (o := ⟨some 15, _, _, _, _, _⟩) rfl 30 (.tmp 2) rfl w.heap.size rfl 30 (headCells h).toArray (0, 0) _ hB0.out Try.underlying30 rfl hz.out ?_)
    | (go_at_call 8; refine (encodeHead_no h ok hr _).mono ?_; rintro e w1 ⟨rfl, hb1⟩; rw [hz0.out] at hb1; have hB1 := Lib.hid ((hb1.block w.heap.size (by omega)).trans hB0.out); have bb1 : Hid (Below w.heap.size w w1) := hb0.out.trans (hb1.mono (by omega)); clear hb1 hB0 hb0)
    | ((with_reducible change wpList _ _ _ ({ dst := some 20, op := _, type := _, pos := _, after := _, guard := _ } :: _) _ _); refine wpList_load_row (o := ⟨some 20, _, _, _, _, _⟩) rfl 30 (.tmp 2) rfl w.heap.size rfl 30 (headCells h).toArray (0, 0) _ hB1.out Try.underlying30 rfl hz.out ?_)
    | (go_at_call 11; refine (refHead_no h ok hr _).mono ?_; rintro e w2 ⟨rfl, hb2⟩; have bb2 : Hid (Below w.heap.size w w2) := bb1.out.trans (hb2.mono bb1.out.size); clear hb2 hB1 bb1)
    | (go_at_call 32; refine (same_any [] 0 rfl (by omega) none none 0 0 _ (Reads.nil_ _ _ _) (Reads.nil_ _ _ _)).mono ?_; rintro e w3' ⟨rfl, n3, rfl⟩; have bb3 : Hid (Below w.heap.size w (w2.drewN n3)) := below_drawn bb2.out n3; clear bb2; generalize w2.drewN n3 = w3 at *)
    | (go_at_call 33; refine (roomy_any q k hq0.out hk0.out A c w3 (hQ.out w3 bb3.out)).mono ?_; rintro e w4 ⟨g, rfl, hg, hR4, hb4⟩; have bb4 : Hid (Below w.heap.size w w4) := bb3.out.trans (hb4.mono bb3.out.size); replace hR4 := Lib.hid hR4; clear hb4 bb3 hg)
    | (go_at_call 34; refine (decode_any q k hq0.out hk0.out (some ⟨g, 0, none⟩) (k + 100) w4 (by have := hR4.out.reads; rw [hq0.out] at this; exact this) (fun e => by cases e)).mono ?_; rw [hDo.out]; rintro e w5 ⟨rfl, hb5⟩; have hR5 := Lib.hid (hR4.out.below hb5 (Tab.lt hR4.out)); have bb5 : Hid (Below w.heap.size w w5) := bb4.out.trans (hb5.mono bb4.out.size); clear hb5 bb4 hR4)
    | ((with_reducible change wpList _ _ _ ({ dst := none, op := Op.store 30 (.tmp 10) (.tmp 47), type := _, pos := _, after := _, guard := _ } :: _) _ _); refine wpList_store_all (o := ⟨none, _, _, _, _, _⟩) rfl 30 (.tmp 10) (.tmp 47) rfl w5.heap.size Z98 rfl rfl 30 Z98 (Blk.new w5 _ _) size98' rfl one98 ?_; intro w6 hB6 hk6; have hb6 := below_new hk6; have hR6 := Lib.hid (hR5.out.below hb6 (Tab.lt hR5.out)); have bb6 : Hid (Below w.heap.size w w6) := bb5.out.trans (hb6.mono bb5.out.size); clear hk6 hb6 bb5 hR5; generalize w5.heap.size = m at *)
    | (go_at_call 35; refine (readHead_any q k hq0.out hk0.out A c hkc0.out w6 (hQ.out w6 bb6.out)).mono ?_; rw [hRo.out]; rintro e w7 ⟨rfl, hb7⟩; have hR7 := Lib.hid (hR6.out.below hb7 (Tab.lt hR6.out)); have hB7 : Hid (Blk w7 m 30 Z98) := (hb7.block m hB6.out.lt).trans hB6.out; have bb7 : Hid (Below w.heap.size w w7) := bb6.out.trans (hb7.mono bb6.out.size); clear hb7 bb6 hR6 hB6)
    | ((with_reducible change wpList _ _ _ ({ dst := none, op := Op.store 30 (.tmp 12) (.tmp 52), type := _, pos := _, after := _, guard := _ } :: _) _ _); refine wpList_store_all (o := ⟨none, _, _, _, _, _⟩) rfl 30 (.tmp 12) (.tmp 52) rfl w7.heap.size Z98 rfl rfl 30 Z98 (Blk.new w7 _ _) size98' rfl one98 ?_; intro w8 hB8 hk8; have hb8 := below_new hk8; have hR8 := Lib.hid (hR7.out.below hb8 (Tab.lt hR7.out)); have hB78 : Hid (Blk w8 m 30 Z98) := (hb8.block m hB7.out.lt).trans hB7.out; have bb8 : Hid (Below w.heap.size w w8) := bb7.out.trans (hb8.mono bb7.out.size); have hr8 := Lib.hid (hQ.out w8 bb8.out); clear hk8 hb8 bb7 hR7 hB7; generalize w7.heap.size = m2 at *))
  refine wp_load_row (o := ⟨some 66, _, _, _, _, _⟩) 30 (.tmp 10) rfl m rfl 30 Z98 (0, 0) _ hB78.out Try.underlying30 rfl size98' ?_
  go_simp
  rename_i K66 hK66
  refine hK66 _ _ ?_
  clear hK66 K66
  go_wp2_with fail
  refine wp_load_row (o := ⟨some 67, _, _, _, _, _⟩) 30 (.tmp 12) rfl m2 rfl 30 Z98 (0, 0) _ hB8.out Try.underlying30 rfl size98' ?_
  go_simp
  rename_i K67 hK67
  refine hK67 _ _ ?_
  clear hK67 K67
  go_wp2_with (go_at_call 36; refine (left_any q k hq0.out hk0.out g A c w8 hR8.out hr8.out).mono ?_; rintro e w9 ⟨rfl, n9, rfl⟩)
  go_ret
  exact ⟨rfl, below_drawn bb8.out n9⟩

end Go.Proofs.Ytngieimjlkpkaaa.Heads
