/-
  docketref16.Check, walked. (Printed by gen_refcheck.py.)
-/
import Derived.Test.YtngieimjlkpkaaaDoorCheck
import Derived.Test.YtngieimjlkpkaaaDoorRefSigns
namespace Go.Proofs.YtngieimjlkpkaaaDoor.RefCheck
open Go Go.RowKit Go.Proofs.YtngieimjlkpkaaaDoor Go.Proofs.YtngieimjlkpkaaaDoor.Mem Go.Proofs.YtngieimjlkpkaaaDoor.Sha Go.Proofs.YtngieimjlkpkaaaDoor.Bytes Go.Proofs.YtngieimjlkpkaaaDoor.HashMem Go.Proofs.YtngieimjlkpkaaaDoor.HashSum Go.Proofs.YtngieimjlkpkaaaDoor.Append Go.Proofs.YtngieimjlkpkaaaDoor.DigestMem Go.Proofs.YtngieimjlkpkaaaDoor.Digest Go.Proofs.YtngieimjlkpkaaaDoor.Mac Go.Proofs.YtngieimjlkpkaaaDoor.HeadMem Go.Proofs.YtngieimjlkpkaaaDoor.HeadID Go.Proofs.YtngieimjlkpkaaaDoor.Sign Go.Proofs.YtngieimjlkpkaaaDoor.HeadSign Go.Proofs.YtngieimjlkpkaaaDoor.Signs Go.Proofs.YtngieimjlkpkaaaDoor.RefSigns Go.Proofs.YtngieimjlkpkaaaDoor.DigEq Go.Proofs.YtngieimjlkpkaaaDoor.SignEq Go.Proofs.YtngieimjlkpkaaaDoor.QuietTail Go.Proofs.YtngieimjlkpkaaaDoor.Grown Go.Proofs.YtngieimjlkpkaaaDoor.Held Go.Proofs.YtngieimjlkpkaaaDoor.Check

set_option maxRecDepth 100000 in
set_option maxHeartbeats 1000000 in
theorem refCheck_any (h : HeadD) (ok : h.Ok) (s : Text) (hs : s.length = 64) (q : Text) (k : Nat) (hk : q.length = k) (A : Option Addr) (c : Nat) (w : World) (hq : Reads w 1 A k (cells8 q)) (hc : k ≤ c) (hnil : A = none → k = 0 ∧ c = 0) :
    Calls Tryd.prog 34 #[.agg (headCells h).toArray, .agg (cells8 s).toArray, .slice A k c] w fun e w' => e = .returned (.int .i64 (checkAns h s q)) ∧ Below w.heap.size w w' := by
  have y1 : Hid ((Tryd.prog.info? 31).map (·.size) = some (cells8 ((signOf h q).drop 32)).length) := by show _ = _; rw [cells8_len, List.length_drop, signOf_len]; exact size31
  have y2 : Hid ((Tryd.prog.info? 31).map (·.size) = some (cells8 (s.drop 32)).length) := by show _ = _; rw [cells8_len, List.length_drop, hs]; exact size31
  have hm := equal_dig ((signOf h q).drop 32) (s.drop 32) (by rw [List.length_drop, signOf_len]) (by rw [List.length_drop, hs])
  obtain ⟨W, hW⟩ : ∃ W, Hid (W = (w.alloc (.cells (headCells h).toArray 49)).alloc (.cells (cells8 s).toArray 51)) := ⟨_, rfl⟩
  have hH : Hid (Blk W w.heap.size 49 (headCells h).toArray) := by show Blk _ _ _ _; rw [hW.out]; exact heap_alloc2_old w _ _
  have hS : Hid (Blk W (w.heap.size + 1) 51 (cells8 s).toArray) := by show Blk _ _ _ _; rw [hW.out]; exact heap_alloc2_new w _ _
  have hb0 : Hid (Below w.heap.size w W) := by show Below _ _ _; rw [hW.out]; exact ((Below.refl _ w).alloc (Nat.le_refl _) _).alloc (by simp) _
  have hcur : Hid (∀ w', Class W w' → Below w.heap.size w w') := fun w' hw' => hb0.out.trans (hw'.below.mono hb0.out.size)
  have hP : Hid (∀ w', Class W w' → ∀ j v, (cells8 (s.take 32))[j]? = some v → w'.cell? ⟨w.heap.size + 1, 0 + j, none⟩ = some v) := fun w' hw' j v hv => by
    have hb : Blk w' (w.heap.size + 1) 51 (cells8 s).toArray := (hw'.below.block _ hS.out.lt).trans hS.out
    rw [hb.cell, List.getElem?_toArray]
    exact half_a s j v hv
  have hsz : Hid ((Tryd.prog.info? 49).map (·.size) = some (headCells h).toArray.size) := by show _ = _; rw [List.size_toArray, headCells_len ok]; exact size98
  have ssz := Lib.hid (sign_size s hs)
  have hs32 : (s.take 32).length = 32 := by simp [hs]
  have z32 : Hid ((Tryd.prog.info? 31).map (·.size) = some (cells8 (s.take 32)).length) := by show _ = _; rw [cells8_len, hs32]; exact size31
  have hn := equal_dig (idOf q) (s.take 32) (idOf_len q) hs32
  have hn1 := sign_fb (signOf h q) s (signOf_len h q) hs
  have hn0 := sign_fa (signOf h q) s (signOf_len h q) hs
  have hst : (signOf h q).take 32 = idOf q := by unfold signOf; rw [List.take_append_of_le_length (by rw [idOf_len]; exact Nat.le_refl _), List.take_of_length_le (by rw [idOf_len]; exact Nat.le_refl _)]
  have hse := half_eq (signOf h q) s
  rw [hst] at hse
  replace hk := Lib.hid hk
  replace hq := Lib.hid hq
  replace hnil := Lib.hid hnil
  have okh := Lib.hid ok
  clear ok hs hs32 hn0 hn1
  by_cases hkey : keyB k = true
  · have hkk := keyB_yes hkey
    have h1 : ¬ ((k : Int) < 1) := by omega
    have h2 : ¬ ((64 : Int) < (k : Int)) := by omega
    by_cases hid : idOf q = s.take 32
    · have hne : Hid (∀ w, (Op.equalIn 10000 31 (.agg (cells8 (idOf q)).toArray) (.agg (cells8 (s.take 32)).toArray)).run Tryd.prog w = .ok true w) := fun w => by rw [hn w, decide_eq_true hid]
      by_cases hr : rightB h = true
      · have hsa : Hid (signAns h q = (signOf h q, 0)) := by show _ = _; unfold signAns; rw [hk.out, if_pos hkey, if_pos hr]
        by_cases hsg : signOf h q = s
        · have hans : Hid (checkAns h s q = 0) := by show _ = _; unfold checkAns; rw [hk.out, if_pos ⟨hkey, hid⟩, if_pos hr, if_pos hsg]
          have hn2 : Hid (∀ w, (Op.equalIn 10000 31 (.agg (cells8 ((signOf h q).drop 32)).toArray) (.agg (cells8 (s.drop 32)).toArray)).run Tryd.prog w = .ok true w) := fun w => by rw [hm w, decide_eq_true (hse.1 hsg).2]
          rw [hans.out]
          clear hkey hid hr hsg hn hm hse hst
          go_enter Tryd.func34, Tryd.ntmps34
          go_wp2_with fail
          change (Code.region _ _ _).wp _ _ _ ((w.alloc (.cells (headCells h).toArray 49)).alloc (.cells (cells8 s).toArray 51))
          rw [← hW.out]
          refine wp_region_class (Class W) (by kernel_rfl) (by kernel_rfl) (Class.mk_ ((Below.refl _ _).drew)) ?_
          refine wpQuiet_move rfl (.tmp 2) rfl ?_
          (intro K hK; go_simp; refine hK _ ?_; clear hK K)
          refine wpQuiet_val (v := .int .i64 (k : Int)) rfl (fun w' hw' => by go_simp) ?_
          (intro K hK; go_simp; refine hK _ ?_; clear hK K)
          refine wpQuiet_val (v := .bool false) rfl (fun w' hw' => by go_simp) ?_
          (intro K hK; go_simp; refine hK _ ?_; clear hK K)
          refine wpQuiet_move rfl (.tmp 11) rfl ?_
          (intro K hK; go_simp; refine hK _ ?_; clear hK K)
          refine wpQuiet_move rfl (.tmp 2) rfl ?_
          (intro K hK; go_simp; refine hK _ ?_; clear hK K)
          refine wpQuiet_val (v := .int .i64 (k : Int)) rfl (fun w' hw' => by go_simp) ?_
          (intro K hK; go_simp; refine hK _ ?_; clear hK K)
          refine wpQuiet_val (v := .bool false) rfl (fun w' hw' => by go_simp) ?_
          (intro K hK; go_simp; refine hK _ ?_; clear hK K)
          refine wpQuiet_val (v := .bool false) rfl (fun w' hw' => by go_simp) ?_
          (intro K hK; go_simp; refine hK _ ?_; clear hK K)
          refine wpQuiet_move rfl (.tmp 16) rfl ?_
          (intro K hK; go_simp; refine hK _ ?_; clear hK K)
          refine wpQuiet_move rfl (.tmp 2) rfl ?_
          (intro K hK; go_simp; refine hK _ ?_; clear hK K)
          refine wpQuiet_fn (v := .agg (cells8 (idOf q)).toArray) (args := #[.slice A k c]) rfl _ _ rfl rfl Tryd.func15 (by kernel_rfl) (by kernel_rfl) (fun w' hw' => (refid_any q k hk.out A c w' (hq.out.below (hcur.out w' hw')) hc (by omega) hnil.out).mono (fun e w'' ⟨he, hb⟩ => ⟨he, hw'.next hb⟩)) ?_
          (intro K hK; go_simp; refine hK _ ?_; clear hK K)
          refine wpQuiet_val (v := .pointer (some ⟨w.heap.size + 1, 0, none⟩)) rfl (fun w' hw' => by go_simp) ?_
          (intro K hK; go_simp; refine hK _ ?_; clear hK K)
          refine wpQuiet_load_part rfl 31 (.tmp 20) rfl (w.heap.size + 1) (0) rfl (cells8 (s.take 32)) _ (fun w' hw' => hP.out w' hw') Tryd.underlying31 rfl z32.out ?_
          (intro K hK; go_simp; refine hK _ ?_; clear hK K)
          refine wpQuiet_val (v := .bool false) rfl (fun w' hw' => by have hh := hne.out w'; go_simp) ?_
          (intro K hK; go_simp; refine hK _ ?_; clear hK K)
          refine wpQuiet_val (v := .bool false) rfl (fun w' hw' => by go_simp) ?_
          (intro K hK; go_simp; refine hK _ ?_; clear hK K)
          refine wpQuiet_nil ?_
          intro w1 hw1
          have hb1 : Hid (Below w.heap.size w w1) := hcur.out w1 hw1
          have hh2 := hn2.out
          have hH1 : Hid (Blk w1 w.heap.size 49 (headCells h).toArray) := (hw1.below.block _ hH.out.lt).trans hH.out
          have hS1 : Hid (Blk w1 (w.heap.size + 1) 51 (cells8 s).toArray) := (hw1.below.block _ hS.out.lt).trans hS.out
          have x1 := Lib.hid (sign_size _ (signAns_len h q))
          have x2 := Lib.hid (sign_zero _ (signAns_len h q))
          have x3 := Lib.hid (sign_one (signAns h q).1)
          rw [hsa.out] at x1 x2 x3
          clear hw1
          go_wp2_with (first
            | ((with_reducible change wpList _ _ _ ({ dst := some 25, op := _, type := _, pos := _, after := _, guard := _ } :: _) _ _); refine wpList_load_row (o := ⟨some 25, _, _, _, _, _⟩) rfl 49 (.tmp 3) rfl (w.heap.size) rfl 49 ((headCells h).toArray) (0, 0) _ hH1.out Tryd.underlying49 rfl hsz.out ?_)
            | (go_at_call 32; refine (refSign_any h okh.out q k hk.out A c w1 (hq.out.below hb1.out) hc hnil.out).mono ?_; rw [hsa.out]; rintro e w2 ⟨rfl, hbr⟩; have hb2 : Hid (Below w.heap.size w w2) := hb1.out.trans (hbr.mono hb1.out.size); have hS2 : Hid (Blk w2 (w.heap.size + 1) 51 (cells8 s).toArray) := (hbr.block _ hS1.out.lt).trans hS1.out; have hb3 : Hid (Below w.heap.size w (w2.alloc (.cells Z64 51))) := hb2.out.alloc hb2.out.size _; have hS3 : Hid (Blk (w2.alloc (.cells Z64 51)) (w.heap.size + 1) 51 (cells8 s).toArray) := hS2.out.alloc _; clear hbr)
            | ((with_reducible change wpList _ _ _ ({ dst := none, op := Op.store 51 _ _, type := _, pos := _, after := _, guard := _ } :: _) _ _); refine wpList_store_whole (o := ⟨none, _, _, _, _, _⟩) rfl 51 (.tmp 7) (.tmp 28) rfl w2.heap.size (cells8 (signOf h q)).toArray rfl rfl 51 Z64 (heap_alloc_new w2 _) x1.out x2.out x3.out ?_; intro w4 B4 k4; have hb4 : Hid (Below w.heap.size w w4) := hb3.out.trans (Kept.below_of k4 hb2.out.size hb3.out.size); have hS4 : Hid (Blk w4 (w.heap.size + 1) 51 (cells8 s).toArray) := hS3.out.kept k4 (by have := hS2.out.lt; omega); replace B4 := Lib.hid B4; clear k4)
            | ((with_reducible change wpList _ _ _ ({ dst := some 34, op := _, type := _, pos := _, after := _, guard := _ } :: _) _ _); refine wpList_load_part (o := ⟨some 34, _, _, _, _, _⟩) rfl 31 (.tmp 33) rfl (w2.heap.size) (32) rfl (cells8 ((signOf h q).drop 32)) _ (fun j v hv => by rw [B4.out.cell, List.getElem?_toArray]; exact half_b _ j v hv) Tryd.underlying31 rfl y1.out ?_)
            | ((with_reducible change wpList _ _ _ ({ dst := some 36, op := _, type := _, pos := _, after := _, guard := _ } :: _) _ _); refine wpList_load_part (o := ⟨some 36, _, _, _, _, _⟩) rfl 31 (.tmp 35) rfl ((w.heap.size + 1)) (32) rfl (cells8 (s.drop 32)) _ (fun j v hv => by rw [hS4.out.cell, List.getElem?_toArray]; exact half_b _ j v hv) Tryd.underlying31 rfl y2.out ?_))
          go_ret
          exact ⟨rfl, hb4.out⟩
        · have hans : Hid (checkAns h s q = 161) := by show _ = _; unfold checkAns; rw [hk.out, if_pos ⟨hkey, hid⟩, if_pos hr, if_neg hsg]
          have hn2 : Hid (∀ w, (Op.equalIn 10000 31 (.agg (cells8 ((signOf h q).drop 32)).toArray) (.agg (cells8 (s.drop 32)).toArray)).run Tryd.prog w = .ok false w) := fun w => by rw [hm w, decide_eq_false (fun h2 => hsg (hse.2 ⟨hid, h2⟩))]
          rw [hans.out]
          clear hkey hid hr hsg hn hm hse hst
          go_enter Tryd.func34, Tryd.ntmps34
          go_wp2_with fail
          change (Code.region _ _ _).wp _ _ _ ((w.alloc (.cells (headCells h).toArray 49)).alloc (.cells (cells8 s).toArray 51))
          rw [← hW.out]
          refine wp_region_class (Class W) (by kernel_rfl) (by kernel_rfl) (Class.mk_ ((Below.refl _ _).drew)) ?_
          refine wpQuiet_move rfl (.tmp 2) rfl ?_
          (intro K hK; go_simp; refine hK _ ?_; clear hK K)
          refine wpQuiet_val (v := .int .i64 (k : Int)) rfl (fun w' hw' => by go_simp) ?_
          (intro K hK; go_simp; refine hK _ ?_; clear hK K)
          refine wpQuiet_val (v := .bool false) rfl (fun w' hw' => by go_simp) ?_
          (intro K hK; go_simp; refine hK _ ?_; clear hK K)
          refine wpQuiet_move rfl (.tmp 11) rfl ?_
          (intro K hK; go_simp; refine hK _ ?_; clear hK K)
          refine wpQuiet_move rfl (.tmp 2) rfl ?_
          (intro K hK; go_simp; refine hK _ ?_; clear hK K)
          refine wpQuiet_val (v := .int .i64 (k : Int)) rfl (fun w' hw' => by go_simp) ?_
          (intro K hK; go_simp; refine hK _ ?_; clear hK K)
          refine wpQuiet_val (v := .bool false) rfl (fun w' hw' => by go_simp) ?_
          (intro K hK; go_simp; refine hK _ ?_; clear hK K)
          refine wpQuiet_val (v := .bool false) rfl (fun w' hw' => by go_simp) ?_
          (intro K hK; go_simp; refine hK _ ?_; clear hK K)
          refine wpQuiet_move rfl (.tmp 16) rfl ?_
          (intro K hK; go_simp; refine hK _ ?_; clear hK K)
          refine wpQuiet_move rfl (.tmp 2) rfl ?_
          (intro K hK; go_simp; refine hK _ ?_; clear hK K)
          refine wpQuiet_fn (v := .agg (cells8 (idOf q)).toArray) (args := #[.slice A k c]) rfl _ _ rfl rfl Tryd.func15 (by kernel_rfl) (by kernel_rfl) (fun w' hw' => (refid_any q k hk.out A c w' (hq.out.below (hcur.out w' hw')) hc (by omega) hnil.out).mono (fun e w'' ⟨he, hb⟩ => ⟨he, hw'.next hb⟩)) ?_
          (intro K hK; go_simp; refine hK _ ?_; clear hK K)
          refine wpQuiet_val (v := .pointer (some ⟨w.heap.size + 1, 0, none⟩)) rfl (fun w' hw' => by go_simp) ?_
          (intro K hK; go_simp; refine hK _ ?_; clear hK K)
          refine wpQuiet_load_part rfl 31 (.tmp 20) rfl (w.heap.size + 1) (0) rfl (cells8 (s.take 32)) _ (fun w' hw' => hP.out w' hw') Tryd.underlying31 rfl z32.out ?_
          (intro K hK; go_simp; refine hK _ ?_; clear hK K)
          refine wpQuiet_val (v := .bool false) rfl (fun w' hw' => by have hh := hne.out w'; go_simp) ?_
          (intro K hK; go_simp; refine hK _ ?_; clear hK K)
          refine wpQuiet_val (v := .bool false) rfl (fun w' hw' => by go_simp) ?_
          (intro K hK; go_simp; refine hK _ ?_; clear hK K)
          refine wpQuiet_nil ?_
          intro w1 hw1
          have hb1 : Hid (Below w.heap.size w w1) := hcur.out w1 hw1
          have hh2 := hn2.out
          have hH1 : Hid (Blk w1 w.heap.size 49 (headCells h).toArray) := (hw1.below.block _ hH.out.lt).trans hH.out
          have hS1 : Hid (Blk w1 (w.heap.size + 1) 51 (cells8 s).toArray) := (hw1.below.block _ hS.out.lt).trans hS.out
          have x1 := Lib.hid (sign_size _ (signAns_len h q))
          have x2 := Lib.hid (sign_zero _ (signAns_len h q))
          have x3 := Lib.hid (sign_one (signAns h q).1)
          rw [hsa.out] at x1 x2 x3
          clear hw1
          go_wp2_with (first
            | ((with_reducible change wpList _ _ _ ({ dst := some 25, op := _, type := _, pos := _, after := _, guard := _ } :: _) _ _); refine wpList_load_row (o := ⟨some 25, _, _, _, _, _⟩) rfl 49 (.tmp 3) rfl (w.heap.size) rfl 49 ((headCells h).toArray) (0, 0) _ hH1.out Tryd.underlying49 rfl hsz.out ?_)
            | (go_at_call 32; refine (refSign_any h okh.out q k hk.out A c w1 (hq.out.below hb1.out) hc hnil.out).mono ?_; rw [hsa.out]; rintro e w2 ⟨rfl, hbr⟩; have hb2 : Hid (Below w.heap.size w w2) := hb1.out.trans (hbr.mono hb1.out.size); have hS2 : Hid (Blk w2 (w.heap.size + 1) 51 (cells8 s).toArray) := (hbr.block _ hS1.out.lt).trans hS1.out; have hb3 : Hid (Below w.heap.size w (w2.alloc (.cells Z64 51))) := hb2.out.alloc hb2.out.size _; have hS3 : Hid (Blk (w2.alloc (.cells Z64 51)) (w.heap.size + 1) 51 (cells8 s).toArray) := hS2.out.alloc _; clear hbr)
            | ((with_reducible change wpList _ _ _ ({ dst := none, op := Op.store 51 _ _, type := _, pos := _, after := _, guard := _ } :: _) _ _); refine wpList_store_whole (o := ⟨none, _, _, _, _, _⟩) rfl 51 (.tmp 7) (.tmp 28) rfl w2.heap.size (cells8 (signOf h q)).toArray rfl rfl 51 Z64 (heap_alloc_new w2 _) x1.out x2.out x3.out ?_; intro w4 B4 k4; have hb4 : Hid (Below w.heap.size w w4) := hb3.out.trans (Kept.below_of k4 hb2.out.size hb3.out.size); have hS4 : Hid (Blk w4 (w.heap.size + 1) 51 (cells8 s).toArray) := hS3.out.kept k4 (by have := hS2.out.lt; omega); replace B4 := Lib.hid B4; clear k4)
            | ((with_reducible change wpList _ _ _ ({ dst := some 34, op := _, type := _, pos := _, after := _, guard := _ } :: _) _ _); refine wpList_load_part (o := ⟨some 34, _, _, _, _, _⟩) rfl 31 (.tmp 33) rfl (w2.heap.size) (32) rfl (cells8 ((signOf h q).drop 32)) _ (fun j v hv => by rw [B4.out.cell, List.getElem?_toArray]; exact half_b _ j v hv) Tryd.underlying31 rfl y1.out ?_)
            | ((with_reducible change wpList _ _ _ ({ dst := some 36, op := _, type := _, pos := _, after := _, guard := _ } :: _) _ _); refine wpList_load_part (o := ⟨some 36, _, _, _, _, _⟩) rfl 31 (.tmp 35) rfl ((w.heap.size + 1)) (32) rfl (cells8 (s.drop 32)) _ (fun j v hv => by rw [hS4.out.cell, List.getElem?_toArray]; exact half_b _ j v hv) Tryd.underlying31 rfl y2.out ?_))
          go_ret
          exact ⟨rfl, hb4.out⟩
      · have hsa : Hid (signAns h q = (noSign, 1)) := by show _ = _; unfold signAns; rw [hk.out, if_pos hkey, if_neg hr]
        have hans : Hid (checkAns h s q = 1) := by show _ = _; unfold checkAns; rw [hk.out, if_pos ⟨hkey, hid⟩, if_neg hr]
        rw [hans.out]
        clear hkey hid hr hn hm hse hst
        go_enter Tryd.func34, Tryd.ntmps34
        go_wp2_with fail
        change (Code.region _ _ _).wp _ _ _ ((w.alloc (.cells (headCells h).toArray 49)).alloc (.cells (cells8 s).toArray 51))
        rw [← hW.out]
        refine wp_region_class (Class W) (by kernel_rfl) (by kernel_rfl) (Class.mk_ ((Below.refl _ _).drew)) ?_
        refine wpQuiet_move rfl (.tmp 2) rfl ?_
        (intro K hK; go_simp; refine hK _ ?_; clear hK K)
        refine wpQuiet_val (v := .int .i64 (k : Int)) rfl (fun w' hw' => by go_simp) ?_
        (intro K hK; go_simp; refine hK _ ?_; clear hK K)
        refine wpQuiet_val (v := .bool false) rfl (fun w' hw' => by go_simp) ?_
        (intro K hK; go_simp; refine hK _ ?_; clear hK K)
        refine wpQuiet_move rfl (.tmp 11) rfl ?_
        (intro K hK; go_simp; refine hK _ ?_; clear hK K)
        refine wpQuiet_move rfl (.tmp 2) rfl ?_
        (intro K hK; go_simp; refine hK _ ?_; clear hK K)
        refine wpQuiet_val (v := .int .i64 (k : Int)) rfl (fun w' hw' => by go_simp) ?_
        (intro K hK; go_simp; refine hK _ ?_; clear hK K)
        refine wpQuiet_val (v := .bool false) rfl (fun w' hw' => by go_simp) ?_
        (intro K hK; go_simp; refine hK _ ?_; clear hK K)
        refine wpQuiet_val (v := .bool false) rfl (fun w' hw' => by go_simp) ?_
        (intro K hK; go_simp; refine hK _ ?_; clear hK K)
        refine wpQuiet_move rfl (.tmp 16) rfl ?_
        (intro K hK; go_simp; refine hK _ ?_; clear hK K)
        refine wpQuiet_move rfl (.tmp 2) rfl ?_
        (intro K hK; go_simp; refine hK _ ?_; clear hK K)
        refine wpQuiet_fn (v := .agg (cells8 (idOf q)).toArray) (args := #[.slice A k c]) rfl _ _ rfl rfl Tryd.func15 (by kernel_rfl) (by kernel_rfl) (fun w' hw' => (refid_any q k hk.out A c w' (hq.out.below (hcur.out w' hw')) hc (by omega) hnil.out).mono (fun e w'' ⟨he, hb⟩ => ⟨he, hw'.next hb⟩)) ?_
        (intro K hK; go_simp; refine hK _ ?_; clear hK K)
        refine wpQuiet_val (v := .pointer (some ⟨w.heap.size + 1, 0, none⟩)) rfl (fun w' hw' => by go_simp) ?_
        (intro K hK; go_simp; refine hK _ ?_; clear hK K)
        refine wpQuiet_load_part rfl 31 (.tmp 20) rfl (w.heap.size + 1) (0) rfl (cells8 (s.take 32)) _ (fun w' hw' => hP.out w' hw') Tryd.underlying31 rfl z32.out ?_
        (intro K hK; go_simp; refine hK _ ?_; clear hK K)
        refine wpQuiet_val (v := .bool false) rfl (fun w' hw' => by have hh := hne.out w'; go_simp) ?_
        (intro K hK; go_simp; refine hK _ ?_; clear hK K)
        refine wpQuiet_val (v := .bool false) rfl (fun w' hw' => by go_simp) ?_
        (intro K hK; go_simp; refine hK _ ?_; clear hK K)
        refine wpQuiet_nil ?_
        intro w1 hw1
        have hb1 : Hid (Below w.heap.size w w1) := hcur.out w1 hw1
        have hH1 : Hid (Blk w1 w.heap.size 49 (headCells h).toArray) := (hw1.below.block _ hH.out.lt).trans hH.out
        have hS1 : Hid (Blk w1 (w.heap.size + 1) 51 (cells8 s).toArray) := (hw1.below.block _ hS.out.lt).trans hS.out
        have x1 := Lib.hid (sign_size _ (signAns_len h q))
        have x2 := Lib.hid (sign_zero _ (signAns_len h q))
        have x3 := Lib.hid (sign_one (signAns h q).1)
        rw [hsa.out] at x1 x2 x3
        clear hw1
        go_wp2_with (first
          | ((with_reducible change wpList _ _ _ ({ dst := some 25, op := _, type := _, pos := _, after := _, guard := _ } :: _) _ _); refine wpList_load_row (o := ⟨some 25, _, _, _, _, _⟩) rfl 49 (.tmp 3) rfl (w.heap.size) rfl 49 ((headCells h).toArray) (0, 0) _ hH1.out Tryd.underlying49 rfl hsz.out ?_)
          | (go_at_call 32; refine (refSign_any h okh.out q k hk.out A c w1 (hq.out.below hb1.out) hc hnil.out).mono ?_; rw [hsa.out]; rintro e w2 ⟨rfl, hbr⟩; have hb2 : Hid (Below w.heap.size w w2) := hb1.out.trans (hbr.mono hb1.out.size); have hS2 : Hid (Blk w2 (w.heap.size + 1) 51 (cells8 s).toArray) := (hbr.block _ hS1.out.lt).trans hS1.out; have hb3 : Hid (Below w.heap.size w (w2.alloc (.cells Z64 51))) := hb2.out.alloc hb2.out.size _; have hS3 : Hid (Blk (w2.alloc (.cells Z64 51)) (w.heap.size + 1) 51 (cells8 s).toArray) := hS2.out.alloc _; clear hbr)
          | ((with_reducible change wpList _ _ _ ({ dst := none, op := Op.store 51 _ _, type := _, pos := _, after := _, guard := _ } :: _) _ _); refine wpList_store_whole (o := ⟨none, _, _, _, _, _⟩) rfl 51 (.tmp 7) (.tmp 28) rfl w2.heap.size (cells8 (noSign)).toArray rfl rfl 51 Z64 (heap_alloc_new w2 _) x1.out x2.out x3.out ?_; intro w4 B4 k4; have hb4 : Hid (Below w.heap.size w w4) := hb3.out.trans (Kept.below_of k4 hb2.out.size hb3.out.size); have hS4 : Hid (Blk w4 (w.heap.size + 1) 51 (cells8 s).toArray) := hS3.out.kept k4 (by have := hS2.out.lt; omega); replace B4 := Lib.hid B4; clear k4))
        go_ret
        exact ⟨rfl, hb4.out⟩
    · have hne : Hid (∀ w, (Op.equalIn 10000 31 (.agg (cells8 (idOf q)).toArray) (.agg (cells8 (s.take 32)).toArray)).run Tryd.prog w = .ok false w) := fun w => by rw [hn w, decide_eq_false hid]
      have hans : Hid (checkAns h s q = 160) := by show _ = _; unfold checkAns; rw [if_neg (fun h => hid h.2)]
      rw [hans.out]
      clear hkey hid hn hm hse hst
      go_enter Tryd.func34, Tryd.ntmps34
      go_wp2_with fail
      change (Code.region _ _ _).wp _ _ _ ((w.alloc (.cells (headCells h).toArray 49)).alloc (.cells (cells8 s).toArray 51))
      rw [← hW.out]
      refine wp_region_class (Class W) (by kernel_rfl) (by kernel_rfl) (Class.mk_ ((Below.refl _ _).drew)) ?_
      refine wpQuiet_move rfl (.tmp 2) rfl ?_
      (intro K hK; go_simp; refine hK _ ?_; clear hK K)
      refine wpQuiet_val (v := .int .i64 (k : Int)) rfl (fun w' hw' => by go_simp) ?_
      (intro K hK; go_simp; refine hK _ ?_; clear hK K)
      refine wpQuiet_val (v := .bool false) rfl (fun w' hw' => by go_simp) ?_
      (intro K hK; go_simp; refine hK _ ?_; clear hK K)
      refine wpQuiet_move rfl (.tmp 11) rfl ?_
      (intro K hK; go_simp; refine hK _ ?_; clear hK K)
      refine wpQuiet_move rfl (.tmp 2) rfl ?_
      (intro K hK; go_simp; refine hK _ ?_; clear hK K)
      refine wpQuiet_val (v := .int .i64 (k : Int)) rfl (fun w' hw' => by go_simp) ?_
      (intro K hK; go_simp; refine hK _ ?_; clear hK K)
      refine wpQuiet_val (v := .bool false) rfl (fun w' hw' => by go_simp) ?_
      (intro K hK; go_simp; refine hK _ ?_; clear hK K)
      refine wpQuiet_val (v := .bool false) rfl (fun w' hw' => by go_simp) ?_
      (intro K hK; go_simp; refine hK _ ?_; clear hK K)
      refine wpQuiet_move rfl (.tmp 16) rfl ?_
      (intro K hK; go_simp; refine hK _ ?_; clear hK K)
      refine wpQuiet_move rfl (.tmp 2) rfl ?_
      (intro K hK; go_simp; refine hK _ ?_; clear hK K)
      refine wpQuiet_fn (v := .agg (cells8 (idOf q)).toArray) (args := #[.slice A k c]) rfl _ _ rfl rfl Tryd.func15 (by kernel_rfl) (by kernel_rfl) (fun w' hw' => (refid_any q k hk.out A c w' (hq.out.below (hcur.out w' hw')) hc (by omega) hnil.out).mono (fun e w'' ⟨he, hb⟩ => ⟨he, hw'.next hb⟩)) ?_
      (intro K hK; go_simp; refine hK _ ?_; clear hK K)
      refine wpQuiet_val (v := .pointer (some ⟨w.heap.size + 1, 0, none⟩)) rfl (fun w' hw' => by go_simp) ?_
      (intro K hK; go_simp; refine hK _ ?_; clear hK K)
      refine wpQuiet_load_part rfl 31 (.tmp 20) rfl (w.heap.size + 1) (0) rfl (cells8 (s.take 32)) _ (fun w' hw' => hP.out w' hw') Tryd.underlying31 rfl z32.out ?_
      (intro K hK; go_simp; refine hK _ ?_; clear hK K)
      refine wpQuiet_val (v := .bool true) rfl (fun w' hw' => by have hh := hne.out w'; go_simp) ?_
      (intro K hK; go_simp; refine hK _ ?_; clear hK K)
      refine wpQuiet_val (v := .bool true) rfl (fun w' hw' => by go_simp) ?_
      (intro K hK; go_simp; refine hK _ ?_; clear hK K)
      refine wpQuiet_nil ?_
      intro w1 hw1
      have hb1 : Hid (Below w.heap.size w w1) := hcur.out w1 hw1
      go_wp2_with fail
      go_ret
      exact ⟨rfl, hb1.out⟩
  · have hans : Hid (checkAns h s q = 160) := by show _ = _; unfold checkAns; rw [hk.out, if_neg (fun h => hkey h.1)]
    rw [hans.out]
    clear hn hm hse hst
    by_cases h1 : (k : Int) < 1
    · clear hkey
      go_enter Tryd.func34, Tryd.ntmps34
      go_wp2_with fail
      change (Code.region _ _ _).wp _ _ _ ((w.alloc (.cells (headCells h).toArray 49)).alloc (.cells (cells8 s).toArray 51))
      rw [← hW.out]
      refine wp_region_class (Class W) (by kernel_rfl) (by kernel_rfl) (Class.mk_ ((Below.refl _ _).drew)) ?_
      refine wpQuiet_move rfl (.tmp 2) rfl ?_
      (intro K hK; go_simp; refine hK _ ?_; clear hK K)
      refine wpQuiet_val (v := .int .i64 (k : Int)) rfl (fun w' hw' => by go_simp) ?_
      (intro K hK; go_simp; refine hK _ ?_; clear hK K)
      refine wpQuiet_val (v := .bool true) rfl (fun w' hw' => by go_simp) ?_
      (intro K hK; go_simp; refine hK _ ?_; clear hK K)
      refine wpQuiet_move rfl (.tmp 11) rfl ?_
      (intro K hK; go_simp; refine hK _ ?_; clear hK K)
      refine wpQuiet_skip_ rfl ?_
      (intro K hK; go_simp; refine hK _ ?_; clear hK K)
      refine wpQuiet_skip_ rfl ?_
      (intro K hK; go_simp; refine hK _ ?_; clear hK K)
      refine wpQuiet_skip_ rfl ?_
      (intro K hK; go_simp; refine hK _ ?_; clear hK K)
      refine wpQuiet_val (v := .bool true) rfl (fun w' hw' => by go_simp) ?_
      (intro K hK; go_simp; refine hK _ ?_; clear hK K)
      refine wpQuiet_move rfl (.tmp 16) rfl ?_
      (intro K hK; go_simp; refine hK _ ?_; clear hK K)
      refine wpQuiet_skip_ rfl ?_
      (intro K hK; go_simp; refine hK _ ?_; clear hK K)
      refine wpQuiet_skip_ rfl ?_
      (intro K hK; go_simp; refine hK _ ?_; clear hK K)
      refine wpQuiet_skip_ rfl ?_
      (intro K hK; go_simp; refine hK _ ?_; clear hK K)
      refine wpQuiet_skip_ rfl ?_
      (intro K hK; go_simp; refine hK _ ?_; clear hK K)
      refine wpQuiet_skip_ rfl ?_
      (intro K hK; go_simp; refine hK _ ?_; clear hK K)
      refine wpQuiet_val (v := .bool true) rfl (fun w' hw' => by go_simp) ?_
      (intro K hK; go_simp; refine hK _ ?_; clear hK K)
      refine wpQuiet_nil ?_
      intro w1 hw1
      have hb1 : Hid (Below w.heap.size w w1) := hcur.out w1 hw1
      go_wp2_with fail
      go_ret
      exact ⟨rfl, hb1.out⟩
    · have h2 : (64 : Int) < (k : Int) := by
        simp [keyB] at hkey
        omega
      clear hkey
      go_enter Tryd.func34, Tryd.ntmps34
      go_wp2_with fail
      change (Code.region _ _ _).wp _ _ _ ((w.alloc (.cells (headCells h).toArray 49)).alloc (.cells (cells8 s).toArray 51))
      rw [← hW.out]
      refine wp_region_class (Class W) (by kernel_rfl) (by kernel_rfl) (Class.mk_ ((Below.refl _ _).drew)) ?_
      refine wpQuiet_move rfl (.tmp 2) rfl ?_
      (intro K hK; go_simp; refine hK _ ?_; clear hK K)
      refine wpQuiet_val (v := .int .i64 (k : Int)) rfl (fun w' hw' => by go_simp) ?_
      (intro K hK; go_simp; refine hK _ ?_; clear hK K)
      refine wpQuiet_val (v := .bool false) rfl (fun w' hw' => by go_simp) ?_
      (intro K hK; go_simp; refine hK _ ?_; clear hK K)
      refine wpQuiet_move rfl (.tmp 11) rfl ?_
      (intro K hK; go_simp; refine hK _ ?_; clear hK K)
      refine wpQuiet_move rfl (.tmp 2) rfl ?_
      (intro K hK; go_simp; refine hK _ ?_; clear hK K)
      refine wpQuiet_val (v := .int .i64 (k : Int)) rfl (fun w' hw' => by go_simp) ?_
      (intro K hK; go_simp; refine hK _ ?_; clear hK K)
      refine wpQuiet_val (v := .bool true) rfl (fun w' hw' => by go_simp) ?_
      (intro K hK; go_simp; refine hK _ ?_; clear hK K)
      refine wpQuiet_val (v := .bool true) rfl (fun w' hw' => by go_simp) ?_
      (intro K hK; go_simp; refine hK _ ?_; clear hK K)
      refine wpQuiet_move rfl (.tmp 16) rfl ?_
      (intro K hK; go_simp; refine hK _ ?_; clear hK K)
      refine wpQuiet_skip_ rfl ?_
      (intro K hK; go_simp; refine hK _ ?_; clear hK K)
      refine wpQuiet_skip_ rfl ?_
      (intro K hK; go_simp; refine hK _ ?_; clear hK K)
      refine wpQuiet_skip_ rfl ?_
      (intro K hK; go_simp; refine hK _ ?_; clear hK K)
      refine wpQuiet_skip_ rfl ?_
      (intro K hK; go_simp; refine hK _ ?_; clear hK K)
      refine wpQuiet_skip_ rfl ?_
      (intro K hK; go_simp; refine hK _ ?_; clear hK K)
      refine wpQuiet_val (v := .bool true) rfl (fun w' hw' => by go_simp) ?_
      (intro K hK; go_simp; refine hK _ ?_; clear hK K)
      refine wpQuiet_nil ?_
      intro w1 hw1
      have hb1 : Hid (Below w.heap.size w w1) := hcur.out w1 hw1
      go_wp2_with fail
      go_ret
      exact ⟨rfl, hb1.out⟩
end Go.Proofs.YtngieimjlkpkaaaDoor.RefCheck
