/-
  docketlaw16.HeadSigns, walked. (Printed by gen_headsigns.py.)
-/
import Derived.Test.YtngieimjlkpkaaaDoorRefCheck
import Derived.Test.YtngieimjlkpkaaaDoorLaw16
import Derived.Test.YtngieimjlkpkaaaDoorBook
import Derived.Test.YtngieimjlkpkaaaDoorGuard
namespace Go.Proofs.YtngieimjlkpkaaaDoor.HeadSigns
open Go Go.RowKit Go.Proofs.YtngieimjlkpkaaaDoor Go.Proofs.YtngieimjlkpkaaaDoor.Mem Go.Proofs.YtngieimjlkpkaaaDoor.Sha Go.Proofs.YtngieimjlkpkaaaDoor.Bytes Go.Proofs.YtngieimjlkpkaaaDoor.HashMem Go.Proofs.YtngieimjlkpkaaaDoor.HashSum Go.Proofs.YtngieimjlkpkaaaDoor.Append Go.Proofs.YtngieimjlkpkaaaDoor.DigestMem Go.Proofs.YtngieimjlkpkaaaDoor.Digest Go.Proofs.YtngieimjlkpkaaaDoor.Mac Go.Proofs.YtngieimjlkpkaaaDoor.HeadMem Go.Proofs.YtngieimjlkpkaaaDoor.HeadID Go.Proofs.YtngieimjlkpkaaaDoor.Sign Go.Proofs.YtngieimjlkpkaaaDoor.HeadSign Go.Proofs.YtngieimjlkpkaaaDoor.Signs Go.Proofs.YtngieimjlkpkaaaDoor.RefSigns Go.Proofs.YtngieimjlkpkaaaDoor.DigEq Go.Proofs.YtngieimjlkpkaaaDoor.SignEq Go.Proofs.YtngieimjlkpkaaaDoor.QuietTail Go.Proofs.YtngieimjlkpkaaaDoor.Grown Go.Proofs.YtngieimjlkpkaaaDoor.Held Go.Proofs.YtngieimjlkpkaaaDoor.Check Go.Proofs.YtngieimjlkpkaaaDoor.RefCheck Go.Proofs.YtngieimjlkpkaaaDoor.Law16 Go.Proofs.YtngieimjlkpkaaaDoor.Book Go.Proofs.YtngieimjlkpkaaaDoor.Guard

set_option maxRecDepth 100000 in
set_option maxHeartbeats 1000000 in
theorem headSigns_any (h : HeadD) (ok : h.Ok) (q r s : Text) (k m : Nat) (hk : q.length = k) (hm : r.length = m) (hs : s.length = 64) (A A2 : Option Addr) (c c2 : Nat) (w : World) (hB : Base w) (hq : Reads w 1 A k (cells8 q)) (hr : Reads w 1 A2 m (cells8 r)) (hc : k ≤ c) (hc2 : m ≤ c2) (hnil : A = none → k = 0 ∧ c = 0) (hnil2 : A2 = none → m = 0 ∧ c2 = 0) (hk47 : k < 140737488355328) :
    Calls Tryd.prog 7 #[.agg (headCells h).toArray, .slice A k c, .slice A2 m c2, .agg (cells8 s).toArray] w fun e w' => e = .returned (.bool true) ∧ Below w.heap.size w w' := by
  obtain ⟨a, er, hans⟩ : ∃ a er, Hid (signAns h q = (a, er)) := ⟨_, _, rfl⟩
  have hal : Hid (a.length = 64) := by show _ = _; have := signAns_len h q; rw [hans.out] at this; exact this
  obtain ⟨w0, hw0⟩ : ∃ w0, Hid (w0 = (w.alloc (.cells (headCells h).toArray 49)).alloc (.cells (cells8 s).toArray 51)) := ⟨_, rfl⟩
  have hH0 : Hid (Blk w0 w.heap.size 49 (headCells h).toArray) := by show Blk _ _ _ _; rw [hw0.out]; exact heap_alloc2_old w _ _
  have hS0 : Hid (Blk w0 (w.heap.size + 1) 51 (cells8 s).toArray) := by show Blk _ _ _ _; rw [hw0.out]; exact heap_alloc2_new w _ _
  have hb0 : Hid (Below w.heap.size w w0) := by show Below _ _ _; rw [hw0.out]; exact ((Below.refl _ w).alloc (Nat.le_refl _) _).alloc (by simp) _
  have hsz : Hid ((Tryd.prog.info? 49).map (·.size) = some (headCells h).toArray.size) := by show _ = _; rw [List.size_toArray, headCells_len ok]; exact size98
  have ssz := Lib.hid (sign_size s hs)
  have asz := Lib.hid (sign_size a hal.out)
  have x1 := Lib.hid (sign_size a hal.out)
  have x2 := Lib.hid (sign_zero a hal.out)
  have x3 := Lib.hid (sign_one a)
  have hfa : ∀ w, (Op.equalIn 9999 31 (.agg (List.take 32 (cells8 a)).toArray) (.agg (List.take 32 (cells8 a)).toArray)).run Tryd.prog w = .ok true w := fun w => by rw [sign_fa a a hal.out hal.out w]; simp
  have hfb : ∀ w, (Op.equalIn 9999 31 (.agg (List.take 32 (List.drop 32 (cells8 a))).toArray) (.agg (List.take 32 (List.drop 32 (cells8 a))).toArray)).run Tryd.prog w = .ok true w := fun w => by rw [sign_fb a a hal.out hal.out w]; simp
  obtain ⟨s2, hs2e⟩ : ∃ s2, Hid (s2 = idOf q ++ s.drop 32) := ⟨_, rfl⟩
  have hs2 : Hid (s2.length = 64) := by show _ = _; rw [hs2e.out, List.length_append, idOf_len, List.length_drop, hs]
  have tsz := Lib.hid (sign_size s2 hs2.out)
  replace hk := Lib.hid hk
  replace hm := Lib.hid hm
  replace hs := Lib.hid hs
  replace hB := Lib.hid hB
  replace hq := Lib.hid hq
  replace hr := Lib.hid hr
  replace hnil := Lib.hid hnil
  replace hnil2 := Lib.hid hnil2
  replace hk47 := Lib.hid hk47
  have okh := Lib.hid ok
  clear ok
  go_enter Tryd.func7, Tryd.ntmps7
  go_wp2_with fail
  change Calls _ _ _ ((w.alloc (.cells (headCells h).toArray 49)).alloc (.cells (cells8 s).toArray 51)) _
  rw [← hw0.out]
  clear hw0
  refine (roomy_any q k hk.out hk47.out A c w0 (hq.out.below hb0.out)).mono ?_
  rintro e w1 ⟨g, rfl, hg, hY1, hbr⟩
  replace hY1 := Lib.hid hY1
  have hb1 : Hid (Below w.heap.size w w1) := hb0.out.trans (hbr.mono hb0.out.size)
  have hH1 : Hid (Blk w1 w.heap.size 49 (headCells h).toArray) := (hbr.block _ hH0.out.lt).trans hH0.out
  have hS1 : Hid (Blk w1 (w.heap.size + 1) 51 (cells8 s).toArray) := (hbr.block _ hS0.out.lt).trans hS0.out
  have hG1 : Hid (Reads w1 1 (some ⟨g, 0, none⟩) k (cells8 q)) := by have h1 := Law16.Roomy.reads hY1.out; rw [hk.out] at h1; exact h1
  have hgz : Hid (w.heap.size + 1 < g) := by have := hS0.out.lt; show _ < _; omega
  clear hbr hg
  go_wp2_with (first
    | ((with_reducible change wpList _ _ _ ({ dst := some 17, op := _, type := _, pos := _, after := _, guard := _ } :: _) _ _); refine wpList_load_row (o := ⟨some 17, _, _, _, _, _⟩) rfl 49 (.tmp 4) rfl (w.heap.size) rfl 49 ((headCells h).toArray) (0, 0) _ hH1.out Tryd.underlying49 rfl hsz.out ?_)
    | (go_at_call 31; refine (headSign_any h okh.out q k hk.out (some ⟨g, 0, none⟩) (k + 100) w1 (hB.out.below hb1.out hB.out.1) hG1.out (by omega) (fun h => by cases h)).mono ?_; rw [hans.out]; rintro e w2 ⟨rfl, hbr⟩; have hb2 : Hid (Below w.heap.size w w2) := hb1.out.trans (hbr.mono hb1.out.size); have hH2 : Hid (Blk w2 w.heap.size 49 (headCells h).toArray) := (hbr.block _ hH1.out.lt).trans hH1.out; have hS2 : Hid (Blk w2 (w.heap.size + 1) 51 (cells8 s).toArray) := (hbr.block _ hS1.out.lt).trans hS1.out; have hY2 : Hid (Law16.Roomy w2 g q) := Law16.Roomy.below hY1.out hbr (Tab.lt hY1.out); clear hbr)
    | ((with_reducible change wpList _ _ _ ({ dst := none, op := Op.store 51 (.tmp 10) _, type := _, pos := _, after := _, guard := _ } :: _) _ _); refine wpList_store_whole (o := ⟨none, _, _, _, _, _⟩) rfl 51 (.tmp 10) (.tmp 20) rfl w2.heap.size (cells8 a).toArray rfl rfl 51 Z64 (heap_alloc_new _ _) x1.out x2.out x3.out ?_; intro w3 B3 k4; obtain ⟨b10, hb10⟩ : ∃ b10, Hid (b10 = w2.heap.size) := ⟨_, rfl⟩; have hb3 : Hid (Below w.heap.size w w3) := hb2.out.trans ((((Below.refl _ w2).alloc hb2.out.size _).trans (Kept.below_of k4 hb2.out.size (by have := hb2.out.size; simp; omega)))); have hH3 : Hid (Blk w3 w.heap.size 49 (headCells h).toArray) := (hH2.out.alloc _).kept k4 (by have := hS2.out.lt; omega); have hS3 : Hid (Blk w3 (w.heap.size + 1) 51 (cells8 s).toArray) := (hS2.out.alloc _).kept k4 (by have := hS2.out.lt; omega); have hY3 : Hid (Law16.Roomy w3 g q) := Law16.Roomy.kept (Tab.alloc hY2.out _) k4 (by have := Tab.lt hY2.out; omega); replace B3 := Lib.hid B3; clear k4)
    | ((with_reducible change wpList _ _ _ ({ dst := some 23, op := _, type := _, pos := _, after := _, guard := _ } :: _) _ _); refine wpList_load_row (o := ⟨some 23, _, _, _, _, _⟩) rfl 49 (.tmp 4) rfl (w.heap.size) rfl 49 ((headCells h).toArray) (0, 0) _ hH3.out Tryd.underlying49 rfl hsz.out ?_))
  refine (refSign_any h okh.out q k hk.out A c w3 (hq.out.below hb3.out) hc hnil.out).mono ?_
  rw [hans.out]
  rintro e w4 ⟨rfl, hbr⟩
  have hb4 : Hid (Below w.heap.size w w4) := hb3.out.trans (hbr.mono hb3.out.size)
  have hH4 : Hid (Blk w4 w.heap.size 49 (headCells h).toArray) := (hbr.block _ hH3.out.lt).trans hH3.out
  have hY4 : Hid (Law16.Roomy w4 g q) := Law16.Roomy.below hY3.out hbr (Tab.lt hY3.out)
  have hS4 : Hid (Blk w4 (w.heap.size + 1) 51 (cells8 s).toArray) := (hbr.block _ hS3.out.lt).trans hS3.out
  have B4 : Hid (Blk w4 w2.heap.size 51 (cells8 a).toArray) := (hbr.block _ B3.out.lt).trans B3.out
  clear hbr
  go_wp2_with (first
    | ((with_reducible change wpList _ _ _ ({ dst := none, op := Op.store 51 (.tmp 12) _, type := _, pos := _, after := _, guard := _ } :: _) _ _); refine wpList_store_whole (o := ⟨none, _, _, _, _, _⟩) rfl 51 (.tmp 12) (.tmp 26) rfl w4.heap.size (cells8 a).toArray rfl rfl 51 Z64 (heap_alloc_new _ _) x1.out x2.out x3.out ?_; intro w5 B5 k4; have hb5 : Hid (Below w.heap.size w w5) := hb4.out.trans ((((Below.refl _ w4).alloc hb4.out.size _).trans (Kept.below_of k4 hb4.out.size (by have := hb4.out.size; simp; omega)))); have hH5 : Hid (Blk w5 w.heap.size 49 (headCells h).toArray) := (hH4.out.alloc _).kept k4 (by have := hS4.out.lt; omega); have hS5 : Hid (Blk w5 (w.heap.size + 1) 51 (cells8 s).toArray) := (hS4.out.alloc _).kept k4 (by have := hS4.out.lt; omega); have hY5 : Hid (Law16.Roomy w5 g q) := Law16.Roomy.kept (Tab.alloc hY4.out _) k4 (by have := Tab.lt hY4.out; omega); have hT5 : Hid (Blk w5 w4.heap.size 51 (cells8 a).toArray) := B5; have B10 : Hid (Blk w5 w2.heap.size 51 (cells8 a).toArray) := (B4.out.alloc _).kept k4 (by have := B4.out.lt; omega); clear k4)
    | ((with_reducible change wpList _ _ _ ({ dst := some 32, op := _, type := _, pos := _, after := _, guard := _ } :: _) _ _); refine wpList_load_rowG (o := ⟨some 32, _, _, _, _, _⟩) rfl 51 (.tmp 10) rfl (w2.heap.size) rfl 51 ((cells8 a).toArray) (0, 0) _ B10.out Tryd.underlying51 rfl asz.out ?_)
    | ((with_reducible change wpList _ _ _ ({ dst := some 33, op := _, type := _, pos := _, after := _, guard := _ } :: _) _ _); refine wpList_load_rowG (o := ⟨some 33, _, _, _, _, _⟩) rfl 51 (.tmp 12) rfl (w4.heap.size) rfl 51 ((cells8 a).toArray) (0, 0) _ hT5.out Tryd.underlying51 rfl asz.out ?_))
  have hG5 : Hid (Reads w5 1 (some ⟨g, 0, none⟩) k (cells8 q)) := by have h1 := Law16.Roomy.reads hY5.out; rw [hk.out] at h1; exact h1
  have hz4 : Hid (w.heap.size + 1 < w4.heap.size) := hS4.out.lt
  clear hb1 hH1 hS1 hG1 hY1 hb2 hH2 hS2 hY2 hb3 hH3 hS3 hY3 hb4 hH4 hS4 hY4 B3 B4 B5 B10 hfa hfb
  refine wp_region_class (Class w5) (by kernel_rfl) (by kernel_rfl) (Class.mk_ ((Below.refl _ _).drew)) ?_
  refine wpQuiet_load_row rfl 49 (.tmp 4) rfl w.heap.size rfl 49 ((headCells h).toArray) (0, 0) _ (fun w' hw' => (hw'.below.block _ hH5.out.lt).trans hH5.out) Tryd.underlying49 rfl hsz.out ?_
  (intro K hK; go_simp; refine hK _ ?_; clear hK K)
  refine wpQuiet_load_row rfl 51 (.tmp 7) rfl (w.heap.size + 1) rfl 51 ((cells8 s).toArray) (0, 0) _ (fun w' hw' => (hw'.below.block _ hS5.out.lt).trans hS5.out) Tryd.underlying51 rfl ssz.out ?_
  (intro K hK; go_simp; refine hK _ ?_; clear hK K)
  refine wpQuiet_move rfl (.tmp 9) rfl ?_
  (intro K hK; go_simp; refine hK _ ?_; clear hK K)
  refine wpQuiet_fn (v := .int .i64 (checkAns h s q)) (args := #[.agg (headCells h).toArray, .agg (cells8 (s)).toArray, .slice (some ⟨g, 0, none⟩) k (k + 100)]) rfl _ _ rfl rfl Tryd.func33 (by kernel_rfl) (by kernel_rfl) (fun w' hw' => (check_any h okh.out s hs.out q k hk.out (some ⟨g, 0, none⟩) (k + 100) w' (hB.out.below (hb5.out.trans (hw'.below.mono hb5.out.size)) hB.out.1) (hG5.out.below hw'.below) (by omega) (fun h => by cases h)).mono (fun e w'' ⟨he, hb⟩ => ⟨he, hw'.next hb⟩)) ?_
  (intro K hK; go_simp; refine hK _ ?_; clear hK K)
  refine wpQuiet_load_row rfl 49 (.tmp 4) rfl w.heap.size rfl 49 ((headCells h).toArray) (0, 0) _ (fun w' hw' => (hw'.below.block _ hH5.out.lt).trans hH5.out) Tryd.underlying49 rfl hsz.out ?_
  (intro K hK; go_simp; refine hK _ ?_; clear hK K)
  refine wpQuiet_load_row rfl 51 (.tmp 7) rfl (w.heap.size + 1) rfl 51 ((cells8 s).toArray) (0, 0) _ (fun w' hw' => (hw'.below.block _ hS5.out.lt).trans hS5.out) Tryd.underlying51 rfl ssz.out ?_
  (intro K hK; go_simp; refine hK _ ?_; clear hK K)
  refine wpQuiet_move rfl (.tmp 1) rfl ?_
  (intro K hK; go_simp; refine hK _ ?_; clear hK K)
  refine wpQuiet_fn (v := .int .i64 (checkAns h s q)) (args := #[.agg (headCells h).toArray, .agg (cells8 (s)).toArray, .slice A k c]) rfl _ _ rfl rfl Tryd.func34 (by kernel_rfl) (by kernel_rfl) (fun w' hw' => (refCheck_any h okh.out s hs.out q k hk.out A c w' (hq.out.below (hb5.out.trans (hw'.below.mono hb5.out.size))) hc hnil.out).mono (fun e w'' ⟨he, hb⟩ => ⟨he, hw'.next hb⟩)) ?_
  (intro K hK; go_simp; refine hK _ ?_; clear hK K)
  refine wpQuiet_val (v := .bool false) rfl (fun w' hw' => by go_simp) ?_
  (intro K hK; go_simp; refine hK _ ?_; clear hK K)
  refine wpQuiet_move rfl (.tmp 44) rfl ?_
  (intro K hK; go_simp; refine hK _ ?_; clear hK K)
  refine wpQuiet_load_row rfl 49 (.tmp 4) rfl w.heap.size rfl 49 ((headCells h).toArray) (0, 0) _ (fun w' hw' => (hw'.below.block _ hH5.out.lt).trans hH5.out) Tryd.underlying49 rfl hsz.out ?_
  (intro K hK; go_simp; refine hK _ ?_; clear hK K)
  refine wpQuiet_load_row rfl 51 (.tmp 12) rfl w4.heap.size rfl 51 ((cells8 a).toArray) (0, 0) _ (fun w' hw' => (hw'.below.block _ hT5.out.lt).trans hT5.out) Tryd.underlying51 rfl asz.out ?_
  (intro K hK; go_simp; refine hK _ ?_; clear hK K)
  refine wpQuiet_move rfl (.tmp 9) rfl ?_
  (intro K hK; go_simp; refine hK _ ?_; clear hK K)
  refine wpQuiet_fn (v := .int .i64 (checkAns h a q)) (args := #[.agg (headCells h).toArray, .agg (cells8 (a)).toArray, .slice (some ⟨g, 0, none⟩) k (k + 100)]) rfl _ _ rfl rfl Tryd.func33 (by kernel_rfl) (by kernel_rfl) (fun w' hw' => (check_any h okh.out a hal.out q k hk.out (some ⟨g, 0, none⟩) (k + 100) w' (hB.out.below (hb5.out.trans (hw'.below.mono hb5.out.size)) hB.out.1) (hG5.out.below hw'.below) (by omega) (fun h => by cases h)).mono (fun e w'' ⟨he, hb⟩ => ⟨he, hw'.next hb⟩)) ?_
  (intro K hK; go_simp; refine hK _ ?_; clear hK K)
  refine wpQuiet_load_row rfl 49 (.tmp 4) rfl w.heap.size rfl 49 ((headCells h).toArray) (0, 0) _ (fun w' hw' => (hw'.below.block _ hH5.out.lt).trans hH5.out) Tryd.underlying49 rfl hsz.out ?_
  (intro K hK; go_simp; refine hK _ ?_; clear hK K)
  refine wpQuiet_load_row rfl 51 (.tmp 12) rfl w4.heap.size rfl 51 ((cells8 a).toArray) (0, 0) _ (fun w' hw' => (hw'.below.block _ hT5.out.lt).trans hT5.out) Tryd.underlying51 rfl asz.out ?_
  (intro K hK; go_simp; refine hK _ ?_; clear hK K)
  refine wpQuiet_move rfl (.tmp 1) rfl ?_
  (intro K hK; go_simp; refine hK _ ?_; clear hK K)
  refine wpQuiet_fn (v := .int .i64 (checkAns h a q)) (args := #[.agg (headCells h).toArray, .agg (cells8 (a)).toArray, .slice A k c]) rfl _ _ rfl rfl Tryd.func34 (by kernel_rfl) (by kernel_rfl) (fun w' hw' => (refCheck_any h okh.out a hal.out q k hk.out A c w' (hq.out.below (hb5.out.trans (hw'.below.mono hb5.out.size))) hc hnil.out).mono (fun e w'' ⟨he, hb⟩ => ⟨he, hw'.next hb⟩)) ?_
  (intro K hK; go_simp; refine hK _ ?_; clear hK K)
  refine wpQuiet_val (v := .bool false) rfl (fun w' hw' => by go_simp) ?_
  (intro K hK; go_simp; refine hK _ ?_; clear hK K)
  refine wpQuiet_val (v := .bool false) rfl (fun w' hw' => by go_simp) ?_
  (intro K hK; go_simp; refine hK _ ?_; clear hK K)
  refine wpQuiet_nil ?_
  intro w6 hw6
  have hb6 : Hid (Below w.heap.size w w6) := hb5.out.trans (hw6.below.mono hb5.out.size)
  have hH6 : Hid (Blk w6 w.heap.size 49 (headCells h).toArray) := (hw6.below.block _ hH5.out.lt).trans hH5.out
  have hY6 : Hid (Law16.Roomy w6 g q) := Law16.Roomy.below hY5.out hw6.below (Tab.lt hY5.out)
  have hS6 : Hid (Blk w6 (w.heap.size + 1) 51 (cells8 s).toArray) := (hw6.below.block _ hS5.out.lt).trans hS5.out
  have hT6 : Hid (Blk w6 w4.heap.size 51 (cells8 a).toArray) := (hw6.below.block _ hT5.out.lt).trans hT5.out
  clear hw6
  go_wp2_with fail
  refine (refid_any q k hk.out A c w6 (hq.out.below hb6.out) hc hk47.out hnil.out).mono ?_
  rintro e w7 ⟨rfl, hbr⟩
  have hb7 : Hid (Below w.heap.size w w7) := hb6.out.trans (hbr.mono hb6.out.size)
  have hH7 : Hid (Blk w7 w.heap.size 49 (headCells h).toArray) := (hbr.block _ hH6.out.lt).trans hH6.out
  have hY7 : Hid (Law16.Roomy w7 g q) := Law16.Roomy.below hY6.out hbr (Tab.lt hY6.out)
  have hS7 : Hid (Blk w7 (w.heap.size + 1) 51 (cells8 s).toArray) := (hbr.block _ hS6.out.lt).trans hS6.out
  have hT7 : Hid (Blk w7 w4.heap.size 51 (cells8 a).toArray) := (hbr.block _ hT6.out.lt).trans hT6.out
  clear hbr
  have i1 : Hid ((Tryd.prog.info? 31).map (·.size) = some (cells8 (idOf q)).toArray.size) := dig_size (idOf q) (idOf_len q)
  have i2 : Hid (0 + (cells8 (idOf q)).toArray.size ≤ (cells8 s).toArray.size) := by show _ ≤ _; simp [cells8_len, idOf_len, hs.out]
  have i3 := Lib.hid (dig_one (idOf q))
  have hrow : Hid (((cells8 s).toArray.toList.take 0 ++ (cells8 (idOf q)).toArray.toList ++ (cells8 s).toArray.toList.drop (0 + (cells8 (idOf q)).toArray.size)).toArray = (cells8 s2).toArray) := by show _ = _; rw [hs2e.out]; simp [cells8, idOf_len, List.map_drop]
  go_wp2_with ((with_reducible change wpList _ _ _ ({ dst := none, op := Op.store 31 (.tmp 58) _, type := _, pos := _, after := _, guard := _ } :: _) _ _); refine wpList_store_part (o := ⟨none, _, _, _, _, _⟩) rfl 31 (.tmp 58) (.tmp 57) rfl (w.heap.size + 1) 0 (cells8 (idOf q)).toArray rfl rfl 51 (cells8 s).toArray hS7.out i1.out i2.out i3.out ?_; rw [hrow.out]; obtain ⟨w8, hw8⟩ : ∃ w8, Hid (w8 = w7.setRow (w.heap.size + 1) (cells8 s2).toArray) := ⟨_, rfl⟩; rw [← hw8.out])
  have hS8 : Hid (Blk w8 (w.heap.size + 1) 51 (cells8 s2).toArray) := by show Blk _ _ _ _; rw [hw8.out]; exact setRow_heap _ _ _ _ _ _ hS7.out
  have k8 : Kept (· = w.heap.size + 1) w7 w8 := by rw [hw8.out]; exact Bytes.Kept.setRow (S := (· = w.heap.size + 1)) (Kept.refl _ w7) rfl _
  have hb8 : Hid (Below w.heap.size w w8) := hb7.out.trans (Kept.below_of k8 (by omega) hb7.out.size)
  have hH8 : Hid (Blk w8 w.heap.size 49 (headCells h).toArray) := hH7.out.kept k8 (by omega)
  have hT8 : Hid (Blk w8 w4.heap.size 51 (cells8 a).toArray) := hT7.out.kept k8 (by have := hz4.out; omega)
  have hY8 : Hid (Law16.Roomy w8 g q) := Law16.Roomy.kept hY7.out k8 (by have := hgz.out; omega)
  have hG8 : Hid (Reads w8 1 (some ⟨g, 0, none⟩) k (cells8 q)) := by have h1 := Law16.Roomy.reads hY8.out; rw [hk.out] at h1; exact h1
  clear k8 hw8
  refine wp_region_class (Class w8) (by kernel_rfl) (by kernel_rfl) (Class.mk_ ((Below.refl _ _).drew)) ?_
  refine wpQuiet_load_row rfl 49 (.tmp 4) rfl w.heap.size rfl 49 ((headCells h).toArray) (0, 0) _ (fun w' hw' => (hw'.below.block _ hH8.out.lt).trans hH8.out) Tryd.underlying49 rfl hsz.out ?_
  (intro K hK; go_simp; refine hK _ ?_; clear hK K)
  refine wpQuiet_load_row rfl 51 (.tmp 7) rfl (w.heap.size + 1) rfl 51 ((cells8 s2).toArray) (0, 0) _ (fun w' hw' => (hw'.below.block _ hS8.out.lt).trans hS8.out) Tryd.underlying51 rfl tsz.out ?_
  (intro K hK; go_simp; refine hK _ ?_; clear hK K)
  refine wpQuiet_move rfl (.tmp 9) rfl ?_
  (intro K hK; go_simp; refine hK _ ?_; clear hK K)
  refine wpQuiet_fn (v := .int .i64 (checkAns h s2 q)) (args := #[.agg (headCells h).toArray, .agg (cells8 (s2)).toArray, .slice (some ⟨g, 0, none⟩) k (k + 100)]) rfl _ _ rfl rfl Tryd.func33 (by kernel_rfl) (by kernel_rfl) (fun w' hw' => (check_any h okh.out s2 hs2.out q k hk.out (some ⟨g, 0, none⟩) (k + 100) w' (hB.out.below (hb8.out.trans (hw'.below.mono hb8.out.size)) hB.out.1) (hG8.out.below hw'.below) (by omega) (fun h => by cases h)).mono (fun e w'' ⟨he, hb⟩ => ⟨he, hw'.next hb⟩)) ?_
  (intro K hK; go_simp; refine hK _ ?_; clear hK K)
  refine wpQuiet_load_row rfl 49 (.tmp 4) rfl w.heap.size rfl 49 ((headCells h).toArray) (0, 0) _ (fun w' hw' => (hw'.below.block _ hH8.out.lt).trans hH8.out) Tryd.underlying49 rfl hsz.out ?_
  (intro K hK; go_simp; refine hK _ ?_; clear hK K)
  refine wpQuiet_load_row rfl 51 (.tmp 7) rfl (w.heap.size + 1) rfl 51 ((cells8 s2).toArray) (0, 0) _ (fun w' hw' => (hw'.below.block _ hS8.out.lt).trans hS8.out) Tryd.underlying51 rfl tsz.out ?_
  (intro K hK; go_simp; refine hK _ ?_; clear hK K)
  refine wpQuiet_move rfl (.tmp 1) rfl ?_
  (intro K hK; go_simp; refine hK _ ?_; clear hK K)
  refine wpQuiet_fn (v := .int .i64 (checkAns h s2 q)) (args := #[.agg (headCells h).toArray, .agg (cells8 (s2)).toArray, .slice A k c]) rfl _ _ rfl rfl Tryd.func34 (by kernel_rfl) (by kernel_rfl) (fun w' hw' => (refCheck_any h okh.out s2 hs2.out q k hk.out A c w' (hq.out.below (hb8.out.trans (hw'.below.mono hb8.out.size))) hc hnil.out).mono (fun e w'' ⟨he, hb⟩ => ⟨he, hw'.next hb⟩)) ?_
  (intro K hK; go_simp; refine hK _ ?_; clear hK K)
  refine wpQuiet_val (v := .bool false) rfl (fun w' hw' => by go_simp) ?_
  (intro K hK; go_simp; refine hK _ ?_; clear hK K)
  refine wpQuiet_nil ?_
  intro w9 hw9
  have hb9 : Hid (Below w.heap.size w w9) := hb8.out.trans (hw9.below.mono hb8.out.size)
  have hH9 : Hid (Blk w9 w.heap.size 49 (headCells h).toArray) := (hw9.below.block _ hH8.out.lt).trans hH8.out
  have hY9 : Hid (Law16.Roomy w9 g q) := Law16.Roomy.below hY8.out hw9.below (Tab.lt hY8.out)
  have hT9 : Hid (Blk w9 w4.heap.size 51 (cells8 a).toArray) := (hw9.below.block _ hT8.out.lt).trans hT8.out
  clear hw9
  go_wp2_with fail
  refine wp_region_class (Class w9) (by kernel_rfl) (by kernel_rfl) (Class.mk_ ((Below.refl _ _).drew)) ?_
  refine wpQuiet_load_row rfl 49 (.tmp 4) rfl w.heap.size rfl 49 ((headCells h).toArray) (0, 0) _ (fun w' hw' => (hw'.below.block _ hH9.out.lt).trans hH9.out) Tryd.underlying49 rfl hsz.out ?_
  (intro K hK; go_simp; refine hK _ ?_; clear hK K)
  refine wpQuiet_load_row rfl 51 (.tmp 12) rfl w4.heap.size rfl 51 ((cells8 a).toArray) (0, 0) _ (fun w' hw' => (hw'.below.block _ hT9.out.lt).trans hT9.out) Tryd.underlying51 rfl asz.out ?_
  (intro K hK; go_simp; refine hK _ ?_; clear hK K)
  refine wpQuiet_move rfl (.tmp 2) rfl ?_
  (intro K hK; go_simp; refine hK _ ?_; clear hK K)
  refine wpQuiet_fn (v := .int .i64 (checkAns h a r)) (args := #[.agg (headCells h).toArray, .agg (cells8 (a)).toArray, .slice A2 m c2]) rfl _ _ rfl rfl Tryd.func33 (by kernel_rfl) (by kernel_rfl) (fun w' hw' => (check_any h okh.out a hal.out r m hm.out A2 c2 w' (hB.out.below (hb9.out.trans (hw'.below.mono hb9.out.size)) hB.out.1) (hr.out.below (hb9.out.trans (hw'.below.mono hb9.out.size))) hc2 hnil2.out).mono (fun e w'' ⟨he, hb⟩ => ⟨he, hw'.next hb⟩)) ?_
  (intro K hK; go_simp; refine hK _ ?_; clear hK K)
  refine wpQuiet_load_row rfl 49 (.tmp 4) rfl w.heap.size rfl 49 ((headCells h).toArray) (0, 0) _ (fun w' hw' => (hw'.below.block _ hH9.out.lt).trans hH9.out) Tryd.underlying49 rfl hsz.out ?_
  (intro K hK; go_simp; refine hK _ ?_; clear hK K)
  refine wpQuiet_load_row rfl 51 (.tmp 12) rfl w4.heap.size rfl 51 ((cells8 a).toArray) (0, 0) _ (fun w' hw' => (hw'.below.block _ hT9.out.lt).trans hT9.out) Tryd.underlying51 rfl asz.out ?_
  (intro K hK; go_simp; refine hK _ ?_; clear hK K)
  refine wpQuiet_move rfl (.tmp 2) rfl ?_
  (intro K hK; go_simp; refine hK _ ?_; clear hK K)
  refine wpQuiet_fn (v := .int .i64 (checkAns h a r)) (args := #[.agg (headCells h).toArray, .agg (cells8 (a)).toArray, .slice A2 m c2]) rfl _ _ rfl rfl Tryd.func34 (by kernel_rfl) (by kernel_rfl) (fun w' hw' => (refCheck_any h okh.out a hal.out r m hm.out A2 c2 w' (hr.out.below (hb9.out.trans (hw'.below.mono hb9.out.size))) hc2 hnil2.out).mono (fun e w'' ⟨he, hb⟩ => ⟨he, hw'.next hb⟩)) ?_
  (intro K hK; go_simp; refine hK _ ?_; clear hK K)
  refine wpQuiet_val (v := .bool true) rfl (fun w' hw' => by go_simp) ?_
  (intro K hK; go_simp; refine hK _ ?_; clear hK K)
  refine wpQuiet_move rfl (.tmp 76) rfl ?_
  (intro K hK; go_simp; refine hK _ ?_; clear hK K)
  refine wpQuiet_move rfl (.tmp 9) rfl ?_
  (intro K hK; go_simp; refine hK _ ?_; clear hK K)
  refine wpQuiet_move rfl (.tmp 1) rfl ?_
  (intro K hK; go_simp; refine hK _ ?_; clear hK K)
  refine wpQuiet_fn (v := .bool true) (args := #[.slice (some ⟨g, 0, none⟩) k (k + 100), .slice A k c]) rfl _ _ rfl rfl Tryd.func16 (by kernel_rfl) (by kernel_rfl) (fun w' hw' => (left_any q k hk.out hk47.out g A c w' (Law16.Roomy.below hY9.out hw'.below (Tab.lt hY9.out)) (hq.out.below (hb9.out.trans (hw'.below.mono hb9.out.size)))).mono (fun e w'' ⟨he, n, hn⟩ => ⟨he, by rw [hn]; exact hw'.next (below_drawn (Below.refl _ _) n)⟩)) ?_
  (intro K hK; go_simp; refine hK _ ?_; clear hK K)
  refine wpQuiet_val (v := .bool true) rfl (fun w' hw' => by go_simp) ?_
  (intro K hK; go_simp; refine hK _ ?_; clear hK K)
  refine wpQuiet_val (v := .bool true) rfl (fun w' hw' => by go_simp) ?_
  (intro K hK; go_simp; refine hK _ ?_; clear hK K)
  refine wpQuiet_nil ?_
  intro w10 hw10
  have hb10 : Hid (Below w.heap.size w w10) := hb9.out.trans (hw10.below.mono hb9.out.size)
  go_wp2_with fail
  go_ret
  exact ⟨rfl, hb10.out⟩
end Go.Proofs.YtngieimjlkpkaaaDoor.HeadSigns
