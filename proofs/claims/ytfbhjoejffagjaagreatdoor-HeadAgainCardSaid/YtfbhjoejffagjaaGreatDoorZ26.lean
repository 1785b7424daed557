/-
  Texts of the claim, put into one file: Check, RefCheck.
-/
import Derived.Test.YtfbhjoejffagjaaGreatDoorZ24
import Derived.Test.YtfbhjoejffagjaaGreatDoorZ25

namespace Go.Proofs.YtfbhjoejffagjaaGreatDoor.Check
open Go Go.RowKit Go.Proofs.YtfbhjoejffagjaaGreatDoor Mem Sha Bytes HashMem HashSum Go.Proofs.YtfbhjoejffagjaaGreatDoor.Append DigestMem Digest Mac HeadMem HeadID Sign HeadSign Signs DigEq SignEq QuietTail Grown

def checkAns (h : HeadD) (s q : Text) : Int := if keyB q.length = true ∧ idOf q = s.take 32 then (if rightB h then (if signOf h q = s then 0 else 161) else 1) else 160

set_option maxRecDepth 100000 in
set_option maxHeartbeats 1000000 in
theorem check_any (h : HeadD) (ok : h.Ok) (s : Text) (hs : s.length = 64) (q : Text) (k : Nat) (hk : q.length = k) (A : Option Addr) (c : Nat) (w : World) (hB : Base w) (hq : Reads w 1 A k (cells8 q)) (hc : k ≤ c) (hnil : A = none → k = 0 ∧ c = 0) :
  Calls Tryz.prog 51 #[.agg (headCells h).toArray, .agg (cells8 s).toArray, .slice A k c] w fun e w' => e = .returned (.int .i64 (checkAns h s q)) ∧ Below w.heap.size w w' := by
 obtain ⟨W, hW⟩ : ∃ W, Hid (W = (w.alloc (.cells (headCells h).toArray 36)).alloc (.cells (cells8 s).toArray 56)) := ⟨_, rfl⟩
 have hH : Hid (Blk W w.heap.size 36 (headCells h).toArray) := by show Blk _ _ _ _; rw [hW.out]; exact heap_alloc2_old w _ _
 have hS : Hid (Blk W (w.heap.size + 1) 56 (cells8 s).toArray) := by show Blk _ _ _ _; rw [hW.out]; exact heap_alloc2_new w _ _
 have hb0 : Hid (Below w.heap.size w W) := by show Below _ _ _; rw [hW.out]; exact ((Below.refl _ w).alloc (Nat.le_refl _) _).alloc (by simp) _
 have hcur : Hid (∀ w', Class W w' → Below w.heap.size w w') := fun w' hw' => hb0.out.trans (hw'.below.mono hb0.out.size)
 have hP : Hid (∀ w', Class W w' → ∀ j v, (cells8 (s.take 32))[j]? = some v → w'.cell? ⟨w.heap.size + 1, 0 + j, none⟩ = some v) := fun w' hw' j v hv => by
  have hb : Blk w' (w.heap.size + 1) 56 (cells8 s).toArray := (hw'.below.block _ hS.out.lt).trans hS.out
  rw [hb.cell, List.getElem?_toArray]
  exact half_a s j v hv
 have hsz : Hid ((Tryz.prog.info? 36).map (·.size) = some (headCells h).toArray.size) := by show _ = _; rw [List.size_toArray, headCells_len ok]; exact size98
 have ssz := Lib.hid (sign_size s hs)
 have hs32 : (s.take 32).length = 32 := by simp [hs]
 have z32 : Hid ((Tryz.prog.info? 34).map (·.size) = some (cells8 (s.take 32)).length) := by show _ = _; rw [cells8_len, hs32]; exact size31
 have hn := equal_dig (idOf q) (s.take 32) (idOf_len q) hs32
 have hn1 := sign_fb (signOf h q) s (signOf_len h q) hs
 have hn0 := sign_fa (signOf h q) s (signOf_len h q) hs
 have hst : (signOf h q).take 32 = idOf q := by unfold signOf; rw [List.take_append_of_le_length (by rw [idOf_len]; exact Nat.le_refl _), List.take_of_length_le (by rw [idOf_len]; exact Nat.le_refl _)]
 have hse := half_eq (signOf h q) s
 rw [hst] at hse
 replace hk := Lib.hid hk
 replace hB := Lib.hid hB
 replace hq := Lib.hid hq
 replace hnil := Lib.hid hnil
 have okh := Lib.hid ok
 clear ok hs hs32
 by_cases hkey : keyB k = true
 ·have hkk := keyB_yes hkey
  have hkeyh := Lib.hid hkey
  by_cases hid : idOf q = s.take 32
  ·have hne : Hid (∀ w, (Op.equalIn 10000 34 (.agg (cells8 (idOf q)).toArray) (.agg (cells8 (s.take 32)).toArray)).run Tryz.prog w = .ok true w) := fun w => by rw [hn w, decide_eq_true hid]
   by_cases hr : rightB h = true
   ·have hrh := Lib.hid hr
    by_cases hsg : signOf h q = s
    ·have hans : Hid (checkAns h s q = 0) := by show _ = _; unfold checkAns; rw [hk.out, if_pos ⟨hkey, hid⟩, if_pos hr, if_pos hsg]
     have hna : Hid (∀ w, (Op.equalIn 9999 34 (.agg (List.take 32 (cells8 (signOf h q))).toArray) (.agg (List.take 32 (cells8 s)).toArray)).run Tryz.prog w = .ok true w) := fun w => by rw [hn0 w, hst, decide_eq_true hid]
     have hn2 : Hid (∀ w, (Op.equalIn 9999 34 (.agg (List.take 32 (List.drop 32 (cells8 (signOf h q)))).toArray) (.agg (List.take 32 (List.drop 32 (cells8 s))).toArray)).run Tryz.prog w = .ok true w) := fun w => by rw [hn1 w, decide_eq_true (hse.1 hsg).2]
     rw [hans.out]
     clear hkey hid hr hsg hn hn1 hn0 hse hst
     go_enter Tryz.func51, Tryz.ntmps51
     go_wp2_with fail
     change (Code.region _ _ _).wp _ _ _ ((w.alloc (.cells (headCells h).toArray 36)).alloc (.cells (cells8 s).toArray 56))
     rw [← hW.out]
     refine wp_region_class (Class W) (by kernel_rfl) (by kernel_rfl) (Class.mk_ ((Below.refl _ _).drew)) ?_
     refine wpQuiet_move rfl (.tmp 2) rfl ?_
     (intro K k; go_simp; apply k; clear k K)
     refine wpQuiet_fn (v := .bool true) (args := #[.slice A k c]) rfl _ _ rfl rfl Tryz.func21 (by kernel_rfl) (by kernel_rfl) (fun w' hw' => (isKey_any k A c w').mono (fun e w'' ⟨he, hb⟩ => ⟨by rw [he, hkeyh.out], by rw [hb]; exact hw'⟩)) ?_
     (intro K k; go_simp; apply k; clear k K)
     refine wpQuiet_val (v := .bool false) rfl (fun w' hw' => by go_simp) ?_
     (intro K k; go_simp; apply k; clear k K)
     refine wpQuiet_move rfl (.tmp 9) rfl ?_
     (intro K k; go_simp; apply k; clear k K)
     refine wpQuiet_move rfl (.tmp 2) rfl ?_
     (intro K k; go_simp; apply k; clear k K)
     refine wpQuiet_fn (v := .agg (cells8 (idOf q)).toArray) (args := #[.slice A k c]) rfl _ _ rfl rfl Tryz.func22 (by kernel_rfl) (by kernel_rfl) (fun w' hw' => (id_any q k hk.out A c w' (hB.out.below (hcur.out w' hw') hB.out.1) (hq.out.below (hcur.out w' hw')) hc (by omega) hnil.out).mono (fun e w'' ⟨he, hb⟩ => ⟨he, hw'.next hb⟩)) ?_
     (intro K k; go_simp; apply k; clear k K)
     refine wpQuiet_val (v := .pointer (some ⟨w.heap.size + 1, 0, none⟩)) rfl (fun w' hw' => by go_simp) ?_
     (intro K k; go_simp; apply k; clear k K)
     refine wpQuiet_load_part rfl 34 (.tmp 13) rfl (w.heap.size + 1) (0) rfl (cells8 (s.take 32)) _ (fun w' hw' => hP.out w' hw') Tryz.underlying34 rfl z32.out ?_
     (intro K k; go_simp; apply k; clear k K)
     refine wpQuiet_val (v := .bool false) rfl (fun w' hw' => by have hh := hne.out w'; go_simp) ?_
     (intro K k; go_simp; apply k; clear k K)
     refine wpQuiet_val (v := .bool false) rfl (fun w' hw' => by go_simp) ?_
     (intro K k; go_simp; apply k; clear k K)
     refine wpQuiet_nil ?_
     intro w1 hw1
     have hb1 : Hid (Below w.heap.size w w1) := hcur.out w1 hw1
     have hH1 : Hid (Blk w1 w.heap.size 36 (headCells h).toArray) := (hw1.below.block _ hH.out.lt).trans hH.out
     have hS1 : Hid (Blk w1 (w.heap.size + 1) 56 (cells8 s).toArray) := (hw1.below.block _ hS.out.lt).trans hS.out
     clear hw1
     go_wp2_with (first
      | ((with_reducible change wpList _ _ _ (⟨some 17, _, _, _, _, _⟩ :: _) _ _); refine wpList_load_row (o := ⟨some 17, _, _, _, _, _⟩) rfl 36 (.tmp 3) rfl (w.heap.size) rfl 36 ((headCells h).toArray) (0, 0) _ hH1.out Tryz.underlying36 rfl hsz.out ?_)
      | (go_at_call 63; refine (right_any h okh.out _).mono ?_; rw [hrh.out]; rintro e w2 ⟨rfl, hbr⟩; have hb2 : Hid (Below w.heap.size w w2) := hb1.out.trans (hbr.mono hb1.out.size); have hH2 : Hid (Blk w2 w.heap.size 36 (headCells h).toArray) := (hbr.block _ hH1.out.lt).trans hH1.out; have hS2 : Hid (Blk w2 (w.heap.size + 1) 56 (cells8 s).toArray) := (hbr.block _ hS1.out.lt).trans hS1.out; clear hbr))
     refine wp_region_class (Class w2) (by kernel_rfl) (by kernel_rfl) (Class.mk_ ((Below.refl _ _).drew)) ?_
     refine wpQuiet_load_row rfl 36 (.tmp 3) rfl w.heap.size rfl 36 ((headCells h).toArray) (0, 0) _ (fun w' hw' => (hw'.below.block _ hH2.out.lt).trans hH2.out) Tryz.underlying36 rfl hsz.out ?_
     (intro K k; go_simp; apply k; clear k K)
     refine wpQuiet_move rfl (.tmp 2) rfl ?_
     (intro K k; go_simp; apply k; clear k K)
     refine wpQuiet_fn (v := .agg (cells8 (signOf h q)).toArray) (args := #[.agg (headCells h).toArray, .slice A k c]) rfl _ _ rfl rfl Tryz.func82 (by kernel_rfl) (by kernel_rfl) (fun w' hw' => (sign_any h okh.out hrh.out q k hk.out hkk.2 A c w' (hB.out.below (hb2.out.trans (hw'.below.mono hb2.out.size)) hB.out.1) (hq.out.below (hb2.out.trans (hw'.below.mono hb2.out.size))) hc hnil.out).mono (fun e w'' ⟨he, hb⟩ => ⟨he, hw'.next hb⟩)) ?_
     (intro K k; go_simp; apply k; clear k K)
     refine wpQuiet_load_row rfl 56 (.tmp 4) rfl (w.heap.size + 1) rfl 56 ((cells8 s).toArray) (0, 0) _ (fun w' hw' => (hw'.below.block _ hS2.out.lt).trans hS2.out) Tryz.underlying56 rfl ssz.out ?_
     (intro K k; go_simp; apply k; clear k K)
     refine wpQuiet_val (v := .bool false) rfl (fun w' hw' => by have hh := hna.out w'; have hh2 := hn2.out w'; go_simp) ?_
     (intro K k; go_simp; apply k; clear k K)
     refine wpQuiet_nil ?_
     intro w3 hw3
     have hb3 : Hid (Below w.heap.size w w3) := hb2.out.trans (hw3.below.mono hb2.out.size)
     go_wp2_with fail
     go_ret
     exact ⟨rfl, hb3.out⟩
    ·have hans : Hid (checkAns h s q = 161) := by show _ = _; unfold checkAns; rw [hk.out, if_pos ⟨hkey, hid⟩, if_pos hr, if_neg hsg]
     have hna : Hid (∀ w, (Op.equalIn 9999 34 (.agg (List.take 32 (cells8 (signOf h q))).toArray) (.agg (List.take 32 (cells8 s)).toArray)).run Tryz.prog w = .ok true w) := fun w => by rw [hn0 w, hst, decide_eq_true hid]
     have hn2 : Hid (∀ w, (Op.equalIn 9999 34 (.agg (List.take 32 (List.drop 32 (cells8 (signOf h q)))).toArray) (.agg (List.take 32 (List.drop 32 (cells8 s))).toArray)).run Tryz.prog w = .ok false w) := fun w => by rw [hn1 w, decide_eq_false (fun h2 => hsg (hse.2 ⟨hid, h2⟩))]
     rw [hans.out]
     clear hkey hid hr hsg hn hn1 hn0 hse hst
     go_enter Tryz.func51, Tryz.ntmps51
     go_wp2_with fail
     change (Code.region _ _ _).wp _ _ _ ((w.alloc (.cells (headCells h).toArray 36)).alloc (.cells (cells8 s).toArray 56))
     rw [← hW.out]
     refine wp_region_class (Class W) (by kernel_rfl) (by kernel_rfl) (Class.mk_ ((Below.refl _ _).drew)) ?_
     refine wpQuiet_move rfl (.tmp 2) rfl ?_
     (intro K k; go_simp; apply k; clear k K)
     refine wpQuiet_fn (v := .bool true) (args := #[.slice A k c]) rfl _ _ rfl rfl Tryz.func21 (by kernel_rfl) (by kernel_rfl) (fun w' hw' => (isKey_any k A c w').mono (fun e w'' ⟨he, hb⟩ => ⟨by rw [he, hkeyh.out], by rw [hb]; exact hw'⟩)) ?_
     (intro K k; go_simp; apply k; clear k K)
     refine wpQuiet_val (v := .bool false) rfl (fun w' hw' => by go_simp) ?_
     (intro K k; go_simp; apply k; clear k K)
     refine wpQuiet_move rfl (.tmp 9) rfl ?_
     (intro K k; go_simp; apply k; clear k K)
     refine wpQuiet_move rfl (.tmp 2) rfl ?_
     (intro K k; go_simp; apply k; clear k K)
     refine wpQuiet_fn (v := .agg (cells8 (idOf q)).toArray) (args := #[.slice A k c]) rfl _ _ rfl rfl Tryz.func22 (by kernel_rfl) (by kernel_rfl) (fun w' hw' => (id_any q k hk.out A c w' (hB.out.below (hcur.out w' hw') hB.out.1) (hq.out.below (hcur.out w' hw')) hc (by omega) hnil.out).mono (fun e w'' ⟨he, hb⟩ => ⟨he, hw'.next hb⟩)) ?_
     (intro K k; go_simp; apply k; clear k K)
     refine wpQuiet_val (v := .pointer (some ⟨w.heap.size + 1, 0, none⟩)) rfl (fun w' hw' => by go_simp) ?_
     (intro K k; go_simp; apply k; clear k K)
     refine wpQuiet_load_part rfl 34 (.tmp 13) rfl (w.heap.size + 1) (0) rfl (cells8 (s.take 32)) _ (fun w' hw' => hP.out w' hw') Tryz.underlying34 rfl z32.out ?_
     (intro K k; go_simp; apply k; clear k K)
     refine wpQuiet_val (v := .bool false) rfl (fun w' hw' => by have hh := hne.out w'; go_simp) ?_
     (intro K k; go_simp; apply k; clear k K)
     refine wpQuiet_val (v := .bool false) rfl (fun w' hw' => by go_simp) ?_
     (intro K k; go_simp; apply k; clear k K)
     refine wpQuiet_nil ?_
     intro w1 hw1
     have hb1 : Hid (Below w.heap.size w w1) := hcur.out w1 hw1
     have hH1 : Hid (Blk w1 w.heap.size 36 (headCells h).toArray) := (hw1.below.block _ hH.out.lt).trans hH.out
     have hS1 : Hid (Blk w1 (w.heap.size + 1) 56 (cells8 s).toArray) := (hw1.below.block _ hS.out.lt).trans hS.out
     clear hw1
     go_wp2_with (first
      | ((with_reducible change wpList _ _ _ (⟨some 17, _, _, _, _, _⟩ :: _) _ _); refine wpList_load_row (o := ⟨some 17, _, _, _, _, _⟩) rfl 36 (.tmp 3) rfl (w.heap.size) rfl 36 ((headCells h).toArray) (0, 0) _ hH1.out Tryz.underlying36 rfl hsz.out ?_)
      | (go_at_call 63; refine (right_any h okh.out _).mono ?_; rw [hrh.out]; rintro e w2 ⟨rfl, hbr⟩; have hb2 : Hid (Below w.heap.size w w2) := hb1.out.trans (hbr.mono hb1.out.size); have hH2 : Hid (Blk w2 w.heap.size 36 (headCells h).toArray) := (hbr.block _ hH1.out.lt).trans hH1.out; have hS2 : Hid (Blk w2 (w.heap.size + 1) 56 (cells8 s).toArray) := (hbr.block _ hS1.out.lt).trans hS1.out; clear hbr))
     refine wp_region_class (Class w2) (by kernel_rfl) (by kernel_rfl) (Class.mk_ ((Below.refl _ _).drew)) ?_
     refine wpQuiet_load_row rfl 36 (.tmp 3) rfl w.heap.size rfl 36 ((headCells h).toArray) (0, 0) _ (fun w' hw' => (hw'.below.block _ hH2.out.lt).trans hH2.out) Tryz.underlying36 rfl hsz.out ?_
     (intro K k; go_simp; apply k; clear k K)
     refine wpQuiet_move rfl (.tmp 2) rfl ?_
     (intro K k; go_simp; apply k; clear k K)
     refine wpQuiet_fn (v := .agg (cells8 (signOf h q)).toArray) (args := #[.agg (headCells h).toArray, .slice A k c]) rfl _ _ rfl rfl Tryz.func82 (by kernel_rfl) (by kernel_rfl) (fun w' hw' => (sign_any h okh.out hrh.out q k hk.out hkk.2 A c w' (hB.out.below (hb2.out.trans (hw'.below.mono hb2.out.size)) hB.out.1) (hq.out.below (hb2.out.trans (hw'.below.mono hb2.out.size))) hc hnil.out).mono (fun e w'' ⟨he, hb⟩ => ⟨he, hw'.next hb⟩)) ?_
     (intro K k; go_simp; apply k; clear k K)
     refine wpQuiet_load_row rfl 56 (.tmp 4) rfl (w.heap.size + 1) rfl 56 ((cells8 s).toArray) (0, 0) _ (fun w' hw' => (hw'.below.block _ hS2.out.lt).trans hS2.out) Tryz.underlying56 rfl ssz.out ?_
     (intro K k; go_simp; apply k; clear k K)
     refine wpQuiet_val (v := .bool true) rfl (fun w' hw' => by have hh := hna.out w'; have hh2 := hn2.out w'; go_simp) ?_
     (intro K k; go_simp; apply k; clear k K)
     refine wpQuiet_nil ?_
     intro w3 hw3
     have hb3 : Hid (Below w.heap.size w w3) := hb2.out.trans (hw3.below.mono hb2.out.size)
     go_wp2_with fail
     go_ret
     exact ⟨rfl, hb3.out⟩
   ·have hrh : Hid (rightB h = false) := by show _ = _; simpa using hr
    have hans : Hid (checkAns h s q = 1) := by show _ = _; unfold checkAns; rw [hk.out, if_pos ⟨hkey, hid⟩, if_neg hr]
    rw [hans.out]
    clear hkey hid hr hn hn1 hn0 hse hst
    go_enter Tryz.func51, Tryz.ntmps51
    go_wp2_with fail
    change (Code.region _ _ _).wp _ _ _ ((w.alloc (.cells (headCells h).toArray 36)).alloc (.cells (cells8 s).toArray 56))
    rw [← hW.out]
    refine wp_region_class (Class W) (by kernel_rfl) (by kernel_rfl) (Class.mk_ ((Below.refl _ _).drew)) ?_
    refine wpQuiet_move rfl (.tmp 2) rfl ?_
    (intro K k; go_simp; apply k; clear k K)
    refine wpQuiet_fn (v := .bool true) (args := #[.slice A k c]) rfl _ _ rfl rfl Tryz.func21 (by kernel_rfl) (by kernel_rfl) (fun w' hw' => (isKey_any k A c w').mono (fun e w'' ⟨he, hb⟩ => ⟨by rw [he, hkeyh.out], by rw [hb]; exact hw'⟩)) ?_
    (intro K k; go_simp; apply k; clear k K)
    refine wpQuiet_val (v := .bool false) rfl (fun w' hw' => by go_simp) ?_
    (intro K k; go_simp; apply k; clear k K)
    refine wpQuiet_move rfl (.tmp 9) rfl ?_
    (intro K k; go_simp; apply k; clear k K)
    refine wpQuiet_move rfl (.tmp 2) rfl ?_
    (intro K k; go_simp; apply k; clear k K)
    refine wpQuiet_fn (v := .agg (cells8 (idOf q)).toArray) (args := #[.slice A k c]) rfl _ _ rfl rfl Tryz.func22 (by kernel_rfl) (by kernel_rfl) (fun w' hw' => (id_any q k hk.out A c w' (hB.out.below (hcur.out w' hw') hB.out.1) (hq.out.below (hcur.out w' hw')) hc (by omega) hnil.out).mono (fun e w'' ⟨he, hb⟩ => ⟨he, hw'.next hb⟩)) ?_
    (intro K k; go_simp; apply k; clear k K)
    refine wpQuiet_val (v := .pointer (some ⟨w.heap.size + 1, 0, none⟩)) rfl (fun w' hw' => by go_simp) ?_
    (intro K k; go_simp; apply k; clear k K)
    refine wpQuiet_load_part rfl 34 (.tmp 13) rfl (w.heap.size + 1) (0) rfl (cells8 (s.take 32)) _ (fun w' hw' => hP.out w' hw') Tryz.underlying34 rfl z32.out ?_
    (intro K k; go_simp; apply k; clear k K)
    refine wpQuiet_val (v := .bool false) rfl (fun w' hw' => by have hh := hne.out w'; go_simp) ?_
    (intro K k; go_simp; apply k; clear k K)
    refine wpQuiet_val (v := .bool false) rfl (fun w' hw' => by go_simp) ?_
    (intro K k; go_simp; apply k; clear k K)
    refine wpQuiet_nil ?_
    intro w1 hw1
    have hb1 : Hid (Below w.heap.size w w1) := hcur.out w1 hw1
    have hH1 : Hid (Blk w1 w.heap.size 36 (headCells h).toArray) := (hw1.below.block _ hH.out.lt).trans hH.out
    have hS1 : Hid (Blk w1 (w.heap.size + 1) 56 (cells8 s).toArray) := (hw1.below.block _ hS.out.lt).trans hS.out
    clear hw1
    go_wp2_with (first
     | ((with_reducible change wpList _ _ _ (⟨some 17, _, _, _, _, _⟩ :: _) _ _); refine wpList_load_row (o := ⟨some 17, _, _, _, _, _⟩) rfl 36 (.tmp 3) rfl (w.heap.size) rfl 36 ((headCells h).toArray) (0, 0) _ hH1.out Tryz.underlying36 rfl hsz.out ?_)
     | (go_at_call 63; refine (right_any h okh.out _).mono ?_; rw [hrh.out]; rintro e w2 ⟨rfl, hbr⟩; have hb2 : Hid (Below w.heap.size w w2) := hb1.out.trans (hbr.mono hb1.out.size); have hH2 : Hid (Blk w2 w.heap.size 36 (headCells h).toArray) := (hbr.block _ hH1.out.lt).trans hH1.out; have hS2 : Hid (Blk w2 (w.heap.size + 1) 56 (cells8 s).toArray) := (hbr.block _ hS1.out.lt).trans hS1.out; clear hbr))
    go_ret
    exact ⟨rfl, hb2.out⟩
  ·have hne : Hid (∀ w, (Op.equalIn 10000 34 (.agg (cells8 (idOf q)).toArray) (.agg (cells8 (s.take 32)).toArray)).run Tryz.prog w = .ok false w) := fun w => by rw [hn w, decide_eq_false hid]
   have hans : Hid (checkAns h s q = 160) := by show _ = _; unfold checkAns; rw [if_neg (fun h => hid h.2)]
   rw [hans.out]
   clear hkey hid hn hn1 hn0 hse hst
   go_enter Tryz.func51, Tryz.ntmps51
   go_wp2_with fail
   change (Code.region _ _ _).wp _ _ _ ((w.alloc (.cells (headCells h).toArray 36)).alloc (.cells (cells8 s).toArray 56))
   rw [← hW.out]
   refine wp_region_class (Class W) (by kernel_rfl) (by kernel_rfl) (Class.mk_ ((Below.refl _ _).drew)) ?_
   refine wpQuiet_move rfl (.tmp 2) rfl ?_
   (intro K k; go_simp; apply k; clear k K)
   refine wpQuiet_fn (v := .bool true) (args := #[.slice A k c]) rfl _ _ rfl rfl Tryz.func21 (by kernel_rfl) (by kernel_rfl) (fun w' hw' => (isKey_any k A c w').mono (fun e w'' ⟨he, hb⟩ => ⟨by rw [he, hkeyh.out], by rw [hb]; exact hw'⟩)) ?_
   (intro K k; go_simp; apply k; clear k K)
   refine wpQuiet_val (v := .bool false) rfl (fun w' hw' => by go_simp) ?_
   (intro K k; go_simp; apply k; clear k K)
   refine wpQuiet_move rfl (.tmp 9) rfl ?_
   (intro K k; go_simp; apply k; clear k K)
   refine wpQuiet_move rfl (.tmp 2) rfl ?_
   (intro K k; go_simp; apply k; clear k K)
   refine wpQuiet_fn (v := .agg (cells8 (idOf q)).toArray) (args := #[.slice A k c]) rfl _ _ rfl rfl Tryz.func22 (by kernel_rfl) (by kernel_rfl) (fun w' hw' => (id_any q k hk.out A c w' (hB.out.below (hcur.out w' hw') hB.out.1) (hq.out.below (hcur.out w' hw')) hc (by omega) hnil.out).mono (fun e w'' ⟨he, hb⟩ => ⟨he, hw'.next hb⟩)) ?_
   (intro K k; go_simp; apply k; clear k K)
   refine wpQuiet_val (v := .pointer (some ⟨w.heap.size + 1, 0, none⟩)) rfl (fun w' hw' => by go_simp) ?_
   (intro K k; go_simp; apply k; clear k K)
   refine wpQuiet_load_part rfl 34 (.tmp 13) rfl (w.heap.size + 1) (0) rfl (cells8 (s.take 32)) _ (fun w' hw' => hP.out w' hw') Tryz.underlying34 rfl z32.out ?_
   (intro K k; go_simp; apply k; clear k K)
   refine wpQuiet_val (v := .bool true) rfl (fun w' hw' => by have hh := hne.out w'; go_simp) ?_
   (intro K k; go_simp; apply k; clear k K)
   refine wpQuiet_val (v := .bool true) rfl (fun w' hw' => by go_simp) ?_
   (intro K k; go_simp; apply k; clear k K)
   refine wpQuiet_nil ?_
   intro w1 hw1
   have hb1 : Hid (Below w.heap.size w w1) := hcur.out w1 hw1
   go_wp2_with fail
   go_ret
   exact ⟨rfl, hb1.out⟩
 ·have hans : Hid (checkAns h s q = 160) := by show _ = _; unfold checkAns; rw [hk.out, if_neg (fun h => hkey h.1)]
  rw [hans.out]
  have hkeyh : Hid (keyB k = false) := by show _ = _; simpa using hkey
  clear hkey hn hn1 hn0 hse hst
  go_enter Tryz.func51, Tryz.ntmps51
  go_wp2_with fail
  change (Code.region _ _ _).wp _ _ _ ((w.alloc (.cells (headCells h).toArray 36)).alloc (.cells (cells8 s).toArray 56))
  rw [← hW.out]
  refine wp_region_class (Class W) (by kernel_rfl) (by kernel_rfl) (Class.mk_ ((Below.refl _ _).drew)) ?_
  refine wpQuiet_move rfl (.tmp 2) rfl ?_
  (intro K k; go_simp; apply k; clear k K)
  refine wpQuiet_fn (v := .bool false) (args := #[.slice A k c]) rfl _ _ rfl rfl Tryz.func21 (by kernel_rfl) (by kernel_rfl) (fun w' hw' => (isKey_any k A c w').mono (fun e w'' ⟨he, hb⟩ => ⟨by rw [he, hkeyh.out], by rw [hb]; exact hw'⟩)) ?_
  (intro K k; go_simp; apply k; clear k K)
  refine wpQuiet_val (v := .bool true) rfl (fun w' hw' => by go_simp) ?_
  (intro K k; go_simp; apply k; clear k K)
  refine wpQuiet_move rfl (.tmp 9) rfl ?_
  (intro K k; go_simp; apply k; clear k K)
  refine wpQuiet_skip_ rfl ?_
  (intro K k; go_simp; apply k; clear k K)
  refine wpQuiet_skip_ rfl ?_
  (intro K k; go_simp; apply k; clear k K)
  refine wpQuiet_skip_ rfl ?_
  (intro K k; go_simp; apply k; clear k K)
  refine wpQuiet_skip_ rfl ?_
  (intro K k; go_simp; apply k; clear k K)
  refine wpQuiet_skip_ rfl ?_
  (intro K k; go_simp; apply k; clear k K)
  refine wpQuiet_val (v := .bool true) rfl (fun w' hw' => by go_simp) ?_
  (intro K k; go_simp; apply k; clear k K)
  refine wpQuiet_nil ?_
  intro w1 hw1
  have hb1 : Hid (Below w.heap.size w w1) := hcur.out w1 hw1
  go_wp2_with fail
  go_ret
  exact ⟨rfl, hb1.out⟩
end Go.Proofs.YtfbhjoejffagjaaGreatDoor.Check

namespace Go.Proofs.YtfbhjoejffagjaaGreatDoor.RefCheck
open Go Go.RowKit Go.Proofs.YtfbhjoejffagjaaGreatDoor Mem Sha Bytes HashMem HashSum Go.Proofs.YtfbhjoejffagjaaGreatDoor.Append DigestMem Digest Mac HeadMem HeadID Sign HeadSign Signs RefSigns DigEq SignEq QuietTail Grown Held Check

set_option maxRecDepth 100000 in
set_option maxHeartbeats 1000000 in
theorem refCheck_any (h : HeadD) (ok : h.Ok) (s : Text) (hs : s.length = 64) (q : Text) (k : Nat) (hk : q.length = k) (A : Option Addr) (c : Nat) (w : World) (hq : Reads w 1 A k (cells8 q)) (hc : k ≤ c) (hnil : A = none → k = 0 ∧ c = 0) :
  Calls Tryz.prog 52 #[.agg (headCells h).toArray, .agg (cells8 s).toArray, .slice A k c] w fun e w' => e = .returned (.int .i64 (checkAns h s q)) ∧ Below w.heap.size w w' := by
 have y1 : Hid ((Tryz.prog.info? 34).map (·.size) = some (cells8 ((signOf h q).drop 32)).length) := by show _ = _; rw [cells8_len, List.length_drop, signOf_len]; exact size31
 have y2 : Hid ((Tryz.prog.info? 34).map (·.size) = some (cells8 (s.drop 32)).length) := by show _ = _; rw [cells8_len, List.length_drop, hs]; exact size31
 have hm := equal_dig ((signOf h q).drop 32) (s.drop 32) (by rw [List.length_drop, signOf_len]) (by rw [List.length_drop, hs])
 obtain ⟨W, hW⟩ : ∃ W, Hid (W = (w.alloc (.cells (headCells h).toArray 36)).alloc (.cells (cells8 s).toArray 56)) := ⟨_, rfl⟩
 have hH : Hid (Blk W w.heap.size 36 (headCells h).toArray) := by show Blk _ _ _ _; rw [hW.out]; exact heap_alloc2_old w _ _
 have hS : Hid (Blk W (w.heap.size + 1) 56 (cells8 s).toArray) := by show Blk _ _ _ _; rw [hW.out]; exact heap_alloc2_new w _ _
 have hb0 : Hid (Below w.heap.size w W) := by show Below _ _ _; rw [hW.out]; exact ((Below.refl _ w).alloc (Nat.le_refl _) _).alloc (by simp) _
 have hcur : Hid (∀ w', Class W w' → Below w.heap.size w w') := fun w' hw' => hb0.out.trans (hw'.below.mono hb0.out.size)
 have hP : Hid (∀ w', Class W w' → ∀ j v, (cells8 (s.take 32))[j]? = some v → w'.cell? ⟨w.heap.size + 1, 0 + j, none⟩ = some v) := fun w' hw' j v hv => by
  have hb : Blk w' (w.heap.size + 1) 56 (cells8 s).toArray := (hw'.below.block _ hS.out.lt).trans hS.out
  rw [hb.cell, List.getElem?_toArray]
  exact half_a s j v hv
 have hsz : Hid ((Tryz.prog.info? 36).map (·.size) = some (headCells h).toArray.size) := by show _ = _; rw [List.size_toArray, headCells_len ok]; exact size98
 have ssz := Lib.hid (sign_size s hs)
 have hs32 : (s.take 32).length = 32 := by simp [hs]
 have z32 : Hid ((Tryz.prog.info? 34).map (·.size) = some (cells8 (s.take 32)).length) := by show _ = _; rw [cells8_len, hs32]; exact size31
 have hn := equal_dig (idOf q) (s.take 32) (idOf_len q) hs32
 have hn1 := sign_fb (signOf h q) s (signOf_len h q) hs
 have hn0 := sign_fa (signOf h q) s (signOf_len h q) hs
 have hst : (signOf h q).take 32 = idOf q := by unfold signOf; rw [List.take_append_of_le_length (by rw [idOf_len]; exact Nat.le_refl _), List.take_of_length_le (by rw [idOf_len]; exact Nat.le_refl _)]
 have hse := half_eq (signOf h q) s
 rw [hst] at hse
 replace hk := Lib.hid hk
 replace hq := Lib.hid hq
 replace hnil := Lib.hid hnil
 have okh := Lib.hid ok
 clear ok hs hs32 hn0 hn1
 by_cases hkey : keyB k = true
 ·have hkk := keyB_yes hkey
  have h1 : ¬ ((k : Int) < 1) := by omega
  have h2 : ¬ ((64 : Int) < (k : Int)) := by omega
  by_cases hid : idOf q = s.take 32
  ·have hne : Hid (∀ w, (Op.equalIn 10000 34 (.agg (cells8 (idOf q)).toArray) (.agg (cells8 (s.take 32)).toArray)).run Tryz.prog w = .ok true w) := fun w => by rw [hn w, decide_eq_true hid]
   by_cases hr : rightB h = true
   ·have hsa : Hid (signAns h q = (signOf h q, 0)) := by show _ = _; unfold signAns; rw [hk.out, if_pos hkey, if_pos hr]
    by_cases hsg : signOf h q = s
    ·have hans : Hid (checkAns h s q = 0) := by show _ = _; unfold checkAns; rw [hk.out, if_pos ⟨hkey, hid⟩, if_pos hr, if_pos hsg]
     have hn2 : Hid (∀ w, (Op.equalIn 10000 34 (.agg (cells8 ((signOf h q).drop 32)).toArray) (.agg (cells8 (s.drop 32)).toArray)).run Tryz.prog w = .ok true w) := fun w => by rw [hm w, decide_eq_true (hse.1 hsg).2]
     rw [hans.out]
     clear hkey hid hr hsg hn hm hse hst
     go_enter Tryz.func52, Tryz.ntmps52
     go_wp2_with fail
     change (Code.region _ _ _).wp _ _ _ ((w.alloc (.cells (headCells h).toArray 36)).alloc (.cells (cells8 s).toArray 56))
     rw [← hW.out]
     refine wp_region_class (Class W) (by kernel_rfl) (by kernel_rfl) (Class.mk_ ((Below.refl _ _).drew)) ?_
     refine wpQuiet_move rfl (.tmp 2) rfl ?_
     (intro K k; go_simp; apply k; clear k K)
     refine wpQuiet_val (v := .int .i64 (k : Int)) rfl (fun w' hw' => by go_simp) ?_
     (intro K k; go_simp; apply k; clear k K)
     refine wpQuiet_val (v := .bool false) rfl (fun w' hw' => by go_simp) ?_
     (intro K k; go_simp; apply k; clear k K)
     refine wpQuiet_move rfl (.tmp 11) rfl ?_
     (intro K k; go_simp; apply k; clear k K)
     refine wpQuiet_move rfl (.tmp 2) rfl ?_
     (intro K k; go_simp; apply k; clear k K)
     refine wpQuiet_val (v := .int .i64 (k : Int)) rfl (fun w' hw' => by go_simp) ?_
     (intro K k; go_simp; apply k; clear k K)
     refine wpQuiet_val (v := .bool false) rfl (fun w' hw' => by go_simp) ?_
     (intro K k; go_simp; apply k; clear k K)
     refine wpQuiet_val (v := .bool false) rfl (fun w' hw' => by go_simp) ?_
     (intro K k; go_simp; apply k; clear k K)
     refine wpQuiet_move rfl (.tmp 16) rfl ?_
     (intro K k; go_simp; apply k; clear k K)
     refine wpQuiet_move rfl (.tmp 2) rfl ?_
     (intro K k; go_simp; apply k; clear k K)
     refine wpQuiet_fn (v := .agg (cells8 (idOf q)).toArray) (args := #[.slice A k c]) rfl _ _ rfl rfl Tryz.func26 (by kernel_rfl) (by kernel_rfl) (fun w' hw' => (refid_any q k hk.out A c w' (hq.out.below (hcur.out w' hw')) hc (by omega) hnil.out).mono (fun e w'' ⟨he, hb⟩ => ⟨he, hw'.next hb⟩)) ?_
     (intro K k; go_simp; apply k; clear k K)
     refine wpQuiet_val (v := .pointer (some ⟨w.heap.size + 1, 0, none⟩)) rfl (fun w' hw' => by go_simp) ?_
     (intro K k; go_simp; apply k; clear k K)
     refine wpQuiet_load_part rfl 34 (.tmp 20) rfl (w.heap.size + 1) (0) rfl (cells8 (s.take 32)) _ (fun w' hw' => hP.out w' hw') Tryz.underlying34 rfl z32.out ?_
     (intro K k; go_simp; apply k; clear k K)
     refine wpQuiet_val (v := .bool false) rfl (fun w' hw' => by have hh := hne.out w'; go_simp) ?_
     (intro K k; go_simp; apply k; clear k K)
     refine wpQuiet_val (v := .bool false) rfl (fun w' hw' => by go_simp) ?_
     (intro K k; go_simp; apply k; clear k K)
     refine wpQuiet_nil ?_
     intro w1 hw1
     have hb1 : Hid (Below w.heap.size w w1) := hcur.out w1 hw1
     have hh2 := hn2.out
     have hH1 : Hid (Blk w1 w.heap.size 36 (headCells h).toArray) := (hw1.below.block _ hH.out.lt).trans hH.out
     have hS1 : Hid (Blk w1 (w.heap.size + 1) 56 (cells8 s).toArray) := (hw1.below.block _ hS.out.lt).trans hS.out
     have x1 := Lib.hid (sign_size _ (signAns_len h q))
     have x2 := Lib.hid (sign_zero _ (signAns_len h q))
     have x3 := Lib.hid (sign_one (signAns h q).1)
     rw [hsa.out] at x1 x2 x3
     clear hw1
     go_wp2_with (first
      | ((with_reducible change wpList _ _ _ (⟨some 25, _, _, _, _, _⟩ :: _) _ _); refine wpList_load_row (o := ⟨some 25, _, _, _, _, _⟩) rfl 36 (.tmp 3) rfl (w.heap.size) rfl 36 ((headCells h).toArray) (0, 0) _ hH1.out Tryz.underlying36 rfl hsz.out ?_)
      | (go_at_call 50; refine (refSign_any h okh.out q k hk.out A c w1 (hq.out.below hb1.out) hc hnil.out).mono ?_; rw [hsa.out]; rintro e w2 ⟨rfl, hbr⟩; have hb2 : Hid (Below w.heap.size w w2) := hb1.out.trans (hbr.mono hb1.out.size); have hS2 : Hid (Blk w2 (w.heap.size + 1) 56 (cells8 s).toArray) := (hbr.block _ hS1.out.lt).trans hS1.out; have hb3 : Hid (Below w.heap.size w (w2.alloc (.cells Z64 56))) := hb2.out.alloc hb2.out.size _; have hS3 : Hid (Blk (w2.alloc (.cells Z64 56)) (w.heap.size + 1) 56 (cells8 s).toArray) := hS2.out.alloc _; clear hbr)
      | ((with_reducible change wpList _ _ _ ({ dst := none, op := Op.store 56 _ _, type := _, pos := _, after := _, guard := _ } :: _) _ _); refine wpList_store_whole (o := ⟨none, _, _, _, _, _⟩) rfl 56 (.tmp 7) (.tmp 28) rfl w2.heap.size (cells8 (signOf h q)).toArray rfl rfl 56 Z64 (heap_alloc_new w2 _) x1.out x2.out x3.out ?_; intro w4 B4 k4; have hb4 : Hid (Below w.heap.size w w4) := hb3.out.trans (Kept.below_of k4 hb2.out.size hb3.out.size); have hS4 : Hid (Blk w4 (w.heap.size + 1) 56 (cells8 s).toArray) := hS3.out.kept k4 (by have := hS2.out.lt; omega); replace B4 := Lib.hid B4; clear k4)
      | ((with_reducible change wpList _ _ _ (⟨some 34, _, _, _, _, _⟩ :: _) _ _); refine wpList_load_part (o := ⟨some 34, _, _, _, _, _⟩) rfl 34 (.tmp 33) rfl (w2.heap.size) (32) rfl (cells8 ((signOf h q).drop 32)) _ (fun j v hv => by rw [B4.out.cell, List.getElem?_toArray]; exact half_b _ j v hv) Tryz.underlying34 rfl y1.out ?_)
      | ((with_reducible change wpList _ _ _ (⟨some 36, _, _, _, _, _⟩ :: _) _ _); refine wpList_load_part (o := ⟨some 36, _, _, _, _, _⟩) rfl 34 (.tmp 35) rfl ((w.heap.size + 1)) (32) rfl (cells8 (s.drop 32)) _ (fun j v hv => by rw [hS4.out.cell, List.getElem?_toArray]; exact half_b _ j v hv) Tryz.underlying34 rfl y2.out ?_))
     go_ret
     exact ⟨rfl, hb4.out⟩
    ·have hans : Hid (checkAns h s q = 161) := by show _ = _; unfold checkAns; rw [hk.out, if_pos ⟨hkey, hid⟩, if_pos hr, if_neg hsg]
     have hn2 : Hid (∀ w, (Op.equalIn 10000 34 (.agg (cells8 ((signOf h q).drop 32)).toArray) (.agg (cells8 (s.drop 32)).toArray)).run Tryz.prog w = .ok false w) := fun w => by rw [hm w, decide_eq_false (fun h2 => hsg (hse.2 ⟨hid, h2⟩))]
     rw [hans.out]
     clear hkey hid hr hsg hn hm hse hst
     go_enter Tryz.func52, Tryz.ntmps52
     go_wp2_with fail
     change (Code.region _ _ _).wp _ _ _ ((w.alloc (.cells (headCells h).toArray 36)).alloc (.cells (cells8 s).toArray 56))
     rw [← hW.out]
     refine wp_region_class (Class W) (by kernel_rfl) (by kernel_rfl) (Class.mk_ ((Below.refl _ _).drew)) ?_
     refine wpQuiet_move rfl (.tmp 2) rfl ?_
     (intro K k; go_simp; apply k; clear k K)
     refine wpQuiet_val (v := .int .i64 (k : Int)) rfl (fun w' hw' => by go_simp) ?_
     (intro K k; go_simp; apply k; clear k K)
     refine wpQuiet_val (v := .bool false) rfl (fun w' hw' => by go_simp) ?_
     (intro K k; go_simp; apply k; clear k K)
     refine wpQuiet_move rfl (.tmp 11) rfl ?_
     (intro K k; go_simp; apply k; clear k K)
     refine wpQuiet_move rfl (.tmp 2) rfl ?_
     (intro K k; go_simp; apply k; clear k K)
     refine wpQuiet_val (v := .int .i64 (k : Int)) rfl (fun w' hw' => by go_simp) ?_
     (intro K k; go_simp; apply k; clear k K)
     refine wpQuiet_val (v := .bool false) rfl (fun w' hw' => by go_simp) ?_
     (intro K k; go_simp; apply k; clear k K)
     refine wpQuiet_val (v := .bool false) rfl (fun w' hw' => by go_simp) ?_
     (intro K k; go_simp; apply k; clear k K)
     refine wpQuiet_move rfl (.tmp 16) rfl ?_
     (intro K k; go_simp; apply k; clear k K)
     refine wpQuiet_move rfl (.tmp 2) rfl ?_
     (intro K k; go_simp; apply k; clear k K)
     refine wpQuiet_fn (v := .agg (cells8 (idOf q)).toArray) (args := #[.slice A k c]) rfl _ _ rfl rfl Tryz.func26 (by kernel_rfl) (by kernel_rfl) (fun w' hw' => (refid_any q k hk.out A c w' (hq.out.below (hcur.out w' hw')) hc (by omega) hnil.out).mono (fun e w'' ⟨he, hb⟩ => ⟨he, hw'.next hb⟩)) ?_
     (intro K k; go_simp; apply k; clear k K)
     refine wpQuiet_val (v := .pointer (some ⟨w.heap.size + 1, 0, none⟩)) rfl (fun w' hw' => by go_simp) ?_
     (intro K k; go_simp; apply k; clear k K)
     refine wpQuiet_load_part rfl 34 (.tmp 20) rfl (w.heap.size + 1) (0) rfl (cells8 (s.take 32)) _ (fun w' hw' => hP.out w' hw') Tryz.underlying34 rfl z32.out ?_
     (intro K k; go_simp; apply k; clear k K)
     refine wpQuiet_val (v := .bool false) rfl (fun w' hw' => by have hh := hne.out w'; go_simp) ?_
     (intro K k; go_simp; apply k; clear k K)
     refine wpQuiet_val (v := .bool false) rfl (fun w' hw' => by go_simp) ?_
     (intro K k; go_simp; apply k; clear k K)
     refine wpQuiet_nil ?_
     intro w1 hw1
     have hb1 : Hid (Below w.heap.size w w1) := hcur.out w1 hw1
     have hh2 := hn2.out
     have hH1 : Hid (Blk w1 w.heap.size 36 (headCells h).toArray) := (hw1.below.block _ hH.out.lt).trans hH.out
     have hS1 : Hid (Blk w1 (w.heap.size + 1) 56 (cells8 s).toArray) := (hw1.below.block _ hS.out.lt).trans hS.out
     have x1 := Lib.hid (sign_size _ (signAns_len h q))
     have x2 := Lib.hid (sign_zero _ (signAns_len h q))
     have x3 := Lib.hid (sign_one (signAns h q).1)
     rw [hsa.out] at x1 x2 x3
     clear hw1
     go_wp2_with (first
      | ((with_reducible change wpList _ _ _ (⟨some 25, _, _, _, _, _⟩ :: _) _ _); refine wpList_load_row (o := ⟨some 25, _, _, _, _, _⟩) rfl 36 (.tmp 3) rfl (w.heap.size) rfl 36 ((headCells h).toArray) (0, 0) _ hH1.out Tryz.underlying36 rfl hsz.out ?_)
      | (go_at_call 50; refine (refSign_any h okh.out q k hk.out A c w1 (hq.out.below hb1.out) hc hnil.out).mono ?_; rw [hsa.out]; rintro e w2 ⟨rfl, hbr⟩; have hb2 : Hid (Below w.heap.size w w2) := hb1.out.trans (hbr.mono hb1.out.size); have hS2 : Hid (Blk w2 (w.heap.size + 1) 56 (cells8 s).toArray) := (hbr.block _ hS1.out.lt).trans hS1.out; have hb3 : Hid (Below w.heap.size w (w2.alloc (.cells Z64 56))) := hb2.out.alloc hb2.out.size _; have hS3 : Hid (Blk (w2.alloc (.cells Z64 56)) (w.heap.size + 1) 56 (cells8 s).toArray) := hS2.out.alloc _; clear hbr)
      | ((with_reducible change wpList _ _ _ ({ dst := none, op := Op.store 56 _ _, type := _, pos := _, after := _, guard := _ } :: _) _ _); refine wpList_store_whole (o := ⟨none, _, _, _, _, _⟩) rfl 56 (.tmp 7) (.tmp 28) rfl w2.heap.size (cells8 (signOf h q)).toArray rfl rfl 56 Z64 (heap_alloc_new w2 _) x1.out x2.out x3.out ?_; intro w4 B4 k4; have hb4 : Hid (Below w.heap.size w w4) := hb3.out.trans (Kept.below_of k4 hb2.out.size hb3.out.size); have hS4 : Hid (Blk w4 (w.heap.size + 1) 56 (cells8 s).toArray) := hS3.out.kept k4 (by have := hS2.out.lt; omega); replace B4 := Lib.hid B4; clear k4)
      | ((with_reducible change wpList _ _ _ (⟨some 34, _, _, _, _, _⟩ :: _) _ _); refine wpList_load_part (o := ⟨some 34, _, _, _, _, _⟩) rfl 34 (.tmp 33) rfl (w2.heap.size) (32) rfl (cells8 ((signOf h q).drop 32)) _ (fun j v hv => by rw [B4.out.cell, List.getElem?_toArray]; exact half_b _ j v hv) Tryz.underlying34 rfl y1.out ?_)
      | ((with_reducible change wpList _ _ _ (⟨some 36, _, _, _, _, _⟩ :: _) _ _); refine wpList_load_part (o := ⟨some 36, _, _, _, _, _⟩) rfl 34 (.tmp 35) rfl ((w.heap.size + 1)) (32) rfl (cells8 (s.drop 32)) _ (fun j v hv => by rw [hS4.out.cell, List.getElem?_toArray]; exact half_b _ j v hv) Tryz.underlying34 rfl y2.out ?_))
     go_ret
     exact ⟨rfl, hb4.out⟩
   ·have hsa : Hid (signAns h q = (noSign, 1)) := by show _ = _; unfold signAns; rw [hk.out, if_pos hkey, if_neg hr]
    have hans : Hid (checkAns h s q = 1) := by show _ = _; unfold checkAns; rw [hk.out, if_pos ⟨hkey, hid⟩, if_neg hr]
    rw [hans.out]
    clear hkey hid hr hn hm hse hst
    go_enter Tryz.func52, Tryz.ntmps52
    go_wp2_with fail
    change (Code.region _ _ _).wp _ _ _ ((w.alloc (.cells (headCells h).toArray 36)).alloc (.cells (cells8 s).toArray 56))
    rw [← hW.out]
    refine wp_region_class (Class W) (by kernel_rfl) (by kernel_rfl) (Class.mk_ ((Below.refl _ _).drew)) ?_
    refine wpQuiet_move rfl (.tmp 2) rfl ?_
    (intro K k; go_simp; apply k; clear k K)
    refine wpQuiet_val (v := .int .i64 (k : Int)) rfl (fun w' hw' => by go_simp) ?_
    (intro K k; go_simp; apply k; clear k K)
    refine wpQuiet_val (v := .bool false) rfl (fun w' hw' => by go_simp) ?_
    (intro K k; go_simp; apply k; clear k K)
    refine wpQuiet_move rfl (.tmp 11) rfl ?_
    (intro K k; go_simp; apply k; clear k K)
    refine wpQuiet_move rfl (.tmp 2) rfl ?_
    (intro K k; go_simp; apply k; clear k K)
    refine wpQuiet_val (v := .int .i64 (k : Int)) rfl (fun w' hw' => by go_simp) ?_
    (intro K k; go_simp; apply k; clear k K)
    refine wpQuiet_val (v := .bool false) rfl (fun w' hw' => by go_simp) ?_
    (intro K k; go_simp; apply k; clear k K)
    refine wpQuiet_val (v := .bool false) rfl (fun w' hw' => by go_simp) ?_
    (intro K k; go_simp; apply k; clear k K)
    refine wpQuiet_move rfl (.tmp 16) rfl ?_
    (intro K k; go_simp; apply k; clear k K)
    refine wpQuiet_move rfl (.tmp 2) rfl ?_
    (intro K k; go_simp; apply k; clear k K)
    refine wpQuiet_fn (v := .agg (cells8 (idOf q)).toArray) (args := #[.slice A k c]) rfl _ _ rfl rfl Tryz.func26 (by kernel_rfl) (by kernel_rfl) (fun w' hw' => (refid_any q k hk.out A c w' (hq.out.below (hcur.out w' hw')) hc (by omega) hnil.out).mono (fun e w'' ⟨he, hb⟩ => ⟨he, hw'.next hb⟩)) ?_
    (intro K k; go_simp; apply k; clear k K)
    refine wpQuiet_val (v := .pointer (some ⟨w.heap.size + 1, 0, none⟩)) rfl (fun w' hw' => by go_simp) ?_
    (intro K k; go_simp; apply k; clear k K)
    refine wpQuiet_load_part rfl 34 (.tmp 20) rfl (w.heap.size + 1) (0) rfl (cells8 (s.take 32)) _ (fun w' hw' => hP.out w' hw') Tryz.underlying34 rfl z32.out ?_
    (intro K k; go_simp; apply k; clear k K)
    refine wpQuiet_val (v := .bool false) rfl (fun w' hw' => by have hh := hne.out w'; go_simp) ?_
    (intro K k; go_simp; apply k; clear k K)
    refine wpQuiet_val (v := .bool false) rfl (fun w' hw' => by go_simp) ?_
    (intro K k; go_simp; apply k; clear k K)
    refine wpQuiet_nil ?_
    intro w1 hw1
    have hb1 : Hid (Below w.heap.size w w1) := hcur.out w1 hw1
    have hH1 : Hid (Blk w1 w.heap.size 36 (headCells h).toArray) := (hw1.below.block _ hH.out.lt).trans hH.out
    have hS1 : Hid (Blk w1 (w.heap.size + 1) 56 (cells8 s).toArray) := (hw1.below.block _ hS.out.lt).trans hS.out
    have x1 := Lib.hid (sign_size _ (signAns_len h q))
    have x2 := Lib.hid (sign_zero _ (signAns_len h q))
    have x3 := Lib.hid (sign_one (signAns h q).1)
    rw [hsa.out] at x1 x2 x3
    clear hw1
    go_wp2_with (first
     | ((with_reducible change wpList _ _ _ (⟨some 25, _, _, _, _, _⟩ :: _) _ _); refine wpList_load_row (o := ⟨some 25, _, _, _, _, _⟩) rfl 36 (.tmp 3) rfl (w.heap.size) rfl 36 ((headCells h).toArray) (0, 0) _ hH1.out Tryz.underlying36 rfl hsz.out ?_)
     | (go_at_call 50; refine (refSign_any h okh.out q k hk.out A c w1 (hq.out.below hb1.out) hc hnil.out).mono ?_; rw [hsa.out]; rintro e w2 ⟨rfl, hbr⟩; have hb2 : Hid (Below w.heap.size w w2) := hb1.out.trans (hbr.mono hb1.out.size); have hS2 : Hid (Blk w2 (w.heap.size + 1) 56 (cells8 s).toArray) := (hbr.block _ hS1.out.lt).trans hS1.out; have hb3 : Hid (Below w.heap.size w (w2.alloc (.cells Z64 56))) := hb2.out.alloc hb2.out.size _; have hS3 : Hid (Blk (w2.alloc (.cells Z64 56)) (w.heap.size + 1) 56 (cells8 s).toArray) := hS2.out.alloc _; clear hbr)
     | ((with_reducible change wpList _ _ _ ({ dst := none, op := Op.store 56 _ _, type := _, pos := _, after := _, guard := _ } :: _) _ _); refine wpList_store_whole (o := ⟨none, _, _, _, _, _⟩) rfl 56 (.tmp 7) (.tmp 28) rfl w2.heap.size (cells8 (noSign)).toArray rfl rfl 56 Z64 (heap_alloc_new w2 _) x1.out x2.out x3.out ?_; intro w4 B4 k4; have hb4 : Hid (Below w.heap.size w w4) := hb3.out.trans (Kept.below_of k4 hb2.out.size hb3.out.size); have hS4 : Hid (Blk w4 (w.heap.size + 1) 56 (cells8 s).toArray) := hS3.out.kept k4 (by have := hS2.out.lt; omega); replace B4 := Lib.hid B4; clear k4))
    go_ret
    exact ⟨rfl, hb4.out⟩
  ·have hne : Hid (∀ w, (Op.equalIn 10000 34 (.agg (cells8 (idOf q)).toArray) (.agg (cells8 (s.take 32)).toArray)).run Tryz.prog w = .ok false w) := fun w => by rw [hn w, decide_eq_false hid]
   have hans : Hid (checkAns h s q = 160) := by show _ = _; unfold checkAns; rw [if_neg (fun h => hid h.2)]
   rw [hans.out]
   clear hkey hid hn hm hse hst
   go_enter Tryz.func52, Tryz.ntmps52
   go_wp2_with fail
   change (Code.region _ _ _).wp _ _ _ ((w.alloc (.cells (headCells h).toArray 36)).alloc (.cells (cells8 s).toArray 56))
   rw [← hW.out]
   refine wp_region_class (Class W) (by kernel_rfl) (by kernel_rfl) (Class.mk_ ((Below.refl _ _).drew)) ?_
   refine wpQuiet_move rfl (.tmp 2) rfl ?_
   (intro K k; go_simp; apply k; clear k K)
   refine wpQuiet_val (v := .int .i64 (k : Int)) rfl (fun w' hw' => by go_simp) ?_
   (intro K k; go_simp; apply k; clear k K)
   refine wpQuiet_val (v := .bool false) rfl (fun w' hw' => by go_simp) ?_
   (intro K k; go_simp; apply k; clear k K)
   refine wpQuiet_move rfl (.tmp 11) rfl ?_
   (intro K k; go_simp; apply k; clear k K)
   refine wpQuiet_move rfl (.tmp 2) rfl ?_
   (intro K k; go_simp; apply k; clear k K)
   refine wpQuiet_val (v := .int .i64 (k : Int)) rfl (fun w' hw' => by go_simp) ?_
   (intro K k; go_simp; apply k; clear k K)
   refine wpQuiet_val (v := .bool false) rfl (fun w' hw' => by go_simp) ?_
   (intro K k; go_simp; apply k; clear k K)
   refine wpQuiet_val (v := .bool false) rfl (fun w' hw' => by go_simp) ?_
   (intro K k; go_simp; apply k; clear k K)
   refine wpQuiet_move rfl (.tmp 16) rfl ?_
   (intro K k; go_simp; apply k; clear k K)
   refine wpQuiet_move rfl (.tmp 2) rfl ?_
   (intro K k; go_simp; apply k; clear k K)
   refine wpQuiet_fn (v := .agg (cells8 (idOf q)).toArray) (args := #[.slice A k c]) rfl _ _ rfl rfl Tryz.func26 (by kernel_rfl) (by kernel_rfl) (fun w' hw' => (refid_any q k hk.out A c w' (hq.out.below (hcur.out w' hw')) hc (by omega) hnil.out).mono (fun e w'' ⟨he, hb⟩ => ⟨he, hw'.next hb⟩)) ?_
   (intro K k; go_simp; apply k; clear k K)
   refine wpQuiet_val (v := .pointer (some ⟨w.heap.size + 1, 0, none⟩)) rfl (fun w' hw' => by go_simp) ?_
   (intro K k; go_simp; apply k; clear k K)
   refine wpQuiet_load_part rfl 34 (.tmp 20) rfl (w.heap.size + 1) (0) rfl (cells8 (s.take 32)) _ (fun w' hw' => hP.out w' hw') Tryz.underlying34 rfl z32.out ?_
   (intro K k; go_simp; apply k; clear k K)
   refine wpQuiet_val (v := .bool true) rfl (fun w' hw' => by have hh := hne.out w'; go_simp) ?_
   (intro K k; go_simp; apply k; clear k K)
   refine wpQuiet_val (v := .bool true) rfl (fun w' hw' => by go_simp) ?_
   (intro K k; go_simp; apply k; clear k K)
   refine wpQuiet_nil ?_
   intro w1 hw1
   have hb1 : Hid (Below w.heap.size w w1) := hcur.out w1 hw1
   go_wp2_with fail
   go_ret
   exact ⟨rfl, hb1.out⟩
 ·have hans : Hid (checkAns h s q = 160) := by show _ = _; unfold checkAns; rw [hk.out, if_neg (fun h => hkey h.1)]
  rw [hans.out]
  clear hn hm hse hst
  by_cases h1 : (k : Int) < 1
  ·clear hkey
   go_enter Tryz.func52, Tryz.ntmps52
   go_wp2_with fail
   change (Code.region _ _ _).wp _ _ _ ((w.alloc (.cells (headCells h).toArray 36)).alloc (.cells (cells8 s).toArray 56))
   rw [← hW.out]
   refine wp_region_class (Class W) (by kernel_rfl) (by kernel_rfl) (Class.mk_ ((Below.refl _ _).drew)) ?_
   refine wpQuiet_move rfl (.tmp 2) rfl ?_
   (intro K k; go_simp; apply k; clear k K)
   refine wpQuiet_val (v := .int .i64 (k : Int)) rfl (fun w' hw' => by go_simp) ?_
   (intro K k; go_simp; apply k; clear k K)
   refine wpQuiet_val (v := .bool true) rfl (fun w' hw' => by go_simp) ?_
   (intro K k; go_simp; apply k; clear k K)
   refine wpQuiet_move rfl (.tmp 11) rfl ?_
   (intro K k; go_simp; apply k; clear k K)
   refine wpQuiet_skip_ rfl ?_
   (intro K k; go_simp; apply k; clear k K)
   refine wpQuiet_skip_ rfl ?_
   (intro K k; go_simp; apply k; clear k K)
   refine wpQuiet_skip_ rfl ?_
   (intro K k; go_simp; apply k; clear k K)
   refine wpQuiet_val (v := .bool true) rfl (fun w' hw' => by go_simp) ?_
   (intro K k; go_simp; apply k; clear k K)
   refine wpQuiet_move rfl (.tmp 16) rfl ?_
   (intro K k; go_simp; apply k; clear k K)
   refine wpQuiet_skip_ rfl ?_
   (intro K k; go_simp; apply k; clear k K)
   refine wpQuiet_skip_ rfl ?_
   (intro K k; go_simp; apply k; clear k K)
   refine wpQuiet_skip_ rfl ?_
   (intro K k; go_simp; apply k; clear k K)
   refine wpQuiet_skip_ rfl ?_
   (intro K k; go_simp; apply k; clear k K)
   refine wpQuiet_skip_ rfl ?_
   (intro K k; go_simp; apply k; clear k K)
   refine wpQuiet_val (v := .bool true) rfl (fun w' hw' => by go_simp) ?_
   (intro K k; go_simp; apply k; clear k K)
   refine wpQuiet_nil ?_
   intro w1 hw1
   have hb1 : Hid (Below w.heap.size w w1) := hcur.out w1 hw1
   go_wp2_with fail
   go_ret
   exact ⟨rfl, hb1.out⟩
  ·have h2 : (64 : Int) < (k : Int) := by
    simp [keyB] at hkey
    omega
   clear hkey
   go_enter Tryz.func52, Tryz.ntmps52
   go_wp2_with fail
   change (Code.region _ _ _).wp _ _ _ ((w.alloc (.cells (headCells h).toArray 36)).alloc (.cells (cells8 s).toArray 56))
   rw [← hW.out]
   refine wp_region_class (Class W) (by kernel_rfl) (by kernel_rfl) (Class.mk_ ((Below.refl _ _).drew)) ?_
   refine wpQuiet_move rfl (.tmp 2) rfl ?_
   (intro K k; go_simp; apply k; clear k K)
   refine wpQuiet_val (v := .int .i64 (k : Int)) rfl (fun w' hw' => by go_simp) ?_
   (intro K k; go_simp; apply k; clear k K)
   refine wpQuiet_val (v := .bool false) rfl (fun w' hw' => by go_simp) ?_
   (intro K k; go_simp; apply k; clear k K)
   refine wpQuiet_move rfl (.tmp 11) rfl ?_
   (intro K k; go_simp; apply k; clear k K)
   refine wpQuiet_move rfl (.tmp 2) rfl ?_
   (intro K k; go_simp; apply k; clear k K)
   refine wpQuiet_val (v := .int .i64 (k : Int)) rfl (fun w' hw' => by go_simp) ?_
   (intro K k; go_simp; apply k; clear k K)
   refine wpQuiet_val (v := .bool true) rfl (fun w' hw' => by go_simp) ?_
   (intro K k; go_simp; apply k; clear k K)
   refine wpQuiet_val (v := .bool true) rfl (fun w' hw' => by go_simp) ?_
   (intro K k; go_simp; apply k; clear k K)
   refine wpQuiet_move rfl (.tmp 16) rfl ?_
   (intro K k; go_simp; apply k; clear k K)
   refine wpQuiet_skip_ rfl ?_
   (intro K k; go_simp; apply k; clear k K)
   refine wpQuiet_skip_ rfl ?_
   (intro K k; go_simp; apply k; clear k K)
   refine wpQuiet_skip_ rfl ?_
   (intro K k; go_simp; apply k; clear k K)
   refine wpQuiet_skip_ rfl ?_
   (intro K k; go_simp; apply k; clear k K)
   refine wpQuiet_skip_ rfl ?_
   (intro K k; go_simp; apply k; clear k K)
   refine wpQuiet_val (v := .bool true) rfl (fun w' hw' => by go_simp) ?_
   (intro K k; go_simp; apply k; clear k K)
   refine wpQuiet_nil ?_
   intro w1 hw1
   have hb1 : Hid (Below w.heap.size w w1) := hcur.out w1 hw1
   go_wp2_with fail
   go_ret
   exact ⟨rfl, hb1.out⟩
end Go.Proofs.YtfbhjoejffagjaaGreatDoor.RefCheck
