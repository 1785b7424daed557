/-
  Texts of the claim, put into one file: Within, Law20.
-/
import Derived.Test.YtgldkfaiofkhbaaGreatDoorZ16
import Derived.Test.YtgldkfaiofkhbaaGreatDoorZ3
import Derived.Test.YtgldkfaiofkhbaaGreatDoorZ13
import Derived.Test.YtgldkfaiofkhbaaGreatDoorZ11
import Derived.Test.YtgldkfaiofkhbaaGreatDoorZ10

namespace Go.Proofs.YtgldkfaiofkhbaaGreatDoor.Within
open Go Go.RowKit Go.Proofs.YtgldkfaiofkhbaaGreatDoor Mem Sha Bytes HashMem DigestMem Digest RefCut QuietTail Grown TreeMem TreeRoot Held Book Book2 DigEq

def withinB (s : Int) (ds : List Text) : Bool := ds.all fun d => decide (cutTo d (clampN s) = d)
theorem within_no {s : Int} {ds : List Text} {i : Nat} {d : Text} (h : ds[i]? = some d) (hn : ¬ cutTo d (clampN s) = d) : withinB s ds = false := by
 unfold withinB
 rw [List.all_eq_false]
 exact ⟨d, List.mem_of_getElem? h, by simpa using hn⟩
theorem within_take {s : Int} {ds : List Text} {i : Nat} {d : Text} (h : ds[i]? = some d) (h2 : withinB s (ds.take i) = true) (hn : cutTo d (clampN s) = d) : withinB s (ds.take (i + 1)) = true := by
 unfold withinB at *
 rw [List.take_add_one, h, List.all_append, h2]
 simp [hn]
theorem neq_dg (x y : Text) (hx : x.length = 32) (hy : y.length = 32) (w : World) : (Op.equalIn 10000 23 (.agg (cells8 x).toArray) (.agg (cells8 y).toArray)).run Tryz.prog w = .ok (decide (x = y)) w := equal_dig x y hx hy w

set_option maxRecDepth 100000 in
set_option maxHeartbeats 1000000 in
theorem within_any (s : Int) (ds : List Text) (n : Nat) (hn47 : n < 140737488355328) (A : Option Addr) (c : Nat) (w : World) (hr : RdD w A n ds) :
  Calls Tryz.prog 134 #[.int .i64 s, .slice A n c] w fun e w' => e = .returned (.bool (withinB s ds)) ∧ Below w.heap.size w w' := by
 have hN : Hid ((n : Int) < 9223372036854775807) := by show _ < _; omega
 have hb0 : Hid (Below w.heap.size w w) := Below.refl _ _
 replace hr := Lib.hid hr
 clear hn47
 go_enter Tryz.func134, Tryz.ntmps134
 go_wp2_with fail
 go_loopw [9] (fun v wr => ∃ i : Nat, v = .int .i64 (i : Int) ∧ Hid (i ≤ n) ∧ Hid (withinB s (ds.take i) = true) ∧ Hid (Below w.heap.size w wr)) (fun v _ => n - (intOf v).toNat)
 case atStart => exact ⟨0, rfl, Nat.zero_le _, rfl, hb0.out⟩
 case round =>
  obtain ⟨i, rfl, hi, hok, hW⟩ := hrel
  by_cases hlt : i < n
  ·have hz : (i : Int) < (n : Int) := by omega
   have hz0 : (0 : Int) ≤ (i : Int) := by omega
   have hil : (i : Int) < 9223372036854775807 := by have := hN.out; omega
   obtain ⟨d, hd⟩ : ∃ d, ds[i]? = some d := ⟨_, List.getElem?_eq_getElem (by rw [hr.out.1]; exact hlt)⟩
   have hdl := Lib.hid (hr.out.2.1.at_ hd)
   have Fd := Lib.hid (fit (x := d) hdl.out)
   obtain ⟨b, o, rfl, hbw, hdc0⟩ := hr.out.at_ hd
   have hdc : Hid (∀ w', Below wr.heap.size wr w' → ∀ k v, (cells8 d)[k]? = some v → w'.cell? ⟨b, o + i * 32 + k, none⟩ = some v) := fun w' hb k v hv => ((hW.out.trans (hb.mono hW.out.size)).cell (p := ⟨b, o + i * 32 + k, none⟩) hbw).trans (hdc0 k v hv)
   obtain ⟨x, hx⟩ : ∃ x, Hid (cutTo d (clampN s) = x) := ⟨_, Lib.hid rfl⟩
   have hxl : Hid (x.length = 32) := by show _ = _; rw [← hx.out]; exact cutTo_len _ _ hdl.out (clampN_ok s).2
   have hq := Lib.hid (fun w => neq_dg x d hxl.out hdl.out w)
   have hno := Lib.hid (fun (h : ¬ x = d) => within_no (s := s) hd (by rw [hx.out]; exact h))
   have hyes := Lib.hid (fun (h : x = d) => within_take (s := s) hd hok.out (by rw [hx.out]; exact h))
   replace hlt := Lib.hid hlt
   clear hdc0 hbw hd
   by_cases hxd : x = d
   ·have hqq : Hid (∀ w, (Op.equalIn 10000 23 (.agg (cells8 x).toArray) (.agg (cells8 d).toArray)).run Tryz.prog w = .ok true w) := fun w => by rw [hq.out w, decide_eq_true hxd]
    have hnx := Lib.hid (hyes.out hxd)
    clear hyes hno hq hxd
    go_wp2_with (first
     | ((with_reducible change wpList _ _ _ (⟨some 12, _, _, _, _, _⟩ :: _) _ _); refine wpList_load_part (o := ⟨some 12, _, _, _, _, _⟩) rfl 23 (.tmp 11) rfl (b) (o + i * 32) rfl (cells8 d) _ (hdc.out wr (Below.refl _ _)) Tryz.underlying23 rfl Fd.out.part ?_)
     | ((with_reducible change wpList _ _ _ ({ dst := none, op := Op.store 23 (.tmp 6) _, type := _, pos := _, after := _, guard := _ } :: _) _ _); refine wpList_store_whole (o := ⟨none, _, _, _, _, _⟩) rfl 23 (.tmp 6) (.tmp 12) rfl (wr.heap.size) ((cells8 d).toArray) rfl rfl 23 (Z32) (Blk.new wr _ _) Fd.out.size Fd.out.zero Fd.out.one ?_; intro w4 hB4 hk4; have hb4 := Lib.hid (kept_fresh hk4); replace hB4 := Lib.hid hB4; clear hk4))
    refine wp_region_class (Class w4) (by kernel_rfl) (by kernel_rfl) (Class.mk_ ((Below.refl _ _).drew)) ?_
    refine wpQuiet_load_row rfl 23 (.tmp 6) rfl wr.heap.size rfl 23 ((cells8 d).toArray) (0, 0) _ (fun w' hw' => (hw'.below.block _ hB4.out.lt).trans hB4.out) Tryz.underlying23 rfl Fd.out.size ?_
    (intro K k; go_simp; apply k; clear k K)
    refine wpQuiet_move rfl (.tmp 0) rfl ?_
    (intro K k; go_simp; apply k; clear k K)
    refine wpQuiet_fn (v := .agg (cells8 x).toArray) (args := #[.agg (cells8 d).toArray, .int .i64 s]) rfl _ _ rfl rfl Tryz.func113 (by kernel_rfl) (by kernel_rfl) (fun w' hw' => (cut_any d hdl.out s w').mono (fun e w'' ⟨he, hb⟩ => ⟨by rw [he, hx.out], hw'.next hb⟩)) ?_
    (intro K k; go_simp; apply k; clear k K)
    refine wpQuiet_load_row rfl 23 (.tmp 6) rfl wr.heap.size rfl 23 ((cells8 d).toArray) (0, 0) _ (fun w' hw' => (hw'.below.block _ hB4.out.lt).trans hB4.out) Tryz.underlying23 rfl Fd.out.size ?_
    (intro K k; go_simp; apply k; clear k K)
    refine wpQuiet_val (v := .bool false) rfl (fun w' hw' => by have hh := hqq.out w'; go_simp) ?_
    (intro K k; go_simp; apply k; clear k K)
    refine wpQuiet_nil ?_
    intro w6 hw6
    have hW6 : Hid (Below w.heap.size w w6) := hW.out.trans ((hb4.out.trans (hw6.below.mono hb4.out.size)).mono hW.out.size)
    clear hw6 hb4 hB4
    go_wp2_with fail
    go_roundw
    case rel => exact ⟨i + 1, by go_num, hlt.out, hnx.out, hW6.out⟩
    case measure => (have := hlt.out; simp [intOf]; omega)
   ·have hqq : Hid (∀ w, (Op.equalIn 10000 23 (.agg (cells8 x).toArray) (.agg (cells8 d).toArray)).run Tryz.prog w = .ok false w) := fun w => by rw [hq.out w, decide_eq_false hxd]
    have hans := Lib.hid (hno.out hxd)
    clear hyes hno hq hxd
    go_wp2_with (first
     | ((with_reducible change wpList _ _ _ (⟨some 12, _, _, _, _, _⟩ :: _) _ _); refine wpList_load_part (o := ⟨some 12, _, _, _, _, _⟩) rfl 23 (.tmp 11) rfl (b) (o + i * 32) rfl (cells8 d) _ (hdc.out wr (Below.refl _ _)) Tryz.underlying23 rfl Fd.out.part ?_)
     | ((with_reducible change wpList _ _ _ ({ dst := none, op := Op.store 23 (.tmp 6) _, type := _, pos := _, after := _, guard := _ } :: _) _ _); refine wpList_store_whole (o := ⟨none, _, _, _, _, _⟩) rfl 23 (.tmp 6) (.tmp 12) rfl (wr.heap.size) ((cells8 d).toArray) rfl rfl 23 (Z32) (Blk.new wr _ _) Fd.out.size Fd.out.zero Fd.out.one ?_; intro w4 hB4 hk4; have hb4 := Lib.hid (kept_fresh hk4); replace hB4 := Lib.hid hB4; clear hk4))
    refine wp_region_class (Class w4) (by kernel_rfl) (by kernel_rfl) (Class.mk_ ((Below.refl _ _).drew)) ?_
    refine wpQuiet_load_row rfl 23 (.tmp 6) rfl wr.heap.size rfl 23 ((cells8 d).toArray) (0, 0) _ (fun w' hw' => (hw'.below.block _ hB4.out.lt).trans hB4.out) Tryz.underlying23 rfl Fd.out.size ?_
    (intro K k; go_simp; apply k; clear k K)
    refine wpQuiet_move rfl (.tmp 0) rfl ?_
    (intro K k; go_simp; apply k; clear k K)
    refine wpQuiet_fn (v := .agg (cells8 x).toArray) (args := #[.agg (cells8 d).toArray, .int .i64 s]) rfl _ _ rfl rfl Tryz.func113 (by kernel_rfl) (by kernel_rfl) (fun w' hw' => (cut_any d hdl.out s w').mono (fun e w'' ⟨he, hb⟩ => ⟨by rw [he, hx.out], hw'.next hb⟩)) ?_
    (intro K k; go_simp; apply k; clear k K)
    refine wpQuiet_load_row rfl 23 (.tmp 6) rfl wr.heap.size rfl 23 ((cells8 d).toArray) (0, 0) _ (fun w' hw' => (hw'.below.block _ hB4.out.lt).trans hB4.out) Tryz.underlying23 rfl Fd.out.size ?_
    (intro K k; go_simp; apply k; clear k K)
    refine wpQuiet_val (v := .bool true) rfl (fun w' hw' => by have hh := hqq.out w'; go_simp) ?_
    (intro K k; go_simp; apply k; clear k K)
    refine wpQuiet_nil ?_
    intro w6 hw6
    have hW6 : Hid (Below w.heap.size w w6) := hW.out.trans ((hb4.out.trans (hw6.below.mono hb4.out.size)).mono hW.out.size)
    clear hw6 hb4 hB4
    go_wp2_with fail
    go_ret
    exact ⟨by rw [hans.out]; rfl, hW6.out⟩
  ·obtain rfl : i = n := by have := hi.out; omega
   have hz : (i : Int) ≤ (i : Int) := by omega
   have hall : withinB s ds = true := by have := hok.out; rwa [List.take_of_length_le (by rw [hr.out.1]; exact Nat.le_refl _)] at this
   go_wp2_with fail
   go_ret
   exact ⟨by rw [hall]; rfl, hW.out⟩

end Go.Proofs.YtgldkfaiofkhbaaGreatDoor.Within

namespace Go.Proofs.YtgldkfaiofkhbaaGreatDoor.Law20
open Go Go.RowKit Go.Proofs.YtgldkfaiofkhbaaGreatDoor Mem Sha Bytes QuietTail Grown TreeMem TreeRoot Held Book Book2

end Go.Proofs.YtgldkfaiofkhbaaGreatDoor.Law20
