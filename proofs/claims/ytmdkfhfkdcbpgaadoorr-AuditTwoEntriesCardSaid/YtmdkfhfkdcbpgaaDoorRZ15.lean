/-
  Texts of the claim, put into one file: IdxAny, IdxEnc.
-/
import Derived.Test.YtmdkfhfkdcbpgaaDoorRZ14
import Derived.Test.YtmdkfhfkdcbpgaaDoorRZ8
import Derived.Test.YtmdkfhfkdcbpgaaDoorRZ3

namespace Go.Proofs.YtmdkfhfkdcbpgaaDoorR.IdxAny
open Go Go.RowKit Go.Proofs.YtmdkfhfkdcbpgaaDoorR Mem Sha Bytes Go.Proofs.YtmdkfhfkdcbpgaaDoorR.Append Octet Octet2 HeadMem ProofBeside ProofEnc ProofIdx ProofIdx2 ProofIdx3 StructEq QuietTail Grown

def z32 : Text := List.replicate 32 0
theorem z32_len : z32.length = 32 := rfl
def okEnt (f : Bool) (cnt : Int) (ch : Text) : Bool := if f then decide (1 ≤ cnt ∧ cnt ≤ 1099511627776) else decide (cnt = 0 ∧ ch = z32)
def okIx (s : ByteArray) (f : Bool) (cnt : Int) (ch d : Text) (n : Nat) : Bool := okEnt f cnt ch && (namedB s.data.toList && ((onesOf d : Int) == (n : Int)))
theorem okIx_no {s : ByteArray} {f : Bool} {cnt : Int} {ch d : Text} {n : Nat} (h : okEnt f cnt ch = false) : okIx s f cnt ch d n = false := by unfold okIx; rw [h]; rfl
theorem okIx_yes {s : ByteArray} {f : Bool} {cnt : Int} {ch d : Text} {n : Nat} (h : okEnt f cnt ch = true) : okIx s f cnt ch d n = (namedB s.data.toList && ((onesOf d : Int) == (n : Int))) := by unfold okIx; rw [h]; rfl
theorem neqZ (cnt : Int) (ch : Text) (hch : ch.length = 32) (w : World) : (binOp .neq 68 (.agg (entC cnt ch).toArray) (.agg #[.int .i64 0, .int .u8 0, .int .u8 0, .int .u8 0, .int .u8 0, .int .u8 0, .int .u8 0, .int .u8 0, .int .u8 0, .int .u8 0, .int .u8 0, .int .u8 0, .int .u8 0, .int .u8 0, .int .u8 0, .int .u8 0, .int .u8 0, .int .u8 0, .int .u8 0, .int .u8 0, .int .u8 0, .int .u8 0, .int .u8 0, .int .u8 0, .int .u8 0, .int .u8 0, .int .u8 0, .int .u8 0, .int .u8 0, .int .u8 0, .int .u8 0, .int .u8 0, .int .u8 0])).run Tryd.prog w = .ok (.bool (!decide (cnt = 0 ∧ ch = z32))) w := by
 have := neq_entry cnt 0 ch z32 hch z32_len w
 rwa [show (entC 0 z32).toArray = #[.int .i64 0, .int .u8 0, .int .u8 0, .int .u8 0, .int .u8 0, .int .u8 0, .int .u8 0, .int .u8 0, .int .u8 0, .int .u8 0, .int .u8 0, .int .u8 0, .int .u8 0, .int .u8 0, .int .u8 0, .int .u8 0, .int .u8 0, .int .u8 0, .int .u8 0, .int .u8 0, .int .u8 0, .int .u8 0, .int .u8 0, .int .u8 0, .int .u8 0, .int .u8 0, .int .u8 0, .int .u8 0, .int .u8 0, .int .u8 0, .int .u8 0, .int .u8 0, .int .u8 0] by kernel_rfl] at this

set_option maxRecDepth 100000 in
set_option maxHeartbeats 2000000 in
theorem indexed_any (s : ByteArray) (hs : s.size ≤ 140737488355328) (f : Bool) (cnt : Int) (ch : Text) (hch : ch.length = 32) (d : Text) (hd : d.length = 32) (A : Option Addr) (n c : Nat) (w : World) :
  Calls Tryd.prog 133 #[.agg (idxCells s f (entC cnt ch) d A n c).toArray] w fun e w' => e = .returned (.bool (okIx s f cnt ch d n)) ∧ Below w.heap.size w w' := by
 obtain ⟨cs, hcs⟩ : ∃ cs : Array Value, (idxCells s f (entC cnt ch) d A n c).toArray = cs := ⟨_, rfl⟩
 have i0 : Hid (cs[0]? = some (.string s)) := by show _ = _; rw [← hcs, List.getElem?_toArray]; exact idx_name
 have i1 : cs[1]? = some (.bool f) := by rw [← hcs, List.getElem?_toArray]; exact idx_found
 have i2 : Hid (∀ j v, (entC cnt ch)[j]? = some v → cs[2 + j]? = some v) := fun j v hv => by rw [← hcs, List.getElem?_toArray]; exact idx_ent j v hv
 have i3 : Hid (∀ j v, (cells8 d)[j]? = some v → cs[35 + j]? = some v) := fun j v hv => by rw [← hcs, List.getElem?_toArray]; exact idx_bitmap (entC_len hch) j v hv
 have i4 : Hid (cs[67]? = some (.slice A n c)) := by show _ = _; rw [← hcs, List.getElem?_toArray]; exact idx_way (entC_len hch) hd
 rw [hcs]
 clear hcs
 have hB0 : Hid (Blk (w.alloc (.cells cs 70)) w.heap.size 70 cs) := Blk.new w _ _
 have hb0 : Hid (Below w.heap.size w (w.alloc (.cells cs 70))) := Below.heap_below w _
 have e1 := (hB0.out.cell 1).trans i1
 have e2 := (hB0.out.cell 2).trans (i2.out 0 _ rfl)
 have sE : Hid ((Tryd.prog.info? 68).map (·.size) = some (entC cnt ch).length) := by show _ = _; rw [entC_len hch]; kernel_rfl
 have sD : Hid ((Tryd.prog.info? 23).map (·.size) = some (cells8 d).length) := agg_hi size32 (by rw [cells8_len, hd])
 have hn := neqZ cnt ch hch
 have hno := Lib.hid (fun h => okIx_no (s := s) (f := f) (cnt := cnt) (ch := ch) (d := d) (n := n) h)
 have hyes := Lib.hid (fun h => okIx_yes (s := s) (f := f) (cnt := cnt) (ch := ch) (d := d) (n := n) h)
 obtain ⟨b1, h1⟩ : ∃ b, namedB s.data.toList = b := ⟨_, rfl⟩
 obtain ⟨b2, h2⟩ : ∃ b, ((onesOf d : Int) == (n : Int)) = b := ⟨_, rfl⟩
 rw [h1, h2] at hyes
 obtain ⟨ans, hans⟩ : ∃ b, okIx s f cnt ch d n = b := ⟨_, rfl⟩
 rw [hans] at hno hyes ⊢
 replace hs := Lib.hid hs
 replace hd := Lib.hid hd
 replace h1 := Lib.hid h1
 replace h2 := Lib.hid h2
 replace i1 := Lib.hid i1
 obtain ⟨Z, hZ⟩ : ∃ Z, Hid ((entC cnt ch).toArray = Z) := ⟨_, Lib.hid rfl⟩
 rw [hZ.out] at hn
 clear hans
 cases f with
 | false =>
  by_cases hz : cnt = 0 ∧ ch = z32
  ·have ha : ans = (b1 && b2) := hyes.out (decide_eq_true hz)
   rw [decide_eq_true hz] at hn
   clear hz hno hyes
   go_enter Tryd.func133, Tryd.ntmps133
   go_wp2_with ((with_reducible change wpList _ _ _ (⟨some 23, _, _, _, _, _⟩ :: _) _ _); refine wpList_load_part_g (o := ⟨some 23, _, _, _, _, _⟩) (by rfl) 68 (.tmp 22) rfl w.heap.size 2 rfl (entC cnt ch) _ (fun j v hv => (hB0.out.cell (2 + j)).trans (i2.out j v hv)) Tryd.underlying68 rfl sE.out ?_; rw [hZ.out])
   have hC : Hid (∀ w', Class (w.alloc (.cells cs 70)) w' → ∀ j v, cs[j]? = some v → w'.cell? ⟨w.heap.size, j, none⟩ = some v) := fun w' hw' j v hv => ((show Blk w' w.heap.size 70 cs from (hw'.below.block _ hB0.out.lt).trans hB0.out).cell j).trans hv
   cases b1
   ·refine wp_region_class (Class (w.alloc (.cells cs 70))) (by kernel_rfl) (by kernel_rfl) (Class.mk_ ((Below.refl _ _).drew)) ?_
    refine wpQuiet_val (v := .pointer (some ⟨w.heap.size, 0, none⟩)) rfl (fun w' hw' => by go_simp) ?_
    (intro K k; go_simp; apply k; clear k K)
    refine wpQuiet_val (v := .string s) rfl (fun w' hw' => by have hc := hC.out w' hw' 0 _ i0.out; go_simp) ?_
    (intro K k; go_simp; apply k; clear k K)
    refine wpQuiet_fn (v := .bool false) (args := #[.string s]) rfl _ _ rfl rfl Tryd.func108 (by kernel_rfl) (by kernel_rfl) (fun w' hw' => (named_any s hs.out w').mono (fun e w'' ⟨he, hw⟩ => ⟨by rw [he, h1.out], by rw [← hw]; exact hw'⟩)) ?_
    (intro K k; go_simp; apply k; clear k K)
    refine wpQuiet_move rfl (.tmp 30) rfl ?_
    (intro K k; go_simp; apply k; clear k K)
    refine wpQuiet_skip_ rfl ?_
    (intro K k; go_simp; apply k; clear k K)
    refine wpQuiet_skip_ rfl ?_
    (intro K k; go_simp; apply k; clear k K)
    refine wpQuiet_skip_ rfl ?_
    (intro K k; go_simp; apply k; clear k K)
    refine wpQuiet_skip_ rfl ?_
    (intro K k; go_simp; apply k; clear k K)
    refine wpQuiet_skip_ rfl ?_
    (intro K k; go_simp; apply k; clear k K)
    refine wpQuiet_skip_ rfl ?_
    (intro K k; go_simp; apply k; clear k K)
    refine wpQuiet_skip_ rfl ?_
    (intro K k; go_simp; apply k; clear k K)
    refine wpQuiet_val (v := .bool false) rfl (fun w' hw' => by go_simp) ?_
    (intro K k; go_simp; apply k; clear k K)
    refine wpQuiet_val (v := .bool false) rfl (fun w' hw' => by go_simp) ?_
    (intro K k; go_simp; apply k; clear k K)
    refine wpQuiet_nil ?_
    intro w' hw'
    have hb1 : Hid (Below w.heap.size w w') := hb0.out.trans (hw'.below.mono hb0.out.size)
    go_wp2_with fail
    go_ret
    exact ⟨by rw [ha]; rfl, hb1.out⟩
   ·refine wp_region_class (Class (w.alloc (.cells cs 70))) (by kernel_rfl) (by kernel_rfl) (Class.mk_ ((Below.refl _ _).drew)) ?_
    refine wpQuiet_val (v := .pointer (some ⟨w.heap.size, 0, none⟩)) rfl (fun w' hw' => by go_simp) ?_
    (intro K k; go_simp; apply k; clear k K)
    refine wpQuiet_val (v := .string s) rfl (fun w' hw' => by have hc := hC.out w' hw' 0 _ i0.out; go_simp) ?_
    (intro K k; go_simp; apply k; clear k K)
    refine wpQuiet_fn (v := .bool true) (args := #[.string s]) rfl _ _ rfl rfl Tryd.func108 (by kernel_rfl) (by kernel_rfl) (fun w' hw' => (named_any s hs.out w').mono (fun e w'' ⟨he, hw⟩ => ⟨by rw [he, h1.out], by rw [← hw]; exact hw'⟩)) ?_
    (intro K k; go_simp; apply k; clear k K)
    refine wpQuiet_move rfl (.tmp 30) rfl ?_
    (intro K k; go_simp; apply k; clear k K)
    refine wpQuiet_val (v := .pointer (some ⟨w.heap.size, 35, none⟩)) rfl (fun w' hw' => by go_simp) ?_
    (intro K k; go_simp; apply k; clear k K)
    refine wpQuiet_load_part rfl 23 (.tmp 32) rfl w.heap.size 35 rfl (cells8 d) _ (fun w' hw' j v hv => hC.out w' hw' (35 + j) v (i3.out j v hv)) Tryd.underlying23 rfl sD.out ?_
    (intro K k; go_simp; apply k; clear k K)
    refine wpQuiet_fn (v := .int .i64 (onesOf d : Nat)) (args := #[.agg (cells8 d).toArray]) rfl _ _ rfl rfl Tryd.func157 (by kernel_rfl) (by kernel_rfl) (fun w' hw' => (ones_any d hd.out w').mono (fun e w'' ⟨he, hb⟩ => ⟨he, hw'.next hb⟩)) ?_
    (intro K k; go_simp; apply k; clear k K)
    refine wpQuiet_val (v := .pointer (some ⟨w.heap.size, 67, none⟩)) rfl (fun w' hw' => by go_simp) ?_
    (intro K k; go_simp; apply k; clear k K)
    refine wpQuiet_val (v := .slice A n c) rfl (fun w' hw' => by have hc := hC.out w' hw' 67 _ i4.out; go_simp) ?_
    (intro K k; go_simp; apply k; clear k K)
    refine wpQuiet_val (v := .int .i64 (n : Int)) rfl (fun w' hw' => by go_simp) ?_
    (intro K k; go_simp; apply k; clear k K)
    refine wpQuiet_val (v := .bool b2) rfl (fun w' hw' => by have hc := h2.out; go_simp) ?_
    (intro K k; go_simp; apply k; clear k K)
    refine wpQuiet_val (v := .bool b2) rfl (fun w' hw' => by go_simp) ?_
    (intro K k; go_simp; apply k; clear k K)
    refine wpQuiet_val (v := .bool b2) rfl (fun w' hw' => by go_simp) ?_
    (intro K k; go_simp; apply k; clear k K)
    refine wpQuiet_nil ?_
    intro w' hw'
    have hb1 : Hid (Below w.heap.size w w') := hb0.out.trans (hw'.below.mono hb0.out.size)
    go_wp2_with fail
    go_ret
    exact ⟨by rw [ha]; rfl, hb1.out⟩
  ·have ha : ans = false := hno.out (decide_eq_false hz)
   rw [decide_eq_false hz] at hn
   clear hz hno hyes
   go_enter Tryd.func133, Tryd.ntmps133
   go_wp2_with ((with_reducible change wpList _ _ _ (⟨some 23, _, _, _, _, _⟩ :: _) _ _); refine wpList_load_part_g (o := ⟨some 23, _, _, _, _, _⟩) (by rfl) 68 (.tmp 22) rfl w.heap.size 2 rfl (entC cnt ch) _ (fun j v hv => (hB0.out.cell (2 + j)).trans (i2.out j v hv)) Tryd.underlying68 rfl sE.out ?_; rw [hZ.out])
   go_ret
   exact ⟨by first | rfl | (rw [ha]; rfl), hb0.out⟩
 | true =>
  clear hn
  by_cases c1 : cnt < 1
  ·have ha : ans = false := hno.out (decide_eq_false (by omega))
   have y1 : decide (cnt < 1) = true := decide_eq_true c1
   clear hno hyes
   go_enter Tryd.func133, Tryd.ntmps133
   go_wp2_with ((with_reducible change wpList _ _ _ (⟨some 23, _, _, _, _, _⟩ :: _) _ _); refine wpList_load_part_g (o := ⟨some 23, _, _, _, _, _⟩) (by rfl) 68 (.tmp 22) rfl w.heap.size 2 rfl (entC cnt ch) _ (fun j v hv => (hB0.out.cell (2 + j)).trans (i2.out j v hv)) Tryd.underlying68 rfl sE.out ?_; rw [hZ.out])
   go_ret
   exact ⟨by first | rfl | (rw [ha]; rfl), hb0.out⟩
  ·have y1 : decide (cnt < 1) = false := decide_eq_false c1
   by_cases c2 : 1099511627776 < cnt
   ·have ha : ans = false := hno.out (decide_eq_false (by omega))
    have y2 : decide (1099511627776 < cnt) = true := decide_eq_true c2
    clear hno hyes
    go_enter Tryd.func133, Tryd.ntmps133
    go_wp2_with ((with_reducible change wpList _ _ _ (⟨some 23, _, _, _, _, _⟩ :: _) _ _); refine wpList_load_part_g (o := ⟨some 23, _, _, _, _, _⟩) (by rfl) 68 (.tmp 22) rfl w.heap.size 2 rfl (entC cnt ch) _ (fun j v hv => (hB0.out.cell (2 + j)).trans (i2.out j v hv)) Tryd.underlying68 rfl sE.out ?_; rw [hZ.out])
    go_ret
    exact ⟨by first | rfl | (rw [ha]; rfl), hb0.out⟩
   ·have ha : ans = (b1 && b2) := hyes.out (decide_eq_true (by omega))
    have y2 : decide (1099511627776 < cnt) = false := decide_eq_false c2
    clear hno hyes
    go_enter Tryd.func133, Tryd.ntmps133
    go_wp2_with ((with_reducible change wpList _ _ _ (⟨some 23, _, _, _, _, _⟩ :: _) _ _); refine wpList_load_part_g (o := ⟨some 23, _, _, _, _, _⟩) (by rfl) 68 (.tmp 22) rfl w.heap.size 2 rfl (entC cnt ch) _ (fun j v hv => (hB0.out.cell (2 + j)).trans (i2.out j v hv)) Tryd.underlying68 rfl sE.out ?_; rw [hZ.out])
    have hC : Hid (∀ w', Class (w.alloc (.cells cs 70)) w' → ∀ j v, cs[j]? = some v → w'.cell? ⟨w.heap.size, j, none⟩ = some v) := fun w' hw' j v hv => ((show Blk w' w.heap.size 70 cs from (hw'.below.block _ hB0.out.lt).trans hB0.out).cell j).trans hv
    cases b1
    ·refine wp_region_class (Class (w.alloc (.cells cs 70))) (by kernel_rfl) (by kernel_rfl) (Class.mk_ ((Below.refl _ _).drew)) ?_
     refine wpQuiet_val (v := .pointer (some ⟨w.heap.size, 0, none⟩)) rfl (fun w' hw' => by go_simp) ?_
     (intro K k; go_simp; apply k; clear k K)
     refine wpQuiet_val (v := .string s) rfl (fun w' hw' => by have hc := hC.out w' hw' 0 _ i0.out; go_simp) ?_
     (intro K k; go_simp; apply k; clear k K)
     refine wpQuiet_fn (v := .bool false) (args := #[.string s]) rfl _ _ rfl rfl Tryd.func108 (by kernel_rfl) (by kernel_rfl) (fun w' hw' => (named_any s hs.out w').mono (fun e w'' ⟨he, hw⟩ => ⟨by rw [he, h1.out], by rw [← hw]; exact hw'⟩)) ?_
     (intro K k; go_simp; apply k; clear k K)
     refine wpQuiet_move rfl (.tmp 30) rfl ?_
     (intro K k; go_simp; apply k; clear k K)
     refine wpQuiet_skip_ rfl ?_
     (intro K k; go_simp; apply k; clear k K)
     refine wpQuiet_skip_ rfl ?_
     (intro K k; go_simp; apply k; clear k K)
     refine wpQuiet_skip_ rfl ?_
     (intro K k; go_simp; apply k; clear k K)
     refine wpQuiet_skip_ rfl ?_
     (intro K k; go_simp; apply k; clear k K)
     refine wpQuiet_skip_ rfl ?_
     (intro K k; go_simp; apply k; clear k K)
     refine wpQuiet_skip_ rfl ?_
     (intro K k; go_simp; apply k; clear k K)
     refine wpQuiet_skip_ rfl ?_
     (intro K k; go_simp; apply k; clear k K)
     refine wpQuiet_val (v := .bool false) rfl (fun w' hw' => by go_simp) ?_
     (intro K k; go_simp; apply k; clear k K)
     refine wpQuiet_val (v := .bool false) rfl (fun w' hw' => by go_simp) ?_
     (intro K k; go_simp; apply k; clear k K)
     refine wpQuiet_nil ?_
     intro w' hw'
     have hb1 : Hid (Below w.heap.size w w') := hb0.out.trans (hw'.below.mono hb0.out.size)
     go_wp2_with fail
     go_ret
     exact ⟨by rw [ha]; rfl, hb1.out⟩
    ·refine wp_region_class (Class (w.alloc (.cells cs 70))) (by kernel_rfl) (by kernel_rfl) (Class.mk_ ((Below.refl _ _).drew)) ?_
     refine wpQuiet_val (v := .pointer (some ⟨w.heap.size, 0, none⟩)) rfl (fun w' hw' => by go_simp) ?_
     (intro K k; go_simp; apply k; clear k K)
     refine wpQuiet_val (v := .string s) rfl (fun w' hw' => by have hc := hC.out w' hw' 0 _ i0.out; go_simp) ?_
     (intro K k; go_simp; apply k; clear k K)
     refine wpQuiet_fn (v := .bool true) (args := #[.string s]) rfl _ _ rfl rfl Tryd.func108 (by kernel_rfl) (by kernel_rfl) (fun w' hw' => (named_any s hs.out w').mono (fun e w'' ⟨he, hw⟩ => ⟨by rw [he, h1.out], by rw [← hw]; exact hw'⟩)) ?_
     (intro K k; go_simp; apply k; clear k K)
     refine wpQuiet_move rfl (.tmp 30) rfl ?_
     (intro K k; go_simp; apply k; clear k K)
     refine wpQuiet_val (v := .pointer (some ⟨w.heap.size, 35, none⟩)) rfl (fun w' hw' => by go_simp) ?_
     (intro K k; go_simp; apply k; clear k K)
     refine wpQuiet_load_part rfl 23 (.tmp 32) rfl w.heap.size 35 rfl (cells8 d) _ (fun w' hw' j v hv => hC.out w' hw' (35 + j) v (i3.out j v hv)) Tryd.underlying23 rfl sD.out ?_
     (intro K k; go_simp; apply k; clear k K)
     refine wpQuiet_fn (v := .int .i64 (onesOf d : Nat)) (args := #[.agg (cells8 d).toArray]) rfl _ _ rfl rfl Tryd.func157 (by kernel_rfl) (by kernel_rfl) (fun w' hw' => (ones_any d hd.out w').mono (fun e w'' ⟨he, hb⟩ => ⟨he, hw'.next hb⟩)) ?_
     (intro K k; go_simp; apply k; clear k K)
     refine wpQuiet_val (v := .pointer (some ⟨w.heap.size, 67, none⟩)) rfl (fun w' hw' => by go_simp) ?_
     (intro K k; go_simp; apply k; clear k K)
     refine wpQuiet_val (v := .slice A n c) rfl (fun w' hw' => by have hc := hC.out w' hw' 67 _ i4.out; go_simp) ?_
     (intro K k; go_simp; apply k; clear k K)
     refine wpQuiet_val (v := .int .i64 (n : Int)) rfl (fun w' hw' => by go_simp) ?_
     (intro K k; go_simp; apply k; clear k K)
     refine wpQuiet_val (v := .bool b2) rfl (fun w' hw' => by have hc := h2.out; go_simp) ?_
     (intro K k; go_simp; apply k; clear k K)
     refine wpQuiet_val (v := .bool b2) rfl (fun w' hw' => by go_simp) ?_
     (intro K k; go_simp; apply k; clear k K)
     refine wpQuiet_val (v := .bool b2) rfl (fun w' hw' => by go_simp) ?_
     (intro K k; go_simp; apply k; clear k K)
     refine wpQuiet_nil ?_
     intro w' hw'
     have hb1 : Hid (Below w.heap.size w w') := hb0.out.trans (hw'.below.mono hb0.out.size)
     go_wp2_with fail
     go_ret
     exact ⟨by rw [ha]; rfl, hb1.out⟩
end Go.Proofs.YtmdkfhfkdcbpgaaDoorR.IdxAny

namespace Go.Proofs.YtmdkfhfkdcbpgaaDoorR.IdxEnc
open Go Go.RowKit Go.Proofs.YtmdkfhfkdcbpgaaDoorR Mem Sha Bytes Go.Proofs.YtmdkfhfkdcbpgaaDoorR.Append Octet Octet2 HeadMem ProofBeside ProofEnc ProofIdx ProofIdx2 ProofIdx3 ProofIdx4 StructEq IdxAny TreeMem

def idxB (s : ByteArray) (f : Bool) (cnt : Int) (ch d : Text) (ds : List Text) : Text := [50] ++ [kb s.size] ++ nm s ++ (if f then [1] ++ be8 cnt.toNat ++ ch else [0]) ++ d ++ ds.flatten
def idxWant (s : ByteArray) (f : Bool) (cnt : Int) (ch d : Text) (ds : List Text) : Option Text := if okIx s f cnt ch d ds.length = true then some (idxB s f cnt ch d ds) else none
theorem idxB_len {s : ByteArray} {f : Bool} {cnt : Int} {ch d : Text} {ds : List Text} (hch : ch.length = 32) (hd : d.length = 32) (hds : ∀ d ∈ ds, d.length = 32) : (idxB s f cnt ch d ds).length = (if f then 75 else 35) + s.size + 32 * ds.length := by
 cases f <;> simp only [idxB, List.length_append, List.length_cons, List.length_nil, nm_len, hd, hch, flat32_len ds hds, be8_len, Bool.false_eq_true, if_true, if_false] <;> omega
theorem idxB_nf (s : ByteArray) (cnt : Int) (ch d : Text) (ds : List Text) : idxB s false cnt ch d ds = idxBytes s d ds := rfl
theorem okIx_ones {s : ByteArray} {f : Bool} {cnt : Int} {ch d : Text} {n : Nat} (h : okIx s f cnt ch d n = true) : onesOf d = n := by
 unfold okIx at h
 simp only [Bool.and_eq_true, beq_iff_eq] at h
 omega
theorem okIx_name {s : ByteArray} {f : Bool} {cnt : Int} {ch d : Text} {n : Nat} (h : okIx s f cnt ch d n = true) : namedB s.data.toList = true := by
 unfold okIx at h
 simp only [Bool.and_eq_true] at h
 exact h.2.1
theorem okIx_64 {s : ByteArray} {f : Bool} {cnt : Int} {ch d : Text} {n : Nat} (h : okIx s f cnt ch d n = true) : s.size ≤ 64 := by
 have := okIx_name h
 unfold namedB at this
 simp only [Bool.and_eq_true, decide_eq_true_eq] at this
 simpa using this.1
section
variable {w0 wi : World} {g : Nat} {r : Option Nat} {l : Text}
theorem number_new (N : Nat) (hN : N < 9223372036854775808) (ds : List Text) (n : Nat) (hn : ds.length = n) (hd : ∀ d ∈ ds, d.length = 32) (hl : l.length + 8 + 32 * n ≤ 140737488355328) (hW : Wrote w0 g r l wi) :
  Calls Tryd.prog 67 #[.pointer (some ⟨g, 0, none⟩), .int .i64 (N : Int), .slice (some ⟨wi.heap.size, 0, none⟩) n n] (wi.alloc (.cells ((ds.map cells8).flatten).toArray 23)) fun e w' => e = .returned (.tuple #[]) ∧ Wrote w0 g r (l ++ be8 N ++ ds.flatten) w' := by
 obtain ⟨r1, h1, k1, c1⟩ := hW
 have hr : Reads (wi.alloc (.cells ((ds.map cells8).flatten).toArray 23)) 32 (some ⟨wi.heap.size, 0, none⟩) n (ds.flatMap cells8) :=
  (Blk.new wi 23 ((ds.map cells8).flatten).toArray).reads 0 _ (by rw [(digs_len ds hd).2, hn]; omega) (fun j u hu => by rw [Nat.zero_add, List.getElem?_toArray, ← List.flatMap_def]; exact hu)
 refine (number_from N hN ds n hn hd _ n hl hr (fun _ a e => ?_) (h1.alloc _).refl).mono fun e w' ⟨he, hx⟩ => ⟨he, Wrote.trans1 (k1.alloc _) c1 hx⟩
 injection e with e
 subst e
 refine ⟨fun e => ?_, fun e => ?_⟩
 ·have := h1.lt; simp at e; omega
 ·obtain ⟨v, hb, _, _, hr1⟩ := h1
  have := (hr1 wi.heap.size (by rw [← e])).2
  omega
end

set_option maxRecDepth 100000 in
set_option maxHeartbeats 1000000 in
theorem encodeIndexed_f (s : ByteArray) (hs : s.size ≤ 64) (N : Nat) (hN : N ≤ 1099511627776) (ch : Text) (hch : ch.length = 32) (d : Text) (hd : d.length = 32) (ds : List Text) (n : Nat) (hn : ds.length = n) (hds : ∀ d ∈ ds, d.length = 32) (hok : okIx s true (N : Int) ch d n = true) (A : Option Addr) (c : Nat) (w : World) (hr : Reads w 32 A n (ds.flatMap cells8)) :
  Calls Tryd.prog 84 #[.agg (idxCells s true (entC (N : Int) ch) d A n c).toArray] w fun e w' => ∃ v, e = .returned (.tuple #[v, .int .i64 0]) ∧ Below w.heap.size w w' ∧ w'.ownsRow w.heap.size 5 1 v (75 + s.size + 32 * n) (cells8 (idxB s true (N : Int) ch d ds)) := by
 have hones := okIx_ones hok
 have hT := Lib.hid (fun w' => by have := indexed_any s (by omega) true (N : Int) ch hch d hd A n c w'; rw [hok] at this; exact this)
 obtain ⟨cs, hcs⟩ : ∃ cs : Array Value, (idxCells s true (entC (N : Int) ch) d A n c).toArray = cs := ⟨_, rfl⟩
 have i0 : Hid (cs[0]? = some (.string s)) := by show _ = _; rw [← hcs, List.getElem?_toArray]; exact idx_name
 have i1 : Hid (cs[1]? = some (.bool true)) := by show _ = _; rw [← hcs, List.getElem?_toArray]; exact idx_found
 have i2 : Hid (cs[2]? = some (.int .i64 (N : Int))) := by show _ = _; rw [← hcs, List.getElem?_toArray]; exact idx_ent 0 _ rfl
 have ic : Hid (∀ j v, (cells8 ch)[j]? = some v → cs[3 + j]? = some v) := fun j v hv => by
  rw [← hcs, List.getElem?_toArray, show 3 + j = 2 + (1 + j) by omega]
  exact idx_ent (1 + j) v (by rw [Nat.add_comm 1 j]; exact hv)
 have i3 : Hid (∀ j v, (cells8 d)[j]? = some v → cs[35 + j]? = some v) := fun j v hv => by rw [← hcs, List.getElem?_toArray]; exact idx_bitmap (entC_len hch) j v hv
 have i4 : Hid (cs[67]? = some (.slice A n c)) := by show _ = _; rw [← hcs, List.getElem?_toArray]; exact idx_way (entC_len hch) hd
 have sI : Hid ((Tryd.prog.info? 70).map (·.size) = some cs.size) := by show _ = _; rw [← hcs, List.size_toArray, idx_len (entC_len hch) hd]; kernel_rfl
 rw [hcs] at hT ⊢
 clear hcs
 have hn256 : n ≤ 256 := by rw [← hones]; have := onesOf_le d; omega
 have hB0 : Hid (Blk (w.alloc (.cells cs 70)) w.heap.size 70 cs) := Blk.new w _ _
 have hb0 : Hid (Below w.heap.size w (w.alloc (.cells cs 70))) := Below.heap_below w _
 have hz0 : Hid ((w.alloc (.cells cs 70)).heap.size = w.heap.size + 1) := by show _ = _; simp
 have hR : Hid (∀ w', Below w.heap.size w w' → Reads w' 32 A n (ds.flatMap cells8)) := fun w' hb => hr.below hb
 have hA : Hid (∀ g, w.heap.size ≤ g → 0 < n → ∀ a, A = some a → a.block ≠ g ∧ some a.block ≠ none) := fun g hg h a e => by
  obtain ⟨b, o, e2, hb, _⟩ := hr.2 (by omega)
  rw [e] at e2
  injection e2 with e2
  subst e2
  exact ⟨by simp; omega, by simp⟩
 have sD : Hid ((Tryd.prog.info? 23).map (·.size) = some (cells8 d).length) := agg_hi size32 (by rw [cells8_len, hd])
 have sC : Hid ((Tryd.prog.info? 23).map (·.size) = some (cells8 ch).length) := agg_hi size32 (by rw [cells8_len, hch])
 have q2 : Hid (∀ v ∈ [cells8 ch], v.length = 32) := by intro v hv; simp only [List.mem_singleton] at hv; rw [hv, cells8_len, hch]
 have d2 : Hid (∀ x ∈ [ch], x.length = 32) := by intro v hv; simp only [List.mem_singleton] at hv; rw [hv, hch]
 obtain ⟨X2, x2⟩ : ∃ X, Hid (X = ([cells8 ch].flatten).toArray) := ⟨_, rfl⟩
 have q1 : Hid (∀ v ∈ [cells8 d], v.length = 32) := by intro v hv; simp only [List.mem_singleton] at hv; rw [hv, cells8_len, hd]
 have d1 : Hid (∀ x ∈ [d], x.length = 32) := by intro v hv; simp only [List.mem_singleton] at hv; rw [hv, hd]
 obtain ⟨X1, x1⟩ : ∃ X, Hid (X = ([cells8 d].flatten).toArray) := ⟨_, rfl⟩
 have hfin : Hid (([] : Text) ++ [50] ++ [kb s.size] ++ nm s ++ [if true = true then 1 else 0] ++ be8 N ++ [ch].flatten ++ [d].flatten ++ ds.flatten = idxB s true (N : Int) ch d ds) := by show _ = _; simp [idxB]
 have hlen : Hid ((idxB s true (N : Int) ch d ds).length = 75 + s.size + 32 * n) := by show _ = _; rw [idxB_len hch hd hds, hn]; simp
 have hnl := Lib.hid (nm_len s)
 replace hs := Lib.hid hs
 replace hn := Lib.hid hn
 replace hd := Lib.hid hd
 replace hds := Lib.hid hds
 replace hn256 := Lib.hid hn256
 replace hN := Lib.hid hN
 replace hch := Lib.hid hch
 have h8 := Lib.hid (be8_len N)
 clear hr hones hok
 go_enter Tryd.func84, Tryd.ntmps84
 go_wp2_with (first
  | ((with_reducible change wpList _ _ _ (⟨some 5, _, _, _, _, _⟩ :: _) _ _); refine wpList_load_row (o := ⟨some 5, _, _, _, _, _⟩) rfl 70 (.tmp 1) rfl w.heap.size rfl 70 cs (0, 0) _ hB0.out Tryd.underlying70 rfl sI.out ?_)
  | (go_at_call 133; refine (hT.out _).mono ?_; rintro e w1 ⟨rfl, hb1⟩; rw [hz0.out] at hb1; have hB1 := (hb1.block w.heap.size (by omega)).trans hB0.out; have bb1 := hb0.out.trans (hb1.mono (by omega)); have hN := Lib.hid (WrAt.new w1).refl; have hR1 := Lib.hid ((hR.out w1 bb1).alloc (.cells #[.slice none 0 0] 173)); have hA1 := Lib.hid (hA.out w1.heap.size bb1.size); have hlt1 : w.heap.size < w1.heap.size := (by have := hb1.size; have := hz0.out; omega); have hBB : Hid (∀ w' l, Wrote (w1.alloc (.cells #[.slice none 0 0] 173)) w1.heap.size none l w' → ∀ j v, cs[j]? = some v → w'.cell? ⟨w.heap.size, j, none⟩ = some v) := (fun w' l h j v hv => ((h.blk (Blk.alloc hB1 _) (by omega) (by simp)).cell j).trans hv); have hbW : Hid (∀ w' l, Wrote (w1.alloc (.cells #[.slice none 0 0] 173)) w1.heap.size none l w' → Below w.heap.size w w') := (fun w' l h => (bb1.alloc bb1.size _).trans (h.below (fun _ e => by cases e) (B := w.heap.size) (by omega) (by simp; omega))); clear hb1 hB1 bb1 hlt1 hB0 hb0)
  | (go_at_call 64; refine (new_any _).mono ?_; rintro e w1 ⟨rfl, rfl⟩)
  | (go_at_call 65; refine (put1_from 50 50 rfl (by simp) hN.out).mono ?_; rintro e w2 ⟨rfl, hW2⟩; have e2 := hBB.out w2 _ hW2 0 _ i0.out; replace hW2 := Lib.hid hW2; clear hN)
  | (go_at_call 66; refine (name_from s hs.out (by have := hs.out; simp; omega) hW2.out).mono ?_; rintro e w3 ⟨rfl, hW3⟩; have e3 := hBB.out w3 _ hW3 1 _ i1.out; replace hW3 := Lib.hid hW3; clear hW2 e2)
  | (go_at_call 134; refine (flag_from true (by have := hs.out; have := hnl.out; simp; omega) hW3.out).mono ?_; rintro e w4 ⟨rfl, hW4⟩; have e4 := hBB.out w4 _ hW4 1 _ i1.out; have e42 := hBB.out w4 _ hW4 2 _ i2.out; have f4 : Hid (∀ j v, (cells8 ch)[j]? = some v → w4.cell? ⟨w.heap.size, 3 + j, none⟩ = some v) := (fun j v hv => hBB.out w4 _ hW4 (3 + j) v (ic.out j v hv)); replace hW4 := Lib.hid hW4; clear hW3 e3)
  | ((with_reducible change wpList _ _ _ (⟨some 27, _, _, _, _, _⟩ :: _) _ _); refine wpList_load_part (o := ⟨some 27, _, _, _, _, _⟩) rfl 23 (.tmp 26) rfl w.heap.size 3 rfl (cells8 ch) _ f4.out Tryd.underlying23 rfl sC.out ?_)
  | ((with_reducible change wpList _ _ _ (⟨some 28, _, _, _, _, _⟩ :: _) _ _); refine wpList_buildAggs (o := ⟨some 28, _, _, _, _, _⟩) rfl 29 23 1 _ rfl 32 (by decide) [cells8 ch] Tryd.underlying29 size32 zero32 rfl (by decide) (by decide) q2.out rfl ?_; rw [← x2.out])
  | (go_at_call 67; have tok := hW4; rw [show X2 = (([ch].map cells8).flatten).toArray from x2.out]; refine (number_new N (by have := hN.out; omega) [ch] 1 rfl d2.out (by have := hs.out; have := hnl.out; simp; omega) hW4.out).mono ?_; rintro e wn ⟨rfl, hWn⟩; have g4 : Hid (∀ j v, (cells8 d)[j]? = some v → wn.cell? ⟨w.heap.size, 35 + j, none⟩ = some v) := (fun j v hv => hBB.out wn _ hWn (35 + j) v (i3.out j v hv)); replace hWn := Lib.hid hWn; clear tok hW4 e4 e42 f4)
  | ((with_reducible change wpList _ _ _ (⟨some 32, _, _, _, _, _⟩ :: _) _ _); refine wpList_load_part (o := ⟨some 32, _, _, _, _, _⟩) rfl 23 (.tmp 31) rfl w.heap.size 35 rfl (cells8 d) _ g4.out Tryd.underlying23 rfl sD.out ?_)
  | ((with_reducible change wpList _ _ _ (⟨some 33, _, _, _, _, _⟩ :: _) _ _); refine wpList_buildAggs (o := ⟨some 33, _, _, _, _, _⟩) rfl 29 23 1 _ rfl 32 (by decide) [cells8 d] Tryd.underlying29 size32 zero32 rfl (by decide) (by decide) q1.out rfl ?_; rw [← x1.out])
  | (go_at_call 70; have tok := hWn; rw [show X1 = (([d].map cells8).flatten).toArray from x1.out]; refine (digests_new [d] 1 rfl d1.out (by have := hs.out; have := hnl.out; have := h8.out; have := hch.out; simp; omega) hWn.out).mono ?_; rintro e w5 ⟨rfl, hW5⟩; have e5 := hBB.out w5 _ hW5 67 _ i4.out; replace hW5 := Lib.hid hW5; clear tok hWn g4)
  | (go_at_call 70; refine (digests_old ds n hn.out hds.out A c (by have := hs.out; have := hnl.out; have := hn256.out; have := hd.out; have := h8.out; have := hch.out; simp; omega) hR1.out hA1.out hW5.out).mono ?_; rintro e w6 ⟨rfl, hW6⟩; rw [hfin.out] at hW6; have b6 := Lib.hid (hbW.out w6 _ hW6); obtain ⟨r6, hA6, -, -⟩ := hW6; replace hA6 := Lib.hid hA6; clear hW5 e5 hR1 hA1 hBB hbW)
  | (go_at_call 71; refine (all_any w1.heap.size r6 (idxB s true (N : Int) ch d ds) w6 (by rw [hlen.out]; have := hs.out; have := hn256.out; omega) hA6.out).mono ?_; rintro e w7 ⟨v, rfl, hb7, ho7⟩; rw [hlen.out] at ho7; obtain ⟨Av, cv, rfl, -⟩ := Own.reads ho7; have bb7 : Hid (Below w.heap.size w w7) := b6.out.trans (hb7.mono b6.out.size); replace ho7 := Lib.hid ho7; clear hb7))
 go_ret2
 exact ⟨_, rfl, bb7.out, ownsRow_base ho7.out b6.out.size⟩

set_option maxRecDepth 100000 in
set_option maxHeartbeats 1000000 in
theorem encodeIndexed_no (s : ByteArray) (hs : s.size ≤ 140737488355328) (f : Bool) (cnt : Int) (ch : Text) (hch : ch.length = 32) (d : Text) (hd : d.length = 32) (A : Option Addr) (n c : Nat) (hok : okIx s f cnt ch d n = false) (w : World) :
  Calls Tryd.prog 84 #[.agg (idxCells s f (entC cnt ch) d A n c).toArray] w fun e w' => e = .returned (.tuple #[.slice none 0 0, .int .i64 170]) ∧ Below w.heap.size w w' := by
 have hT := Lib.hid (fun w' => by have := indexed_any s hs f cnt ch hch d hd A n c w'; rw [hok] at this; exact this)
 obtain ⟨cs, hcs⟩ : ∃ cs : Array Value, (idxCells s f (entC cnt ch) d A n c).toArray = cs := ⟨_, rfl⟩
 have sI : Hid ((Tryd.prog.info? 70).map (·.size) = some cs.size) := by show _ = _; rw [← hcs, List.size_toArray, idx_len (entC_len hch) hd]; kernel_rfl
 rw [hcs] at hT ⊢
 clear hcs hok hs hch hd
 have hB0 : Hid (Blk (w.alloc (.cells cs 70)) w.heap.size 70 cs) := Blk.new w _ _
 have hb0 : Hid (Below w.heap.size w (w.alloc (.cells cs 70))) := Below.heap_below w _
 go_enter Tryd.func84, Tryd.ntmps84
 go_wp2_with (first
  | ((with_reducible change wpList _ _ _ (⟨some 5, _, _, _, _, _⟩ :: _) _ _); refine wpList_load_row (o := ⟨some 5, _, _, _, _, _⟩) rfl 70 (.tmp 1) rfl w.heap.size rfl 70 cs (0, 0) _ hB0.out Tryd.underlying70 rfl sI.out ?_)
  | (go_at_call 133; refine (hT.out _).mono ?_; rintro e w1 ⟨rfl, hb1⟩; have bb1 : Hid (Below w.heap.size w w1) := hb0.out.trans (hb1.mono hb0.out.size); clear hb1))
 go_ret2
 exact ⟨rfl, bb1.out⟩
set_option maxRecDepth 100000 in
theorem encIdx_any (s : ByteArray) (hs : s.size ≤ 140737488355328) (f : Bool) (cnt : Int) (ch : Text) (hch : ch.length = 32) (d : Text) (hd : d.length = 32) (ds : List Text) (A : Option Addr) (n c : Nat) (w : World) (hr : RdD w A n ds) :
  Calls Tryd.prog 84 #[.agg (idxCells s f (entC cnt ch) d A n c).toArray] w fun e w' => ∃ A4 c4 b err, e = .returned (.tuple #[.slice A4 b.length c4, .int .i64 err]) ∧ Reads w' 1 A4 b.length (cells8 b) ∧ ((idxWant s f cnt ch d ds = some b ∧ err = 0) ∨ (idxWant s f cnt ch d ds = none ∧ b = [] ∧ err = 170)) ∧ Below w.heap.size w w' := by
 have hw : idxWant s f cnt ch d ds = if okIx s f cnt ch d n = true then some (idxB s f cnt ch d ds) else none := by unfold idxWant; rw [hr.1]
 cases hok : okIx s f cnt ch d n with
 | false =>
  rw [hok] at hw
  refine (encodeIndexed_no s hs f cnt ch hch d hd A n c hok w).mono ?_
  rintro e w' ⟨rfl, hb⟩
  exact ⟨none, 0, [], 170, rfl, Reads.nil_ _ _ _, .inr ⟨hw, rfl, rfl⟩, hb⟩
 | true =>
  rw [hok] at hw
  have h64 := okIx_64 hok
  have hones := okIx_ones hok
  have hent : okEnt f cnt ch = true := by
   unfold okIx at hok
   simp only [Bool.and_eq_true] at hok
   exact hok.1
  cases f with
  | false =>
   have h0 : cnt = 0 ∧ ch = IdxAny.z32 := of_decide_eq_true hent
   obtain ⟨rfl, rfl⟩ := h0
   have hzl : IdxAny.z32.length = 32 := IdxAny.z32_len
   refine (encodeIndexed_nf s h64 (okIx_name hok) d hd ds n hr.1 hr.2.1 hones A c w hr.2.2).mono ?_
   rintro e w' ⟨v, rfl, hb, ho⟩
   have hl : (idxB s false 0 IdxAny.z32 d ds).length = 35 + s.size + 32 * n := by rw [idxB_len hzl hd hr.2.1, hr.1]; rfl
   rw [← idxB_nf s 0 IdxAny.z32 d ds, ← hl] at ho
   obtain ⟨A4, c4, rfl, -, -, -, hrd, -⟩ := Own.reads ho
   exact ⟨A4, c4, _, 0, rfl, hrd, .inl ⟨hw, rfl⟩, hb⟩
  | true =>
   have h0 : 1 ≤ cnt ∧ cnt ≤ 1099511627776 := of_decide_eq_true hent
   obtain ⟨N, rfl⟩ := Int.eq_ofNat_of_zero_le (show 0 ≤ cnt by omega)
   refine (encodeIndexed_f s h64 N (by omega) ch hch d hd ds n hr.1 hr.2.1 hok A c w hr.2.2).mono ?_
   rintro e w' ⟨v, rfl, hb, ho⟩
   have hl : (idxB s true (N : Int) ch d ds).length = 75 + s.size + 32 * n := by rw [idxB_len hch hd hr.2.1, hr.1]; rfl
   rw [← hl] at ho
   obtain ⟨A4, c4, rfl, -, -, -, hrd, -⟩ := Own.reads ho
   exact ⟨A4, c4, _, 0, rfl, hrd, .inl ⟨hw, rfl⟩, hb⟩
end Go.Proofs.YtmdkfhfkdcbpgaaDoorR.IdxEnc
