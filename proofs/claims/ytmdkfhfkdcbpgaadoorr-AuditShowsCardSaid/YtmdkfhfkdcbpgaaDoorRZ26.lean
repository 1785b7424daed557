/-
  Texts of the claim, put into one file: Law20.
-/
import Derived.Test.YtmdkfhfkdcbpgaaDoorRZ8
import Derived.Test.YtmdkfhfkdcbpgaaDoorRZ23

namespace Go.Proofs.YtmdkfhfkdcbpgaaDoorR.Law20
open Go Go.RowKit Go.Proofs.YtmdkfhfkdcbpgaaDoorR Go.Proofs.YtmdkfhfkdcbpgaaDoorR.Mem Go.Proofs.YtmdkfhfkdcbpgaaDoorR.Sha Go.Proofs.YtmdkfhfkdcbpgaaDoorR.Bytes Go.Proofs.YtmdkfhfkdcbpgaaDoorR.QuietTail Go.Proofs.YtmdkfhfkdcbpgaaDoorR.Grown Go.Proofs.YtmdkfhfkdcbpgaaDoorR.TreeMem Go.Proofs.YtmdkfhfkdcbpgaaDoorR.TreeRoot Go.Proofs.YtmdkfhfkdcbpgaaDoorR.Held Go.Proofs.YtmdkfhfkdcbpgaaDoorR.Book Go.Proofs.YtmdkfhfkdcbpgaaDoorR.Book2

def mk0 : Text := [165, 90, 165] ++ List.replicate 29 0
theorem mk0_len : mk0.length = 32 := rfl
set_option maxRecDepth 100000 in
set_option maxHeartbeats 1000000 in
theorem stranger20_any (w : World) : Calls Tryd.prog 34 #[] w fun e w' => e = .returned (.agg (cells8 mk0).toArray) ∧ Below w.heap.size w w' := by
  have hB0 : Hid (Blk (w.alloc (.cells Z32 23)) w.heap.size 23 Z32) := Blk.new w _ _
  have hb0 : Hid (Below w.heap.size w (w.alloc (.cells Z32 23))) := Below.heap_below w _
  have F := Lib.hid (fit (x := mk0) mk0_len)
  go_enter Tryd.func34, Tryd.ntmps34
  go_wp2_with ((with_reducible change wpList _ _ _ ({ dst := none, op := Op.store 23 _ _, type := _, pos := _, after := _, guard := _ } :: _) _ _); refine wpList_store_row (o := ⟨none, _, _, _, _, _⟩) rfl 23 (.tmp 0) (.tmp 1) rfl w.heap.size (cells8 mk0).toArray rfl rfl 23 Z32 hB0.out F.out.size F.out.zero F.out.one ?_)
  refine bodyPost_ret (results_cell_row rfl _ _ w.heap.size 23 (cells8 mk0).toArray (0, 0) _ rfl (setRow_heap _ _ _ _ _ _ hB0.out) Tryd.underlying23 rfl F.out.size) rfl ?_
  exact ⟨rfl, below_setRow hb0.out (Nat.le_refl _) _⟩
set_option maxRecDepth 100000 in
theorem few20_yes (A : Option Addr) (n c : Nat) (hn : n ≤ 300) (w : World) :
    Calls Tryd.prog 32 #[.slice A n c, .int .i64 300] w fun e w' => e = .returned (.slice A n c) ∧ w = w' := by
  have h1 : (n : Int) ≤ 300 := by omega
  go_enter Tryd.func32, Tryd.ntmps32
  go_wp2_with fail
  go_ret
  exact ⟨rfl, rfl⟩
set_option maxRecDepth 100000 in
theorem few20_no (A : Option Addr) (n c : Nat) (hn : 300 < n) (hc : n ≤ c) (w : World) :
    Calls Tryd.prog 32 #[.slice A n c, .int .i64 300] w fun e w' => e = .returned (.slice A 300 c) ∧ w = w' := by
  have h1 : (300 : Int) < (n : Int) := by omega
  have X := run_headD (A := A) (n := n) (c := c) (k := 300) (by omega) 300 rfl
  go_enter Tryd.func32, Tryd.ntmps32
  go_wp2_with fail
  go_ret
  exact ⟨rfl, rfl⟩
theorem few20_any (A : Option Addr) (n c : Nat) (hc : n ≤ c) (w : World) :
    Calls Tryd.prog 32 #[.slice A n c, .int .i64 300] w fun e w' => e = .returned (.slice A (min n 300) c) ∧ w = w' := by
  by_cases h : n ≤ 300
  · rw [Nat.min_eq_left h]
    exact few20_yes A n c h w
  · rw [Nat.min_eq_right (by omega)]
    exact few20_no A n c (by omega) hc w

end Go.Proofs.YtmdkfhfkdcbpgaaDoorR.Law20
