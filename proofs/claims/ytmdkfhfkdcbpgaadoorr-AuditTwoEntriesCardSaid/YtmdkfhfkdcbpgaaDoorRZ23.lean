/-
  Texts of the claim, put into one file: Law20.
-/
import Derived.Test.YtmdkfhfkdcbpgaaDoorRZ9
import Derived.Test.YtmdkfhfkdcbpgaaDoorRZ7

namespace Go.Proofs.YtmdkfhfkdcbpgaaDoorR.Law20
open Go Go.RowKit Go.Proofs.YtmdkfhfkdcbpgaaDoorR Mem Sha Bytes QuietTail Grown TreeMem TreeRoot Held Book Book2

set_option maxRecDepth 100000 in
theorem few20_yes (A : Option Addr) (n c : Nat) (hn : n ≤ 300) (w : World) :
  Calls Tryd.prog 32 #[.slice A n c, .int .i64 300] w fun e w' => e = .returned (.slice A n c) ∧ w = w' := by
 have h1 : (n : Int) ≤ 300 := by omega
 go_enter Tryd.func32, Tryd.ntmps32
 go_wp2_with fail
 go_ret
 exact ⟨rfl, rfl⟩
set_option maxRecDepth 100000 in
theorem few20_no (A : Option Addr) (n c : Nat) (hn : 300 < n) (hc : n ≤ c) (w : World) :
  Calls Tryd.prog 32 #[.slice A n c, .int .i64 300] w fun e w' => e = .returned (.slice A 300 c) ∧ w = w' := by
 have h1 : (300 : Int) < (n : Int) := by omega
 have X := run_headD (A := A) (n := n) (c := c) (k := 300) (by omega) 300 rfl
 go_enter Tryd.func32, Tryd.ntmps32
 go_wp2_with fail
 go_ret
 exact ⟨rfl, rfl⟩
theorem few20_any (A : Option Addr) (n c : Nat) (hc : n ≤ c) (w : World) :
  Calls Tryd.prog 32 #[.slice A n c, .int .i64 300] w fun e w' => e = .returned (.slice A (min n 300) c) ∧ w = w' := by
 by_cases h : n ≤ 300
 ·rw [Nat.min_eq_left h]
  exact few20_yes A n c h w
 ·rw [Nat.min_eq_right (by omega)]
  exact few20_no A n c (by omega) hc w

end Go.Proofs.YtmdkfhfkdcbpgaaDoorR.Law20
