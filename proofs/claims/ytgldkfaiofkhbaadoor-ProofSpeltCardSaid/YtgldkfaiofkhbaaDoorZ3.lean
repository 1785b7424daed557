/-
  Texts of the claim, put into one file: Len.
-/
import Derived.Test.YtgldkfaiofkhbaaDoorZ0
import Derived.Test.YtgldkfaiofkhbaaDoorZ1
import Derived.Test.YtgldkfaiofkhbaaDoorShelf
import Derived.Lib.Hide
import Derived.Outline
import Derived.IntWalk

namespace Go.Proofs.YtgldkfaiofkhbaaDoor.Len
open Go Go.RowKit Go.Proofs.YtgldkfaiofkhbaaDoor Go.Proofs.YtgldkfaiofkhbaaDoor.TreeMath Go.Proofs.YtgldkfaiofkhbaaDoor.SpotsMath

theorem bitLen_log (n : Nat) (h : 2 ≤ n) (h64 : n < 18446744073709551616) : Lib.bitLen (n - 1) = Nat.log2 (n - 1) + 1 := by
  obtain ⟨q1, q2, q3⟩ := bitLen_bounds (n := n - 1) (by omega) (by have h64' : (2 : Nat) ^ 64 = 18446744073709551616 := by decide
                                                                   omega)
  have : Nat.log2 (n - 1) = Lib.bitLen (n - 1) - 1 := (Nat.log2_eq_iff (by omega)).2 ⟨q2, by rw [show Lib.bitLen (n - 1) - 1 + 1 = Lib.bitLen (n - 1) by omega]; exact q3⟩
  omega
theorem lenHalf_any (n : Nat) (h2 : 2 ≤ n) (hn : n ≤ 1099511627776) (w : World) :
    Calls Tryd.prog 96 #[.int .u64 ((n : Int) - 1)] w fun e w' => e = .returned (.int .i64 ((Nat.log2 (n - 1) : Int) + 1)) ∧ w = w' :=
  (Tryd.bits_Len ((n : Int) - 1) w (by omega) (by omega)).mono fun _ _ ⟨h, k⟩ => ⟨by rw [h, show ((n : Int) - 1).toNat = n - 1 by omega, bitLen_log n h2 (by omega)]; rfl, k.symm⟩
end Go.Proofs.YtgldkfaiofkhbaaDoor.Len
