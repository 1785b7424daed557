/-
  Texts of the claim, put into one file: TreeMem, TreeRoot, TreeFold.
-/
import Derived.Test.YtgldkfaiofkhbaaGreatDoorZ0
import Derived.Test.YtgldkfaiofkhbaaGreatDoorZ3
import Derived.Test.YtgldkfaiofkhbaaGreatDoorZ8
import Derived.Test.YtgldkfaiofkhbaaGreatDoorZ18

namespace Go.Proofs.YtgldkfaiofkhbaaGreatDoor.TreeMem
open Go Go.RowKit Go.Proofs.YtgldkfaiofkhbaaGreatDoor Mem Sha ShaWalk Bytes HashMem DigestMem DigestTop RefTop QuietTail Grown Chain TreeMath SpotsWalk SpotsMath

theorem LB_log (n : Nat) (h : 2 ≤ n) (h64 : n < 18446744073709551616) : LB ((n : Int) - 1) = (Nat.log2 (n - 1) : Int) + 1 := by
  unfold LB
  rw [show ((n : Int) - 1).toNat = n - 1 by omega]
  obtain ⟨q1, q2, q3⟩ := bitLen_bounds (n := n - 1) (by omega) (by have h64' : (2 : Nat) ^ 64 = 18446744073709551616 := by decide
                                                                   omega)
  have : Nat.log2 (n - 1) = Lib.bitLen (n - 1) - 1 := (Nat.log2_eq_iff (by omega)).2 ⟨q2, by rw [show Lib.bitLen (n - 1) - 1 + 1 = Lib.bitLen (n - 1) by omega]; exact q3⟩
  omega

set_option maxRecDepth 100000 in
set_option maxHeartbeats 1000000 in
theorem left_any (n : Nat) (h2 : 2 ≤ n) (hn : n < 140737488355328) (w : World) :
    Calls Tryz.prog 292 #[.int .i64 (n : Int)] w fun e w' => e = .returned (.int .i64 (half n : Nat)) ∧ w = w' := by
  obtain ⟨m, hm⟩ : ∃ m, Hid (Nat.log2 (n - 1) = m) := ⟨_, Lib.hid rfl⟩
  obtain ⟨p, hp⟩ : ∃ p, Hid (half n = p) := ⟨_, Lib.hid rfl⟩
  have hlt := half_lt h2
  have e1 := LB_log n h2 (by omega)
  rw [hm.out] at e1
  have e2 : wrap64 ((2 : Int) ^ m) = (p : Int) := by
    have : ((2 : Int) ^ m) = (p : Int) := by rw [← hp.out, half, hm.out]; simp
    rw [this]
    rw [hp.out] at hlt
    exact IntWalk.wrap64_in _ (by omega)
  have hm47 : (m : Int) < 47 := by
    have : m < 47 := by
      rw [← hm.out]
      exact (Nat.log2_lt (by omega)).2 (by have h47 : (2 : Nat) ^ 47 = 140737488355328 := by decide
                                           omega)
    omega
  have y0 : (2 : Int) ≤ (n : Int) := by omega
  have y1 : (n : Int) < 140737488355328 := by omega
  have y2 : IntKind.u64.wrap ((n : Int) - 1) = (n : Int) - 1 := u64_in _ (by omega) (by omega)
  rw [hp.out]
  clear hlt h2 hn
  go_enter Tryz.func292, Tryz.ntmps292
  go_wp2_with (go_at_call 124; refine (len_any ((n : Int) - 1) _ (by omega) (by omega)).mono ?_; rw [e1]; rintro e w1 ⟨rfl, rfl⟩)
  go_ret
  refine ⟨?_, rfl⟩
  show Ending.returned (.int .i64 (wrap64 (2 ^ m))) = _
  rw [e2]
end Go.Proofs.YtgldkfaiofkhbaaGreatDoor.TreeMem

namespace Go.Proofs.YtgldkfaiofkhbaaGreatDoor.TreeRoot
open Go Go.RowKit Go.Proofs.YtgldkfaiofkhbaaGreatDoor Digest Mem Sha ShaWalk Bytes HashMem DigestMem DigestTop RefTop QuietTail Grown Chain TreeMath TreeMem

def ndOf (s : Int) (a b : Text) : Text := cutTo (sum (kb 1 :: (a ++ b))) (clampN s)
def noneOf (s : Int) : Text := cutTo (sum []) (clampN s)
theorem ndOf_len (s : Int) (a b : Text) : (ndOf s a b).length = 32 := cutTo_len _ _ (sum_len _) (clampN_ok s).2
theorem noneOf_len (s : Int) : (noneOf s).length = 32 := cutTo_len _ _ (sum_len _) (clampN_ok s).2
end Go.Proofs.YtgldkfaiofkhbaaGreatDoor.TreeRoot

namespace Go.Proofs.YtgldkfaiofkhbaaGreatDoor.TreeFold
open Go Go.RowKit Go.Proofs.YtgldkfaiofkhbaaGreatDoor Digest Mem Sha ShaWalk Bytes HashMem DigestMem DigestTop RefTop QuietTail Grown Chain TreeMath TreeMem TreeRoot

end Go.Proofs.YtgldkfaiofkhbaaGreatDoor.TreeFold
