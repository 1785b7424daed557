/-
  Texts of the claim, put into one file: Chain, Chain2.
-/
import Derived.Test.YtgldkfaiofkhbaaGreatDoorZ16
import Derived.Test.YtgldkfaiofkhbaaGreatDoorZ10

namespace Go.Proofs.YtgldkfaiofkhbaaGreatDoor.Chain
open Go Go.RowKit Go.Proofs.YtgldkfaiofkhbaaGreatDoor Mem Sha ShaWalk Bytes HashMem Hash HashSum DigestMem Digest DigestOf RefSum RefCut RefOf DigestTop RefTop QuietTail Grown

def leafOf (s : Int) (q : Text) : Text := cutTo (sum (kb 0 :: q)) (clampN s)
theorem leafOf_len (s : Int) (q : Text) : (leafOf s q).length = 32 := cutTo_len _ _ (sum_len _) (clampN_ok s).2
end Go.Proofs.YtgldkfaiofkhbaaGreatDoor.Chain

namespace Go.Proofs.YtgldkfaiofkhbaaGreatDoor.Chain2
open Go Go.RowKit Go.Proofs.YtgldkfaiofkhbaaGreatDoor Mem Sha ShaWalk Bytes HashMem DigestMem DigestTop QuietTail Grown Chain

theorem Pieces.take_ {w : World} {A : Option Addr} {ps : List Text} (h : Pieces w A ps) (k : Nat) : Pieces w A (ps.take k) := by
 intro h0
 obtain ⟨b, o, e, hb, hc⟩ := h (by simp at h0; omega)
 refine ⟨b, o, e, hb, fun i q hq => hc i q ?_⟩
 rw [List.getElem?_take] at hq
 by_cases hi : i < k
 ·rw [if_pos hi] at hq; exact hq
 ·rw [if_neg hi] at hq; cases hq
theorem ret_int {k : IntKind} {a b : Int} (h : a = b) : Ending.returned (.int k a) = .returned (.int k b) := by rw [h]
theorem tmod_fix (x m : Int) (hm : 0 < m) : (x.tmod m < 0 → x.tmod m + m = x % m) ∧ (0 ≤ x.tmod m → x.tmod m = x % m) := by
 have h := Int.tmod_eq_emod (a := x) (b := m)
 have h1 := Int.emod_nonneg x (show m ≠ 0 by omega)
 have h2 := Int.emod_lt_of_pos x hm
 have hn : ((m.natAbs : Nat) : Int) = m := by omega
 by_cases hc : 0 ≤ x ∨ m ∣ x
 ·rw [if_pos hc] at h
  refine ⟨fun hh => by omega, fun _ => by omega⟩
 ·rw [if_neg hc] at h
  refine ⟨fun _ => by omega, fun hh => by omega⟩

set_option maxRecDepth 100000 in
set_option maxHeartbeats 1000000 in
theorem within_any (x : Int) (n : Nat) (hn : n < 140737488355328) (w : World) :
  Calls Tryz.prog 16 #[.int .i64 x, .int .i64 0, .int .i64 (n : Int)] w fun e w' => e = .returned (.int .i64 (x % ((n : Int) + 1))) ∧ w = w' := by
 have h := tmod_fix x ((n : Int) + 1) (by omega)
 have h1 := Int.emod_nonneg x (show (n : Int) + 1 ≠ 0 by omega)
 have h2 := Int.emod_lt_of_pos x (show (0 : Int) < (n : Int) + 1 by omega)
 have h3 : -((n : Int) + 1) ≤ x.tmod ((n : Int) + 1) := by
  rcases Int.lt_or_le (x.tmod ((n : Int) + 1)) 0 with hh | hh
  ·have := h.1 hh; omega
  ·omega
 have h4 : x.tmod ((n : Int) + 1) < (n : Int) + 1 := by
  rcases Int.lt_or_le (x.tmod ((n : Int) + 1)) 0 with hh | hh
  ·omega
  ·have := h.2 hh; omega
 have hy : Hid ((x.tmod ((n : Int) + 1) < 0 → x.tmod ((n : Int) + 1) + ((n : Int) + 1) = x % ((n : Int) + 1)) ∧ (0 ≤ x.tmod ((n : Int) + 1) → x.tmod ((n : Int) + 1) = x % ((n : Int) + 1))) := h
 clear h
 have k0 : (n : Int) + 1 ≠ 0 := by omega
 have k1 : (((n : Int) + 1) == 0) = false := by simp; omega
 have k2 : (((n : Int) + 1) == -1) = false := by simp; omega
 by_cases hneg : x.tmod ((n : Int) + 1) < 0
 ·go_enter Tryz.func16, Tryz.ntmps16
  go_wp2_with fail
  go_ret
  have := hy.out.1 hneg
  exact ⟨ret_int (by omega), rfl⟩
 ·go_enter Tryz.func16, Tryz.ntmps16
  go_wp2_with fail
  go_ret
  have := hy.out.2 (by omega)
  exact ⟨ret_int (by omega), rfl⟩

end Go.Proofs.YtgldkfaiofkhbaaGreatDoor.Chain2
