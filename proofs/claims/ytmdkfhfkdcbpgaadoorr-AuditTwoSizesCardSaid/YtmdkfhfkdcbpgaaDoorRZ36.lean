/-
  Texts of the claim, put into one file: TreeJoins.
-/
import Derived.Test.YtmdkfhfkdcbpgaaDoorRZ31
import Derived.Test.YtmdkfhfkdcbpgaaDoorRZ35
import Derived.Test.YtmdkfhfkdcbpgaaDoorRZ32
import Derived.Test.YtmdkfhfkdcbpgaaDoorRZ30
import Derived.Test.YtmdkfhfkdcbpgaaDoorRZ28
import Derived.Test.YtmdkfhfkdcbpgaaDoorRZ11

namespace Go.Proofs.YtmdkfhfkdcbpgaaDoorR.TreeJoins
open Go Go.RowKit Go.Proofs.YtmdkfhfkdcbpgaaDoorR Digest Mem Sha ShaWalk Bytes Go.Proofs.YtmdkfhfkdcbpgaaDoorR.Append HashMem DigestMem DigestTop QuietTail Grown Chain TreeMath TreeMem TreeRoot Held Guard Book Node NodeW WayP RevP TreeRefRoot Climb Incl Subs RowsP Joint RefIncl0 AheadM AheadT Ahead AheadX Agree Book2 DigEq RowsT Guard2 Want TwiceP ClashM Clash MetW

theorem agree_taken {s old size : Int} {r0 r1 : Text} {ds : List Text} (h : agreeOf s old size r0 r1 ds = 0) : ∃ o z : Nat, old = (o : Int) ∧ size = (z : Int) ∧ o ≤ z ∧ z ≤ 1099511627776 ∧ betw o z = ds.length ∧ agA s o z r0 ds = r0 ∧ agB s o z r0 r1 ds = r1 := by
 unfold agreeOf at h
 cases hj : joinsB old size with
 | false => rw [if_pos hj] at h; exact absurd h (by decide)
 | true =>
  rw [if_neg (by rw [hj]; decide)] at h
  simp only [joinsB, Bool.and_eq_true, decide_eq_true_eq] at hj
  obtain ⟨o, rfl⟩ := Int.eq_ofNat_of_zero_le hj.1.1
  obtain ⟨z, rfl⟩ := Int.eq_ofNat_of_zero_le (show 0 ≤ size by omega)
  rw [Int.toNat_natCast, Int.toNat_natCast] at h
  by_cases hb : betw o z ≠ ds.length
  ·rw [if_pos hb] at h; exact absurd h (by decide)
  ·rw [if_neg hb] at h
   by_cases hc : agA s o z r0 ds = r0 ∧ agB s o z r0 r1 ds = r1
   ·exact ⟨o, z, rfl, rfl, by omega, by omega, by omega, hc.1, hc.2⟩
   ·rw [if_neg hc] at h; exact absurd h (by decide)
theorem agree_in_mid {s : Int} {o z : Nat} {r0 r1 : Text} {ds : List Text} (h1 : 1 ≤ o) (h2 : o < z) (ha : agA s o z r0 ds = r0) (hb : agB s o z r0 r1 ds = r1) : (aheadOf s o z r0 ds).fr = r0 ∧ (aheadOf s o z r0 ds).sr = r1 := by
 unfold agA at ha
 unfold agB at hb
 rw [if_neg (by omega), if_neg (by omega)] at ha hb
 exact ⟨ha, hb⟩
end Go.Proofs.YtmdkfhfkdcbpgaaDoorR.TreeJoins
