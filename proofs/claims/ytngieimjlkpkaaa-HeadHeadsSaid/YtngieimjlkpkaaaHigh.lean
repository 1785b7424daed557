/-
  The reference's High, walked.
-/
import Derived.Test.YtngieimjlkpkaaaDecode
namespace Go.Proofs.Ytngieimjlkpkaaa.High
open Go Go.RowKit Go.Proofs.Ytngieimjlkpkaaa Go.Proofs.Ytngieimjlkpkaaa.Mem Go.Proofs.Ytngieimjlkpkaaa.Sha Go.Proofs.Ytngieimjlkpkaaa.Bytes Go.Proofs.Ytngieimjlkpkaaa.Append Go.Proofs.Ytngieimjlkpkaaa.Octet Go.Proofs.Ytngieimjlkpkaaa.QuietTail Go.Proofs.Ytngieimjlkpkaaa.Grown Go.Proofs.Ytngieimjlkpkaaa.Reader Go.Proofs.Ytngieimjlkpkaaa.Reader2 Go.Proofs.Ytngieimjlkpkaaa.Reader3 Go.Proofs.Ytngieimjlkpkaaa.HeadMem Go.Proofs.Ytngieimjlkpkaaa.HeadTake Go.Proofs.Ytngieimjlkpkaaa.HeadTake2 Go.Proofs.Ytngieimjlkpkaaa.Decode

theorem take_num0 (l : Text) (j : Nat) (hj : j < l.length) : num (l.take (j + 1)) = num (l.take j) * 256 + (l.getD j 0).toNat := by
  have h : l[j]? = some (l.getD j 0) := by simp [List.getD, hj]
  rw [List.take_add_one, h, Option.toList_some, num_snoc]

def highOut (l : Text) (L : Nat) : Value := .tuple #[.int .i64 (wrap64 (num l : Int)), .bool (decide (num l ≤ L))]

set_option maxRecDepth 100000 in
set_option maxHeartbeats 1000000 in
theorem high_any (l : Text) (hl : l.length = 8) (L : Nat) (hL : L ≤ 4611686018427387904) (A : Option Addr) (c : Nat) (w : World) (hr : Reads w 1 A 8 (cells8 l)) :
    Calls Try.prog 56 #[.slice A 8 c, .int .i64 (L : Int)] w fun e w' => e = .returned (highOut l L) ∧ w = w' := by
  obtain ⟨b, o, rfl, hbl, hcell⟩ := hr.2 (by omega)
  have hcell' : Hid (∀ j, j < 8 → w.cell? ⟨b, o + j, none⟩ = some (.int .u8 (b8 (l.getD j 0)))) := fun j hj => hcell j _ (cells8_at l j (by omega))
  have e0 : IntKind.u64.wrap (L : Int) = (L : Int) := u64_in _ (by omega) (by omega)
  clear hcell hbl hr
  replace hl := Lib.hid hl
  replace hL := Lib.hid hL
  go_enter Try.func56, Try.ntmps56
  go_wp2_with fail
  go_loop [6, 7] (fun v u => ∃ j N : Nat, u = .int .i64 (j : Int) ∧ v = .int .u64 (N : Int) ∧ Hid (j ≤ 8) ∧ Hid (N = num (l.take j))) (fun _ u => 8 - (intOf u).toNat)
  case atStart => exact ⟨0, 0, rfl, rfl, (show 0 ≤ 8 by omega), rfl⟩
  case round =>
    obtain ⟨j, N, rfl, rfl, hj, hNd⟩ := hrel
    by_cases hlt : j < 8
    · have z1 : (j : Int) < 8 := by omega
      have z2 : (0 : Int) ≤ (j : Int) := by omega
      have hNl : N < 72057594037927936 := by
        rw [hNd.out]
        have h1 := num_lt (l.take j).length _ rfl
        have h2 : (l.take j).length ≤ 7 := by rw [List.length_take]; omega
        exact Nat.lt_of_lt_of_le h1 (Nat.le_trans (Nat.pow_le_pow_right (by decide) h2) (by decide))
      have hcj := hcell'.out j hlt
      obtain ⟨y, hy⟩ : ∃ y, Hid (y = l.getD j 0) := ⟨_, rfl⟩
      rw [← hy.out] at hcj
      have hst : Hid (N * 256 + y.toNat = num (l.take (j + 1))) := by
        show _ = _
        rw [take_num0 l j (by have := hl.out; omega), ← hNd.out, hy.out]
      have f0 := b8_nonneg y
      have f1 := b8_lt y
      have f2 : IntKind.u64.wrap (b8 y) = b8 y := u64_in _ f0 (by omega)
      have f3 : IntKind.u64.wrap ((N : Int) * 256) = (N : Int) * 256 := u64_in _ (by omega) (by omega)
      have f4 : (N : Int) * 256 % 18446744073709551616 = (N : Int) * 256 := by omega
      obtain ⟨M, hM⟩ : ∃ M, Hid (M = N * 256 + y.toNat) := ⟨_, rfl⟩
      have f5 : IntKind.u64.wrap ((N : Int) * 256 + b8 y) = (M : Int) := by rw [u64_in _ (by omega) (by omega), hM.out]; unfold b8; omega
      rw [← hM.out] at hst
      replace hNl := Lib.hid hNl
      go_wp2_with fail
      go_round
      case rel => exact ⟨j + 1, M, by go_num, rfl, (show j + 1 ≤ 8 by omega), hst.out⟩
      case measure => simp [intOf]; omega
    · obtain rfl : j = 8 := by have := hj.out; omega
      have hT : Hid (N = num l) := by show _ = _; rw [hNd.out, List.take_of_length_le (by have := hl.out; omega)]
      clear hNd hj hlt
      by_cases hle : N ≤ L
      · have t1 : (N : Int) ≤ (L : Int) := by omega
        have hO : Hid (highOut l L = .tuple #[.int .i64 (wrap64 (N : Int)), .bool true]) := by show _ = _; unfold highOut; rw [← hT.out, decide_eq_true hle]
        go_wp2_with fail
        go_ret2
        exact ⟨by rw [hO.out]; rfl, rfl⟩
      · have t1 : (L : Int) < (N : Int) := by omega
        have hO : Hid (highOut l L = .tuple #[.int .i64 (wrap64 (N : Int)), .bool false]) := by show _ = _; unfold highOut; rw [← hT.out, decide_eq_false hle]
        go_wp2_with fail
        go_ret2
        exact ⟨by rw [hO.out]; rfl, rfl⟩
end Go.Proofs.Ytngieimjlkpkaaa.High
