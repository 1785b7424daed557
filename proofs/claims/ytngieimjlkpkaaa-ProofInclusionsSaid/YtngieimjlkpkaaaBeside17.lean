/-
  docketref17.half and docketref17.Beside, walked; how many neighbours there are, told in both ways.
-/
import Derived.Test.YtngieimjlkpkaaaProofBeside
import Derived.Test.YtngieimjlkpkaaaRefSides
namespace Go.Proofs.Ytngieimjlkpkaaa.Beside17
open Go Go.RowKit Go.Proofs.Ytngieimjlkpkaaa Go.Proofs.Ytngieimjlkpkaaa.Mem Go.Proofs.Ytngieimjlkpkaaa.Sha Go.Proofs.Ytngieimjlkpkaaa.Bytes Go.Proofs.Ytngieimjlkpkaaa.TreeMath Go.Proofs.Ytngieimjlkpkaaa.Sides Go.Proofs.Ytngieimjlkpkaaa.RefSides Go.Proofs.Ytngieimjlkpkaaa.ProofBeside

theorem xor1_eq (a : Nat) : a ^^^ 1 = if a % 2 = 1 then a - 1 else a + 1 := by
  have h1 : (a ^^^ 1) / 2 = a / 2 := by
    have h := Nat.shiftRight_xor_distrib (a := a) (b := 1) (i := 1)
    simpa [Nat.shiftRight_succ] using h
  have h2 : ((a ^^^ 1) % 2 = 1) ↔ ¬ ((a % 2 = 1) ↔ (1 % 2 = 1)) := Nat.xor_mod_two_eq_one
  split <;> omega
theorem nb_lvl {n i l : Nat} (hi : i < n) : (lvl n i l).length = if nbAt i l < n then 1 else 0 := by
  unfold lvl nbAt
  rw [xor1_eq]
  by_cases h1 : i / 2 ^ l % 2 = 1
  · rw [if_pos h1, if_pos h1, if_pos]
    · rfl
    · have h2 := Nat.div_mul_le_self i (2 ^ l)
      have h3 := Nat.mul_le_mul_right (2 ^ l) (Nat.sub_le (i / 2 ^ l) 1)
      omega
  · rw [if_neg h1, if_neg h1]
    split <;> rfl
theorem cnt_lv {n i : Nat} (hi : i < n) : ∀ k, cnt n i k = (lv n i k).length
  | 0 => rfl
  | k + 1 => by rw [lv_succ, List.length_append, nb_lvl hi, ← cnt_lv hi k]; rfl
theorem levels_pow (size : Nat) : size ≤ 2 ^ levels size := by
  rcases Nat.lt_or_ge (2 ^ levels size) size with h | h
  · have := levels_lt h; omega
  · exact h
theorem beside_sides {n i : Nat} (hi : i < n) : besideOf n i = (sides n i).length := by
  unfold besideOf
  rw [cnt_lv hi, sides_eq hi (levels_pow n)]
theorem half_pow (n : Nat) : ∃ m, half n = 2 ^ m := ⟨_, rfl⟩
theorem pow_le_half {m n : Nat} (h2 : 2 ≤ n) (h : 2 ^ m < n) : 2 ^ m ≤ half n := by
  unfold half
  exact Nat.pow_le_pow_right (by omega) ((Nat.le_log2 (by omega)).2 (by omega))

set_option maxRecDepth 100000 in
set_option maxHeartbeats 1000000 in
theorem half17_any (n : Nat) (h2 : 2 ≤ n) (hn : n ≤ 1099511627776) (w : World) :
    Calls Try.prog 57 #[.int .i64 n] w fun e w' => e = .returned (.int .i64 (half n : Nat)) ∧ w = w' := by
  have hlt := half_lt h2
  obtain ⟨H, hH⟩ : ∃ H, Hid (half n = H) := ⟨_, Lib.hid rfl⟩
  rw [hH.out] at hlt ⊢
  go_enter Try.func57, Try.ntmps57
  go_wp2_with fail
  go_loop [3] (fun v => ∃ k m : Nat, v = .int .i64 (k : Int) ∧ Hid (k = 2 ^ m) ∧ 1 ≤ k ∧ k ≤ H) (fun v => H - (intOf v).toNat)
  case atStart => exact ⟨1, 0, rfl, rfl, Nat.le_refl _, by have := half_pos n; rw [hH.out] at this; exact this⟩
  case round =>
    obtain ⟨k, m, rfl, hm, hk1, hk⟩ := hrel
    have z1 : IntKind.i64.wrap (2 * (k : Int)) = 2 * (k : Int) := IntWalk.i64_in _ (by omega)
    have z2 : wrap64 (2 * (k : Int)) = 2 * (k : Int) := IntWalk.wrap64_in _ (by omega)
    have hk0 : (0 : Int) ≤ (k : Int) := by omega
    have hkb : (k : Int) ≤ 1099511627776 := by omega
    by_cases hc : 2 * k < n
    · have hz : 2 * (k : Int) < (n : Int) := by omega
      have hm2 : Hid (2 * k = 2 ^ (m + 1)) := by show _ = _; rw [hm.out, Nat.pow_succ, Nat.mul_comm]
      have hle : Hid (2 * k ≤ H) := (by show _ ≤ _; rw [hm2.out, ← hH.out]; exact pow_le_half h2 (by rw [← hm2.out]; exact hc))
      clear hc
      go_wp2_with fail
      go_round
      case rel => exact ⟨2 * k, m + 1, by go_num, hm2.out, by omega, hle.out⟩
      case measure => (have := hle.out; simp [intOf]; omega)
    · have hz : ¬ (2 * (k : Int) < (n : Int)) := by omega
      have he : Hid (k = H) := by
        show k = H
        have h3 := half_ge n
        have h4 := hH.out
        obtain ⟨a, ha⟩ := half_pow n
        have h5 : 2 ^ m ≤ 2 ^ a := by have := hm.out; omega
        have h6 : m = a := by
          rcases Nat.lt_or_ge m a with h | h
          · have := Nat.pow_le_pow_right (show 0 < 2 by omega) (show m + 1 ≤ a from h)
            rw [Nat.pow_succ] at this
            have := hm.out
            omega
          · rcases Nat.lt_or_ge a m with h' | h'
            · have := Nat.pow_lt_pow_right (show 1 < 2 by omega) h'
              omega
            · omega
        have := hm.out
        rw [h6] at this
        omega
      clear hc
      go_wp2_with fail
      go_ret
      exact ⟨by rw [he.out]; rfl, rfl⟩

set_option maxRecDepth 100000 in
set_option maxHeartbeats 1000000 in
theorem beside17_no (size i : Int) (h : insideB size i = false) (w : World) :
    Calls Try.prog 37 #[.int .i64 size, .int .i64 i] w fun e w' => e = .returned (.int .i64 (-1)) ∧ w = w' := by
  have hc : size < 1 ∨ (1 ≤ size ∧ 1099511627776 < size) ∨ (1 ≤ size ∧ size ≤ 1099511627776 ∧ i < 0) ∨ (1 ≤ size ∧ size ≤ 1099511627776 ∧ 0 ≤ i ∧ size ≤ i) := by
    simp only [insideB, Bool.and_eq_false_iff, decide_eq_false_iff_not] at h
    omega
  clear h
  rcases hc with h1 | ⟨h1, h2⟩ | ⟨h1, h2, h3⟩ | ⟨h1, h2, h3, h4⟩
  · have y1 : decide (size < 1) = true := decide_eq_true h1
    clear h1
    go_enter Try.func37, Try.ntmps37
    go_wp2_with fail
    go_ret
    exact ⟨rfl, rfl⟩
  · have y1 : decide (size < 1) = false := decide_eq_false (by omega)
    have y2 : decide (1099511627776 < size) = true := decide_eq_true h2
    clear h1 h2
    go_enter Try.func37, Try.ntmps37
    go_wp2_with fail
    go_ret
    exact ⟨rfl, rfl⟩
  · have y1 : decide (size < 1) = false := decide_eq_false (by omega)
    have y2 : decide (1099511627776 < size) = false := decide_eq_false (by omega)
    have y3 : decide (i < 0) = true := decide_eq_true h3
    clear h1 h2 h3
    go_enter Try.func37, Try.ntmps37
    go_wp2_with fail
    go_ret
    exact ⟨rfl, rfl⟩
  · have y1 : decide (size < 1) = false := decide_eq_false (by omega)
    have y2 : decide (1099511627776 < size) = false := decide_eq_false (by omega)
    have y3 : decide (i < 0) = false := decide_eq_false (by omega)
    have y4 : decide (size ≤ i) = true := decide_eq_true h4
    clear h1 h2 h3 h4
    go_enter Try.func37, Try.ntmps37
    go_wp2_with fail
    go_ret
    exact ⟨rfl, rfl⟩

set_option maxRecDepth 100000 in
set_option maxHeartbeats 1000000 in
theorem beside17_yes (size i : Nat) (hs : size ≤ 1099511627776) (hi : i < size) (w : World) :
    Calls Try.prog 37 #[.int .i64 size, .int .i64 i] w fun e w' => e = .returned (.int .i64 ((sides size i).length : Nat)) ∧ w = w' := by
  have y1 : decide ((size : Int) < 1) = false := decide_eq_false (by omega)
  have y2 : decide (1099511627776 < (size : Int)) = false := decide_eq_false (by omega)
  have y3 : decide ((i : Int) < 0) = false := decide_eq_false (by omega)
  have y4 : decide (size ≤ i) = false := decide_eq_false (by omega)
  have h40 : Hid ((sides size i).length ≤ 40) := sides_len hi (by rw [show (2 : Nat) ^ 40 = 1099511627776 by decide]; omega)
  obtain ⟨N, hN⟩ : ∃ N, Hid ((sides size i).length = N) := ⟨_, Lib.hid rfl⟩
  rw [hN.out] at h40 ⊢
  go_enter Try.func37, Try.ntmps37
  go_wp2_with fail
  clear y1 y2 y3 y4
  go_loop [0, 1, 5] (fun a b c => ∃ s j m : Nat, a = .int .i64 (s : Int) ∧ b = .int .i64 (j : Int) ∧ c = .int .i64 (m : Int) ∧ s ≤ size ∧ j < s ∧ Hid (m + (sides s j).length = N)) (fun a _ _ => (intOf a).toNat)
  case atStart => exact ⟨size, i, 0, rfl, rfl, rfl, Nat.le_refl _, hi, by show _ = _; rw [Nat.zero_add, hN.out]⟩
  case round =>
    obtain ⟨s, j, m, rfl, rfl, rfl, hss, hj, hm⟩ := hrel
    have hs0 : (0 : Int) ≤ (s : Int) := by omega
    have hj0 : (0 : Int) ≤ (j : Int) := by omega
    have hm0 : (0 : Int) ≤ (m : Int) := by omega
    have hm40 : (m : Int) ≤ 40 := by have := hm.out; have := h40.out; omega
    by_cases h1 : 1 < s
    · have hz : (1 : Int) < (s : Int) := by omega
      have hlt := half_lt (n := s) (by omega)
      have hpos := half_pos s
      have hT := Lib.hid (fun w' => half17_any s (by omega) (by omega) w')
      have hL := Lib.hid (fun h => sides_left (n := s) (j := j) (by omega) h)
      have hR := Lib.hid (fun h => sides_right (n := s) (j := j) (by omega) h hj)
      obtain ⟨k, hk⟩ : ∃ k, half s = k := ⟨_, rfl⟩
      rw [hk] at hlt hpos hT hL hR
      clear hk
      by_cases hc : j < k
      · have hz2 : (j : Int) < (k : Int) := by omega
        have hm2 : Hid (m + 1 + (sides k j).length = N) := by
          have := hm.out
          rw [hL.out hc, List.length_append] at this
          show _ = _
          simp at this
          omega
        have hc2 : Hid (j < k) := hc
        clear hc hL hR
        go_wp2_with (go_at_call 57; refine (hT.out _).mono ?_; rintro e w' ⟨rfl, rfl⟩)
        go_round
        case rel => exact ⟨k, j, m + 1, rfl, rfl, by go_num, by omega, hc2.out, hm2.out⟩
        case measure => simp [intOf]; omega
      · have hz2 : ¬ ((j : Int) < (k : Int)) := by omega
        have hm2 : Hid (m + 1 + (sides (s - k) (j - k)).length = N) := by
          have := hm.out
          rw [hR.out (by omega), List.length_append] at this
          show _ = _
          simp at this
          omega
        have z1 : ((s : Int) - (k : Int)) = ((s - k : Nat) : Int) := by omega
        have z2 : ((j : Int) - (k : Int)) = ((j - k : Nat) : Int) := by omega
        have hc2 : Hid (k ≤ j) := by show _ ≤ _; omega
        clear hc hL hR
        go_wp2_with (go_at_call 57; refine (hT.out _).mono ?_; rintro e w' ⟨rfl, rfl⟩)
        go_round
        case rel => exact ⟨s - k, j - k, m + 1, (by first | rfl | (congr 1; omega)), (by first | rfl | (have := hc2.out; congr 1; omega)), by go_num, by omega, by have := hc2.out; omega, hm2.out⟩
        case measure => (have := hc2.out; simp [intOf]; omega)
    · have hz : ¬ ((1 : Int) < (s : Int)) := by omega
      have he : Hid (m = N) := by
        have := hm.out
        rw [sides_small (by omega)] at this
        exact this
      clear h1
      go_wp2_with fail
      go_ret
      exact ⟨by rw [he.out]; rfl, rfl⟩
end Go.Proofs.Ytngieimjlkpkaaa.Beside17
