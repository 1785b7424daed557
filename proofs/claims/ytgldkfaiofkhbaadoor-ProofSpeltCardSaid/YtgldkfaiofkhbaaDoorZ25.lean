/-
  Texts of the claim, put into one file: Betw.
-/
import Derived.Test.YtgldkfaiofkhbaaDoorZ0
import Derived.Test.YtgldkfaiofkhbaaDoorZ3
import Derived.Test.YtgldkfaiofkhbaaDoorZ5
import Derived.Outline

namespace Go.Proofs.YtgldkfaiofkhbaaDoor.Betw
open Go Go.RowKit Go.Proofs.YtgldkfaiofkhbaaDoor Go.Proofs.YtgldkfaiofkhbaaDoor.Mem Go.Proofs.YtgldkfaiofkhbaaDoor.Bytes Go.Proofs.YtgldkfaiofkhbaaDoor.TreeMath Go.Proofs.YtgldkfaiofkhbaaDoor.Subs Go.Proofs.YtgldkfaiofkhbaaDoor.Len

theorem joins_four (x y : Int) (h : joinsB x y = false) : x < 0 ∨ (0 ≤ x ∧ y < x) ∨ (0 ≤ x ∧ x ≤ y ∧ 1099511627776 < y) := by
  simp only [joinsB, Bool.and_eq_false_iff, decide_eq_false_iff_not] at h
  omega
set_option maxRecDepth 100000 in
set_option maxHeartbeats 1000000 in
theorem between_no (x y : Int) (h : joinsB x y = false) (w : World) :
    Calls Tryd.prog 69 #[.int .i64 x, .int .i64 y] w fun e w' => e = .returned (.tuple #[.int .i64 0, .bool false]) ∧ w = w' := by
  rcases joins_four x y h with h1 | ⟨h1, h2⟩ | ⟨h1, h2, h3⟩
  · have y1 : decide (x < 0) = true := decide_eq_true h1
    clear h1 h
    go_enter Tryd.func69, Tryd.ntmps69
    go_wp2_with fail
    go_ret2
    exact ⟨rfl, rfl⟩
  · have y1 : decide (x < 0) = false := decide_eq_false (by omega)
    have y2 : decide (y < x) = true := decide_eq_true h2
    clear h1 h2 h
    go_enter Tryd.func69, Tryd.ntmps69
    go_wp2_with fail
    go_ret2
    exact ⟨rfl, rfl⟩
  · have y1 : decide (x < 0) = false := decide_eq_false (by omega)
    have y2 : decide (y < x) = false := decide_eq_false (by omega)
    have y3 : decide (1099511627776 < y) = true := decide_eq_true h3
    clear h1 h2 h3 h
    go_enter Tryd.func69, Tryd.ntmps69
    go_wp2_with fail
    go_ret2
    exact ⟨rfl, rfl⟩

set_option maxRecDepth 100000 in
set_option maxHeartbeats 1000000 in
theorem between_none (y : Nat) (hy : y ≤ 1099511627776) (w : World) :
    Calls Tryd.prog 69 #[.int .i64 (0 : Nat), .int .i64 y] w fun e w' => e = .returned (.tuple #[.int .i64 0, .bool true]) ∧ w = w' := by
  have y1 : ¬ ((y : Int) < 0) := by omega
  have y2 : ¬ (1099511627776 < (y : Int)) := by omega
  clear hy
  go_enter Tryd.func69, Tryd.ntmps69
  go_wp2_with fail
  go_ret2
  exact ⟨rfl, rfl⟩
set_option maxRecDepth 100000 in
set_option maxHeartbeats 1000000 in
theorem between_same (y : Nat) (hy : y ≤ 1099511627776) (h1 : 1 ≤ y) (w : World) :
    Calls Tryd.prog 69 #[.int .i64 y, .int .i64 y] w fun e w' => e = .returned (.tuple #[.int .i64 0, .bool true]) ∧ w = w' := by
  have y1 : ¬ ((y : Int) < 0) := by omega
  have y2 : ¬ (1099511627776 < (y : Int)) := by omega
  have y3 : ¬ ((y : Int) < (y : Int)) := by omega
  have y4 : ((y : Int) == 0) = false := beq_eq_false_iff_ne.2 (by omega)
  have y5 : ¬ y = 0 := by omega
  have y6 : ((y : Int) == (y : Int)) = true := beq_self_eq_true _
  clear hy h1
  go_enter Tryd.func69, Tryd.ntmps69
  go_wp2_with fail
  go_ret2
  exact ⟨rfl, rfl⟩
theorem ret2i {a a' : Int} {b b' : Bool} (h1 : a = a') (h2 : b = b') : Ending.returned (.tuple #[.int .i64 a, .bool b]) = .returned (.tuple #[.int .i64 a', .bool b']) := by rw [h1, h2]

set_option maxRecDepth 100000 in
set_option maxHeartbeats 2000000 in
theorem between_in (x y : Nat) (hy : y ≤ 1099511627776) (h1 : 1 ≤ x) (hxy : x < y) (w : World) :
    Calls Tryd.prog 69 #[.int .i64 x, .int .i64 y] w fun e w' => e = .returned (.tuple #[.int .i64 (subC x y true : Nat), .bool true]) ∧ w = w' := by
  have y1 : ¬ ((x : Int) < 0) := by omega
  have y2 : ¬ (1099511627776 < (y : Int)) := by omega
  have y3 : ¬ ((y : Int) < (x : Int)) := by omega
  have y4 : ((x : Int) == 0) = false := beq_eq_false_iff_ne.2 (by omega)
  have y5 : ¬ x = 0 := by omega
  have y6 : ((x : Int) == (y : Int)) = false := beq_eq_false_iff_ne.2 (by omega)
  have y7 : ¬ x = y := by omega
  obtain ⟨N, hN⟩ : ∃ N, Hid (subC x y true = N) := ⟨_, Lib.hid rfl⟩
  have h41 : Hid (N ≤ 41) := by
    show _ ≤ _
    rw [← hN.out]
    exact subC_le 40 x y true h1 (by omega) (by rw [show (2 : Nat) ^ 40 = 1099511627776 by decide]; exact hy)
  rw [hN.out]
  have hyh := Lib.hid hy
  have hxh := Lib.hid h1
  have hxyh := Lib.hid hxy
  clear hy h1 hxy
  go_enter Tryd.func69, Tryd.ntmps69
  go_wp2_with fail
  clear y1 y2 y3 y4 y5 y6 y7
  go_loop [1, 6, 7] (fun a b c => ∃ t m lo : Nat, a = .int .i64 (t : Int) ∧ b = .int .i64 (m : Int) ∧ c = .int .i64 (lo : Int) ∧ Hid (lo < x ∧ x ≤ t ∧ t ≤ y) ∧ Hid (m + subC (x - lo) (t - lo) (decide (lo = 0)) = N)) (fun a _ c => (intOf a - intOf c).toNat)
  case atStart => exact ⟨y, 0, 0, rfl, rfl, rfl, (by have := hxyh.out; have := hxh.out; show _ ∧ _; omega), (by show _ = _; rw [Nat.zero_add, Nat.sub_zero, Nat.sub_zero]; exact hN.out)⟩
  case round =>
    obtain ⟨t, m, lo, rfl, rfl, rfl, hb, hm⟩ := hrel
    have hlo : lo < x := hb.out.1
    have hxt : x ≤ t := hb.out.2.1
    have hty : t ≤ 1099511627776 := Nat.le_trans hb.out.2.2 hyh.out
    have b1 : (0 : Int) ≤ (lo : Int) := by omega
    have b2 : (lo : Int) ≤ 1099511627776 := by omega
    have b3 : (0 : Int) ≤ (t : Int) := by omega
    have b4 : (t : Int) ≤ 1099511627776 := by omega
    have b5 : (0 : Int) ≤ (x : Int) := by omega
    have b6 : (x : Int) ≤ 1099511627776 := by omega
    have hm41 : Hid (m ≤ 41) := by have := hm.out; have := h41.out; show _ ≤ _; omega
    have b7 : (0 : Int) ≤ (m : Int) := by omega
    have b8 : (m : Int) ≤ 41 := by have := hm41.out; omega
    by_cases he : x = t
    · have z1 : ((x : Int) - (lo : Int) == (t : Int) - (lo : Int)) = true := beq_iff_eq.2 (by omega)
      have z2 : (x : Int) - (lo : Int) = (t : Int) - (lo : Int) := by omega
      have hsame := subC_same (n := x - lo) (by omega) (decide (lo = 0))
      subst he
      have hm2 := hm.out
      rw [hsame] at hm2
      by_cases h0 : lo = 0
      · subst h0
        have hmN : Hid (m = N) := by show _ = _; simpa using hm2
        clear hm2 hsame hm
        have z3 : ¬ ((0 : Int) < ((0 : Nat) : Int)) := by omega
        go_wp2_with fail
        go_ret2
        exact ⟨ret2i (by rw [hmN.out]) rfl, rfl⟩
      · have hmN : Hid (m + 1 = N) := by rw [if_neg (by simpa using h0)] at hm2; exact hm2
        have z3 : (0 : Int) < (lo : Int) := by omega
        clear hm2 hsame hm
        go_wp2_with fail
        go_ret2
        exact ⟨ret2i (by rw [← hmN.out]; push_cast; rfl) rfl, rfl⟩
    · have z1 : ((x : Int) - (lo : Int) == (t : Int) - (lo : Int)) = false := beq_eq_false_iff_ne.2 (by omega)
      have z2 : ¬ ((x : Int) - (lo : Int) = (t : Int) - (lo : Int)) := by omega
      obtain ⟨d, hd⟩ : ∃ d, t - lo = d := ⟨_, rfl⟩
      have hd2 : 2 ≤ d := by omega
      have hL := Lib.hid (lenHalf_any d hd2 (by omega))
      have hlt := half_lt hd2
      have hpos := half_pos d
      have hsl := Lib.hid (fun (h : x - lo ≤ half d) => subC_left (m := x - lo) (n := d) (by omega) (by omega) h (decide (lo = 0)))
      have hsr := Lib.hid (fun (h : half d < x - lo) => subC_right (m := x - lo) (n := d) (by omega) h (decide (lo = 0)))
      rw [hd] at hm
      obtain ⟨e, hee⟩ : ∃ e, Hid (Nat.log2 (d - 1) = e) := ⟨_, Lib.hid rfl⟩
      obtain ⟨k, hk⟩ : ∃ k, Hid (half d = k) := ⟨_, Lib.hid rfl⟩
      rw [hk.out] at hlt hpos hsl hsr
      have e2 : wrap64 ((2 : Int) ^ e) = (k : Int) := by
        have : ((2 : Int) ^ e) = (k : Int) := by rw [← hk.out, half, hee.out]; simp
        rw [this]
        exact IntWalk.wrap64_in _ (by omega)
      have e40 : (e : Int) < 47 := by
        have : e < 47 := by
          rw [← hee.out]
          exact (Nat.log2_lt (by omega)).2 (by have h47 : (2 : Nat) ^ 47 = 140737488355328 := by decide
                                               omega)
        omega
      have e0 : (0 : Int) ≤ (e : Int) := by omega
      have zd : (t : Int) - (lo : Int) = (d : Int) := by omega
      have zu : IntKind.u64.wrap ((d : Int) - 1) = (d : Int) - 1 := u64_in _ (by omega) (by omega)
      have bd : (d : Int) ≤ 1099511627776 := by omega
      have bd2 : (2 : Int) ≤ (d : Int) := by omega
      have bk : (k : Int) ≤ 1099511627776 := by omega
      have bk2 : (0 : Int) ≤ (k : Int) := by omega
      rw [hee.out] at hL
      by_cases hc : x ≤ lo + k
      · have z3 : (x : Int) ≤ (lo : Int) + (k : Int) := by omega
        have hm2 : Hid (m + 1 + subC (x - lo) (lo + k - lo) (decide (lo = 0)) = N) := by
          have h2 := hm.out
          rw [hsl.out (by omega)] at h2
          show _ = _
          rw [Nat.add_sub_cancel_left]
          omega
        have hbn : Hid (lo < x ∧ x ≤ lo + k ∧ lo + k ≤ y ∧ k < d) := by have := hb.out; show _ ∧ _; omega
        clear hc hlt hpos hm hb hsl hsr he hd hd2
        go_wp2_with (go_at_call 96; refine (hL.out _).mono ?_; rintro e w1 ⟨rfl, rfl⟩)
        go_round
        case rel => exact ⟨lo + k, m + 1, lo, by go_num, by go_num, rfl, (by have := hbn.out; show _ ∧ _; omega), hm2.out⟩
        case measure => (have := hbn.out; simp [intOf]; omega)
      · have z3 : ¬ ((x : Int) ≤ (lo : Int) + (k : Int)) := by omega
        have hm2 : Hid (m + 1 + subC (x - (lo + k)) (t - (lo + k)) (decide (lo + k = 0)) = N) := by
          have h2 := hm.out
          rw [hsr.out (by omega)] at h2
          show _ = _
          rw [show x - (lo + k) = x - lo - k by omega, show t - (lo + k) = d - k by omega, decide_eq_false (show ¬ lo + k = 0 by omega)]
          omega
        have hbn : Hid (lo + k < x ∧ x ≤ t ∧ t ≤ y ∧ 0 < k ∧ lo < t) := by have := hb.out; show _ ∧ _; omega
        clear hc hlt hpos hm hb hsl hsr he hd hd2
        go_wp2_with (go_at_call 96; refine (hL.out _).mono ?_; rintro e w1 ⟨rfl, rfl⟩)
        go_round
        case rel => exact ⟨t, m + 1, lo + k, rfl, by go_num, by go_num, (by have := hbn.out; show _ ∧ _; omega), hm2.out⟩
        case measure => (have := hbn.out; simp [intOf]; omega)
theorem between_yes (x y : Nat) (hy : y ≤ 1099511627776) (hxy : x ≤ y) (w : World) :
    Calls Tryd.prog 69 #[.int .i64 x, .int .i64 y] w fun e w' => e = .returned (.tuple #[.int .i64 (betw x y : Nat), .bool true]) ∧ w = w' := by
  unfold betw
  by_cases h0 : x = 0
  · subst h0
    rw [if_pos rfl]
    exact between_none y hy w
  · rw [if_neg h0]
    by_cases he : x = y
    · subst he
      rw [subC_same (by omega)]
      exact between_same x hy (by omega) w
    · exact between_in x y hy (by omega) (by omega) w
end Go.Proofs.YtgldkfaiofkhbaaDoor.Betw
