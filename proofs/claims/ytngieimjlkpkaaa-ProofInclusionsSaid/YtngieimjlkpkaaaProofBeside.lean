/-
  proof.beside (how many neighbours a number has in a size), walked.
-/
import Derived.Test.YtngieimjlkpkaaaOctet2
import Derived.Test.YtngieimjlkpkaaaHeadMem
import Derived.Outline
namespace Go.Proofs.Ytngieimjlkpkaaa.ProofBeside
open Go Go.RowKit Go.Proofs.Ytngieimjlkpkaaa Go.Proofs.Ytngieimjlkpkaaa.Mem Go.Proofs.Ytngieimjlkpkaaa.Sha Go.Proofs.Ytngieimjlkpkaaa.Bytes Go.Proofs.Ytngieimjlkpkaaa.Append Go.Proofs.Ytngieimjlkpkaaa.Octet Go.Proofs.Ytngieimjlkpkaaa.Octet2 Go.Proofs.Ytngieimjlkpkaaa.HeadMem

/-- The neighbour's first leaf at level l. -/
def nbAt (i l : Nat) : Nat := (i / 2 ^ l ^^^ 1) * 2 ^ l
/-- How many levels below k have a neighbour. -/
def cnt (size i : Nat) : Nat → Nat
  | 0 => 0
  | k + 1 => cnt size i k + if nbAt i k < size then 1 else 0
theorem cnt_le (size i : Nat) : ∀ k, cnt size i k ≤ k
  | 0 => Nat.le_refl _
  | k + 1 => by have := cnt_le size i k; unfold cnt; split <;> omega
/-- How many levels a tree of that size has. -/
def levels (size : Nat) : Nat := if size ≤ 1 then 0 else Nat.log2 (size - 1) + 1
def insideB (size i : Int) : Bool := decide (1 ≤ size) && decide (size ≤ 1099511627776) && decide (0 ≤ i) && decide (i < size)
def besideOf (size i : Nat) : Nat := cnt size i (levels size)

theorem xor1 (a : Nat) : a ^^^ 1 ≤ a + 1 := by
  have h1 : (a ^^^ 1) / 2 = a / 2 := by
    have h := Nat.shiftRight_xor_distrib (a := a) (b := 1) (i := 1)
    simpa [Nat.shiftRight_succ] using h
  omega
theorem nbAt_le (i k : Nat) : nbAt i k ≤ i + 2 ^ k := by
  unfold nbAt
  have h1 := Nat.mul_le_mul_right (2 ^ k) (xor1 (i / 2 ^ k))
  have h2 := Nat.div_mul_le_self i (2 ^ k)
  rw [Nat.succ_mul] at h1
  omega
theorem xor_i64 (a : Nat) (h : a < 9223372036854775806) : bits .xor .i64 (a : Int) 1 = ((a ^^^ 1 : Nat) : Int) := by
  show IntKind.i64.wrap (((BitVec.ofInt 64 (a : Int) ^^^ BitVec.ofInt 64 1).toNat : Nat) : Int) = _
  have e : (BitVec.ofInt 64 (a : Int) ^^^ BitVec.ofInt 64 1).toNat = a ^^^ 1 := by
    rw [BitVec.toNat_xor, BitVec.ofInt_natCast, BitVec.toNat_ofNat, Nat.mod_eq_of_lt (by omega)]
    rfl
  rw [e]
  have := xor1 a
  exact IntWalk.i64_in _ (by omega)
theorem two_lt {k size : Nat} (h : 2 ^ k < size) (hs : size ≤ 1099511627776) : k < 40 := by
  rcases Nat.lt_or_ge k 40 with h' | h'
  · exact h'
  · have := Nat.pow_le_pow_right (show 0 < 2 by omega) h'
    have h40 : (2 : Nat) ^ 40 = 1099511627776 := by decide
    omega
theorem levels_lt {size k : Nat} (h : 2 ^ k < size) : k < levels size := by
  unfold levels
  have hp := Nat.two_pow_pos k
  rw [if_neg (by omega)]
  have : k ≤ Nat.log2 (size - 1) := (Nat.le_log2 (by omega)).2 (by omega)
  omega
theorem levels_ge {size k : Nat} (h : ¬ 2 ^ k < size) : levels size ≤ k := by
  unfold levels
  split
  · omega
  · rename_i h1
    have : Nat.log2 (size - 1) < k := (Nat.log2_lt (by omega)).2 (by omega)
    omega

set_option maxRecDepth 100000 in
set_option maxHeartbeats 1000000 in
theorem beside_no (size i : Int) (h : insideB size i = false) (w : World) :
    Calls Try.prog 22 #[.int .i64 size, .int .i64 i] w fun e w' => e = .returned (.tuple #[.int .i64 0, .bool false]) ∧ w = w' := by
  have hc : size < 1 ∨ (1 ≤ size ∧ 1099511627776 < size) ∨ (1 ≤ size ∧ size ≤ 1099511627776 ∧ i < 0) ∨ (1 ≤ size ∧ size ≤ 1099511627776 ∧ 0 ≤ i ∧ size ≤ i) := by
    simp only [insideB, Bool.and_eq_false_iff, decide_eq_false_iff_not] at h
    omega
  clear h
  rcases hc with h1 | ⟨h1, h2⟩ | ⟨h1, h2, h3⟩ | ⟨h1, h2, h3, h4⟩
  · have y1 : decide (size < 1) = true := decide_eq_true h1
    clear h1
    go_enter Try.func22, Try.ntmps22
    go_wp2_with fail
    go_ret2
    exact ⟨rfl, rfl⟩
  · have y1 : decide (size < 1) = false := decide_eq_false (by omega)
    have y2 : decide (1099511627776 < size) = true := decide_eq_true h2
    clear h1 h2
    go_enter Try.func22, Try.ntmps22
    go_wp2_with fail
    go_ret2
    exact ⟨rfl, rfl⟩
  · have y1 : decide (size < 1) = false := decide_eq_false (by omega)
    have y2 : decide (1099511627776 < size) = false := decide_eq_false (by omega)
    have y3 : decide (i < 0) = true := decide_eq_true h3
    clear h1 h2 h3
    go_enter Try.func22, Try.ntmps22
    go_wp2_with fail
    go_ret2
    exact ⟨rfl, rfl⟩
  · have y1 : decide (size < 1) = false := decide_eq_false (by omega)
    have y2 : decide (1099511627776 < size) = false := decide_eq_false (by omega)
    have y3 : decide (i < 0) = false := decide_eq_false (by omega)
    have y4 : decide (size ≤ i) = true := decide_eq_true h4
    clear h1 h2 h3 h4
    go_enter Try.func22, Try.ntmps22
    go_wp2_with fail
    go_ret2
    exact ⟨rfl, rfl⟩

set_option maxRecDepth 100000 in
set_option maxHeartbeats 1000000 in
theorem beside_yes (size i : Nat) (hs : size ≤ 1099511627776) (hi : i < size) (w : World) :
    Calls Try.prog 22 #[.int .i64 size, .int .i64 i] w fun e w' => e = .returned (.tuple #[.int .i64 (besideOf size i), .bool true]) ∧ w = w' := by
  have y1 : decide ((size : Int) < 1) = false := decide_eq_false (by omega)
  have y2 : decide (1099511627776 < (size : Int)) = false := decide_eq_false (by omega)
  have y3 : decide ((i : Int) < 0) = false := decide_eq_false (by omega)
  have y4 : decide ((size : Int) ≤ (i : Int)) = false := decide_eq_false (by omega)
  go_enter Try.func22, Try.ntmps22
  go_wp2_with fail
  clear y1 y2 y3 y4
  go_loop [6, 7] (fun n v => ∃ k : Nat, v = .int .i64 (k : Int) ∧ n = .int .i64 (cnt size i k : Nat) ∧ Hid (k ≤ levels size)) (fun _ v => 41 - (intOf v).toNat)
  case atStart => exact ⟨0, rfl, rfl, Nat.zero_le _⟩
  case round =>
    obtain ⟨k, rfl, rfl, hkl⟩ := hrel
    have hc := cnt_le size i k
    have hk0 : (0 : Int) ≤ (k : Int) := by omega
    have hk41 : (k : Int) < 64 := by
      rcases Nat.lt_or_ge k 41 with h | h
      · omega
      · have h1 := hkl.out
        have h2 : levels size ≤ 40 := levels_ge (by have h40 : (2 : Nat) ^ 40 = 1099511627776 := by decide
                                                    omega)
        omega
    obtain ⟨p, hp⟩ : ∃ p, Hid (2 ^ k = p) := ⟨_, Lib.hid rfl⟩
    have hk40' : k ≤ 40 := by
      have h1 := hkl.out
      have h2 : levels size ≤ 40 := levels_ge (by have h40 : (2 : Nat) ^ 40 = 1099511627776 := by decide
                                                  omega)
      omega
    have hp40 : Hid (p ≤ 1099511627776) := by
      show p ≤ _
      rw [← hp.out]
      have h40 : (2 : Nat) ^ 40 = 1099511627776 := by decide
      rw [← h40]
      exact Nat.pow_le_pow_right (by omega) hk40'
    have z1 : wrap64 ((2 : Int) ^ k) = (p : Int) := by
      have h1 : ((2 : Int) ^ k) = (p : Int) := by rw [← hp.out]; simp
      rw [h1]
      have := hp40.out
      exact IntWalk.wrap64_in _ (by omega)
    have z2 : bits .xor .i64 ((i : Int) / 2 ^ k) 1 = ((i / 2 ^ k ^^^ 1 : Nat) : Int) := by
      have h1 : (i : Int) / 2 ^ k = ((i / 2 ^ k : Nat) : Int) := by simp
      rw [h1]
      have := Nat.div_le_self i (2 ^ k)
      exact xor_i64 _ (by omega)
    obtain ⟨x, hx⟩ : ∃ x, Hid (i / 2 ^ k ^^^ 1 = x) := ⟨_, Lib.hid rfl⟩
    rw [hx.out] at z2
    obtain ⟨q, hq⟩ : ∃ q, Hid (nbAt i k = q) := ⟨_, Lib.hid rfl⟩
    have z3 : wrap64 ((x : Int) * 2 ^ k) = (q : Int) := by
      have h1 : ((x : Int) * 2 ^ k) = (q : Int) := by rw [← hq.out, ← hx.out]; unfold nbAt; simp
      rw [h1]
      have := nbAt_le i k
      have h2 := hq.out
      have h3 := hp.out
      have h4 := hp40.out
      exact IntWalk.wrap64_in _ (by omega)
    by_cases hlt : p < size
    · have hs2 : Hid (k + 1 ≤ levels size) := levels_lt (by rw [hp.out]; exact hlt)
      by_cases hq2 : q < size
      · have hz1 : (p : Int) < (size : Int) := by omega
        have hz2 : (q : Int) < (size : Int) := by omega
        have hst : Hid (cnt size i (k + 1) = cnt size i k + 1) := by show _ = _; simp only [cnt]; rw [hq.out, if_pos hq2]
        clear hlt hq2
        go_wp2_with fail
        go_round
        case rel => exact ⟨k + 1, by go_num, by rw [hst.out]; go_num, hs2.out⟩
        case measure => simp [intOf]; omega
      · have hz1 : (p : Int) < (size : Int) := by omega
        have hz2 : decide (q < size) = false := decide_eq_false (by omega)
        have hst : Hid (cnt size i (k + 1) = cnt size i k) := by show _ = _; simp only [cnt]; rw [hq.out, if_neg hq2]; rfl
        clear hlt hq2
        go_wp2_with fail
        go_round
        case rel => exact ⟨k + 1, by go_num, by rw [hst.out], hs2.out⟩
        case measure => simp [intOf]; omega
    · have hz1 : decide (p < size) = false := decide_eq_false (by omega)
      have hst : Hid (besideOf size i = cnt size i k) := by
        have h1 := levels_ge (size := size) (k := k) (by rw [hp.out]; exact hlt)
        have h2 := hkl.out
        obtain rfl : k = levels size := by omega
        rfl
      clear hlt
      go_wp2_with fail
      go_ret2
      refine ⟨?_, rfl⟩
      show Ending.returned (.tuple #[.int .i64 ((cnt size i k : Nat) : Int), .bool true]) = _
      rw [hst.out]
end Go.Proofs.Ytngieimjlkpkaaa.ProofBeside
