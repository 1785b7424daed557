/-
  On which side the neighbours of a leaf stand, from the leaf upwards: told from the top (RFC 6962) and told level by level. No program in sight.
-/
import Derived.Test.YtngieimjlkpkaaaTreeMath
namespace Go.Proofs.Ytngieimjlkpkaaa.Sides
open Go.Proofs.Ytngieimjlkpkaaa Go.Proofs.Ytngieimjlkpkaaa.TreeMath

/-- From the leaf upwards: does the neighbour stand to the right? The first argument is at least the size. -/
def sidesN : Nat → Nat → Nat → List Bool
  | 0, _, _ => []
  | f + 1, n, j => if n ≤ 1 then [] else if j < half n then sidesN f (half n) j ++ [true] else sidesN f (n - half n) (j - half n) ++ [false]
/-- The neighbour at one level. -/
def lvl (n j l : Nat) : List Bool := if j / 2 ^ l % 2 = 1 then [false] else if (j / 2 ^ l + 1) * 2 ^ l < n then [true] else []
def lv (n j L : Nat) : List Bool := (List.range L).flatMap (lvl n j)
theorem lv_succ (n j L : Nat) : lv n j (L + 1) = lv n j L ++ lvl n j L := by simp [lv, List.range_succ]
theorem lv_more (n j : Nat) (hj : j < n) (M : Nat) (h : n ≤ 2 ^ M) : ∀ d, lv n j (M + d) = lv n j M
  | 0 => rfl
  | d + 1 => by
    have hp : 2 ^ M ≤ 2 ^ (M + d) := Nat.pow_le_pow_right (by omega) (by omega)
    have hz : j / 2 ^ (M + d) = 0 := Nat.div_eq_of_lt (by omega)
    rw [show M + (d + 1) = (M + d) + 1 by omega, lv_succ, lv_more n j hj M h d]
    unfold lvl
    rw [hz, if_neg (by omega), if_neg (by omega), List.append_nil]
theorem lv_congr {n j n' j' : Nat} : ∀ L, (∀ l, l < L → lvl n j l = lvl n' j' l) → lv n j L = lv n' j' L
  | 0, _ => rfl
  | L + 1, h => by rw [lv_succ, lv_succ, lv_congr L (fun l hl => h l (by omega)), h L (by omega)]
theorem lvl_low {n k j m l : Nat} (hk : k = 2 ^ m) (hl : l < m) (hj : j < k) (hn : k < n) : lvl n j l = lvl k j l := by
  unfold lvl
  by_cases h1 : j / 2 ^ l % 2 = 1
  · rw [if_pos h1, if_pos h1]
  · rw [if_neg h1, if_neg h1]
    obtain ⟨c, hc⟩ : ∃ c, m = l + 1 + c := ⟨m - l - 1, by omega⟩
    have hk2 : k = 2 ^ l * (2 * 2 ^ c) := by rw [hk, hc, Nat.pow_add, Nat.pow_succ, Nat.mul_assoc]
    have hp := Nat.two_pow_pos l
    have hq : j / 2 ^ l < 2 * 2 ^ c := Nat.div_lt_of_lt_mul (by rw [← hk2]; exact hj)
    have hlt : j / 2 ^ l + 1 < 2 * 2 ^ c := by omega
    have hm : (j / 2 ^ l + 1) * 2 ^ l < k := by rw [hk2, Nat.mul_comm]; exact Nat.mul_lt_mul_of_pos_left hlt hp
    rw [if_pos hm, if_pos (by omega)]
theorem lvl_high {n k j m l : Nat} (hk : k = 2 ^ m) (hl : l < m) (hn : k < n) : lvl n (k + j) l = lvl (n - k) j l := by
  obtain ⟨c, hc⟩ : ∃ c, m = l + 1 + c := ⟨m - l - 1, by omega⟩
  have hk2 : k = 2 ^ l * (2 * 2 ^ c) := by rw [hk, hc, Nat.pow_add, Nat.pow_succ, Nat.mul_assoc]
  have hp := Nat.two_pow_pos l
  have hd : (k + j) / 2 ^ l = 2 * 2 ^ c + j / 2 ^ l := by rw [hk2, Nat.mul_add_div hp]
  have hmul : (2 * 2 ^ c + j / 2 ^ l + 1) * 2 ^ l = k + (j / 2 ^ l + 1) * 2 ^ l := by
    rw [hk2, Nat.mul_comm (2 ^ l), ← Nat.add_mul, Nat.add_assoc]
  unfold lvl
  rw [hd, hmul]
  by_cases h1 : j / 2 ^ l % 2 = 1
  · rw [if_pos (by omega), if_pos h1]
  · rw [if_neg (by omega), if_neg h1]
    by_cases h2 : (j / 2 ^ l + 1) * 2 ^ l < n - k
    · rw [if_pos (by omega), if_pos h2]
    · rw [if_neg (by omega), if_neg h2]
theorem half_log {n : Nat} : half n = 2 ^ Nat.log2 (n - 1) := rfl
/-- The two tell the same. -/
theorem sides_lv : ∀ (f n j L : Nat), n ≤ f → j < n → n ≤ 2 ^ L → sidesN f n j = lv n j L
  | 0, n, j, L, h, hj, _ => by omega
  | f + 1, n, j, L, hf, hj, hL => by
    unfold sidesN
    by_cases h1 : n ≤ 1
    · rw [if_pos h1]
      obtain rfl : n = 1 := by omega
      obtain rfl : j = 0 := by omega
      have := lv_more 1 0 (by omega) 0 (by simp) L
      rw [Nat.zero_add] at this
      rw [this]
      rfl
    · rw [if_neg h1]
      have hlt := half_lt (n := n) (by omega)
      have hge := half_ge n
      have hpos := half_pos n
      obtain ⟨m, hm⟩ : ∃ m, Nat.log2 (n - 1) = m := ⟨_, rfl⟩
      have hk : half n = 2 ^ m := by rw [half_log, hm]
      have hmL : m < L := by
        rcases Nat.lt_or_ge m L with h | h
        · exact h
        · have := Nat.pow_le_pow_right (show 0 < 2 by omega) h
          omega
      have hn2 : n ≤ 2 ^ (m + 1) := by rw [Nat.pow_succ]; omega
      obtain ⟨d, rfl⟩ : ∃ d, L = m + 1 + d := ⟨L - (m + 1), by omega⟩
      rw [lv_more n j hj (m + 1) hn2 d, lv_succ]
      by_cases hc : j < half n
      · rw [if_pos hc, sides_lv f (half n) j m (by omega) hc (by omega), lv_congr m (fun l hl => (lvl_low (n := n) hk hl hc hlt).symm)]
        congr 1
        unfold lvl
        have hz : j / 2 ^ m = 0 := Nat.div_eq_of_lt (by omega)
        rw [hz, if_neg (by omega), if_pos (by omega)]
      · rw [if_neg hc]
        obtain ⟨j', rfl⟩ : ∃ j', j = half n + j' := ⟨j - half n, by omega⟩
        rw [Nat.add_sub_cancel_left, sides_lv f (n - half n) j' m (by omega) (by omega) (by omega), lv_congr m (fun l hl => (lvl_high (n := n) hk hl hlt).symm)]
        congr 1
        unfold lvl
        have ho : (half n + j') / 2 ^ m = 1 := by
          rw [hk] at hge hlt ⊢
          exact Nat.div_eq_of_lt_le (by omega) (by omega)
        rw [ho, if_pos (by omega)]
def sides (n j : Nat) : List Bool := sidesN n n j
theorem sides_eq {n j L : Nat} (hj : j < n) (hL : n ≤ 2 ^ L) : sides n j = lv n j L := sides_lv n n j L (Nat.le_refl _) hj hL
theorem sides_small {n j : Nat} (h : n ≤ 1) : sides n j = [] := by
  unfold sides
  match n, h with
  | 0, _ => rfl
  | 1, _ => rfl
theorem sidesN_eq : ∀ (f n j : Nat), n ≤ f → j < n → sidesN f n j = sides n j := fun f n j hf hj => by
  have h : n ≤ 2 ^ n := Nat.le_of_lt Nat.lt_two_pow_self
  rw [sides_eq hj h, sides_lv f n j n hf hj h]
theorem sides_left {n j : Nat} (h : 2 ≤ n) (hj : j < half n) : sides n j = sides (half n) j ++ [true] := by
  have hlt := half_lt h
  obtain ⟨f, hf⟩ : ∃ f, n = f + 1 := ⟨n - 1, by omega⟩
  rw [← sidesN_eq (f + 1) n j (by omega) (by omega)]
  unfold sidesN
  rw [if_neg (by omega), if_pos hj, sidesN_eq f _ _ (by omega) hj]
theorem sides_right {n j : Nat} (h : 2 ≤ n) (hj : half n ≤ j) (hjn : j < n) : sides n j = sides (n - half n) (j - half n) ++ [false] := by
  have hlt := half_lt h
  have hp := half_pos n
  obtain ⟨f, hf⟩ : ∃ f, n = f + 1 := ⟨n - 1, by omega⟩
  rw [← sidesN_eq (f + 1) n j (by omega) (by omega)]
  unfold sidesN
  rw [if_neg (by omega), if_neg (by omega), sidesN_eq f _ _ (by omega) (by omega)]
theorem sides_len {n j L : Nat} (hj : j < n) (hL : n ≤ 2 ^ L) : (sides n j).length ≤ L := by
  rw [sides_eq hj hL]
  have : ∀ L, (lv n j L).length ≤ L := by
    intro L
    induction L with
    | zero => simp [lv]
    | succ L ih =>
      rw [lv_succ, List.length_append]
      have : (lvl n j L).length ≤ 1 := by unfold lvl; split <;> (try split) <;> simp
      omega
  exact this L
end Go.Proofs.Ytngieimjlkpkaaa.Sides
