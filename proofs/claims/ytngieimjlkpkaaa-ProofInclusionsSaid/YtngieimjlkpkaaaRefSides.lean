/-
  The document's way up (RFC 9162, 2.1.3.2), as plain numbers: where its loop stands, told by the levels. No program in sight.
-/
import Derived.Test.YtngieimjlkpkaaaSides
namespace Go.Proofs.Ytngieimjlkpkaaa.RefSides
open Go.Proofs.Ytngieimjlkpkaaa Go.Proofs.Ytngieimjlkpkaaa.TreeMath Go.Proofs.Ytngieimjlkpkaaa.Sides

theorem lv_add (n j L : Nat) : ∀ d, ∃ r, lv n j (L + d) = lv n j L ++ r
  | 0 => ⟨[], by simp⟩
  | d + 1 => by
    obtain ⟨r, hr⟩ := lv_add n j L d
    exact ⟨r ++ lvl n j (L + d), by rw [show L + (d + 1) = (L + d) + 1 by omega, lv_succ, hr, List.append_assoc]⟩
theorem lv_le {n j L M : Nat} (h : L ≤ M) : (lv n j L).length ≤ (lv n j M).length := by
  obtain ⟨r, hr⟩ := lv_add n j L (M - L)
  rw [show L + (M - L) = M by omega] at hr
  rw [hr, List.length_append]
  omega
/-- All levels below L tell the beginning of the sides. -/
theorem sides_pre {n j : Nat} (hj : j < n) (L : Nat) : ∃ r, sides n j = lv n j L ++ r := by
  obtain ⟨M, hM1, hM2⟩ : ∃ M, n ≤ 2 ^ M ∧ L ≤ M := ⟨n + L, Nat.le_trans (Nat.le_of_lt Nat.lt_two_pow_self) (Nat.pow_le_pow_right (by omega) (by omega)), by omega⟩
  obtain ⟨r, hr⟩ := lv_add n j L (M - L)
  rw [show L + (M - L) = M by omega] at hr
  exact ⟨r, by rw [sides_eq hj hM1, hr]⟩
theorem sides_at {n j L k : Nat} {b : Bool} (hj : j < n) (hk : (lv n j L).length = k) (hl : lvl n j L = [b]) : (sides n j)[k]? = some b ∧ (lv n j (L + 1)).length = k + 1 := by
  obtain ⟨r, hr⟩ := sides_pre hj (L + 1)
  rw [lv_succ, hl] at hr
  refine ⟨?_, by rw [lv_succ, hl, List.length_append, hk]; rfl⟩
  rw [hr, List.append_assoc, List.getElem?_append_right (by omega), hk, Nat.sub_self]
  rfl
/-- Where the loop stands behind k sides: at a level. -/
def At (n j k fn sn : Nat) : Prop := ∃ l, fn = j / 2 ^ l ∧ sn = (n - 1) / 2 ^ l ∧ (lv n j l).length = k
theorem At.zero (n j : Nat) : At n j 0 j (n - 1) := ⟨0, by simp, by simp, rfl⟩
theorem At.le {n j k fn sn : Nat} (h : At n j k fn sn) : fn ≤ j ∧ sn ≤ n - 1 := by
  obtain ⟨l, rfl, rfl, -⟩ := h
  exact ⟨Nat.div_le_self _ _, Nat.div_le_self _ _⟩
theorem lvl_eq {n j l : Nat} (hj : j < n) : lvl n j l = if j / 2 ^ l % 2 = 1 then [false] else if j / 2 ^ l = (n - 1) / 2 ^ l then [] else [true] := by
  unfold lvl
  by_cases h1 : j / 2 ^ l % 2 = 1
  · rw [if_pos h1, if_pos h1]
  · rw [if_neg h1, if_neg h1]
    have hp := Nat.two_pow_pos l
    have hle : j / 2 ^ l ≤ (n - 1) / 2 ^ l := Nat.div_le_div_right (by omega)
    by_cases h2 : j / 2 ^ l = (n - 1) / 2 ^ l
    · rw [if_pos h2, if_neg]
      rw [h2]
      have := Nat.lt_div_mul_add (a := n - 1) hp
      rw [Nat.add_mul, Nat.one_mul]
      omega
    · rw [if_neg h2, if_pos]
      have h3 : j / 2 ^ l + 1 ≤ (n - 1) / 2 ^ l := by omega
      have := Nat.mul_le_mul_right (2 ^ l) h3
      have h4 := Nat.div_mul_le_self (n - 1) (2 ^ l)
      omega
theorem half2 (j l : Nat) : j / 2 ^ (l + 1) = j / 2 ^ l / 2 := by rw [Nat.pow_succ, Nat.div_div_eq_div_mul]
theorem At.odd {n j k fn sn : Nat} (h : At n j k fn sn) (hj : j < n) (ho : fn % 2 = 1) : (sides n j)[k]? = some false ∧ At n j (k + 1) (fn / 2) (sn / 2) := by
  obtain ⟨l, rfl, rfl, hk⟩ := h
  have hl : lvl n j l = [false] := by rw [lvl_eq hj, if_pos ho]
  obtain ⟨a, b⟩ := sides_at hj hk hl
  exact ⟨a, l + 1, (half2 _ _).symm, (half2 _ _).symm, b⟩
theorem At.right {n j k fn sn : Nat} (h : At n j k fn sn) (hj : j < n) (ho : ¬ fn % 2 = 1) (hne : ¬ fn = sn) : (sides n j)[k]? = some true ∧ At n j (k + 1) (fn / 2) (sn / 2) := by
  obtain ⟨l, rfl, rfl, hk⟩ := h
  have hl : lvl n j l = [true] := by rw [lvl_eq hj, if_neg ho, if_neg hne]
  obtain ⟨a, b⟩ := sides_at hj hk hl
  exact ⟨a, l + 1, (half2 _ _).symm, (half2 _ _).symm, b⟩
theorem At.skip {n j k fn sn : Nat} (h : At n j k fn sn) (hj : j < n) (ho : ¬ fn % 2 = 1) (he : fn = sn) : At n j k (fn / 2) (sn / 2) := by
  obtain ⟨l, rfl, rfl, hk⟩ := h
  have hl : lvl n j l = [] := by rw [lvl_eq hj, if_neg ho, if_pos he]
  exact ⟨l + 1, (half2 _ _).symm, (half2 _ _).symm, by rw [lv_succ, hl, List.append_nil, hk]⟩
/-- At zero no side is left. -/
theorem At.done {n j k sn : Nat} (h : At n j k 0 sn) (hj : j < n) (he : sn = 0) : k = (sides n j).length := by
  obtain ⟨l, h1, h2, hk⟩ := h
  have hp := Nat.two_pow_pos l
  have hn : n ≤ 2 ^ l := by
    have := (Nat.div_eq_zero_iff_lt hp).1 (h2.symm.trans he)
    omega
  rw [sides_eq hj hn, hk]
/-- Where the neighbour stands on the left. -/
theorem At.left {n j k : Nat} (hj : j < n) : ∀ (fn sn : Nat), At n j k fn sn → (fn % 2 = 1 ∨ fn = sn) → k < (sides n j).length → (sides n j)[k]? = some false := by
  intro fn
  induction fn using Nat.strongRecOn with
  | _ fn ih =>
    intro sn h ho hk
    by_cases h1 : fn % 2 = 1
    · exact (h.odd hj h1).1
    · have he : fn = sn := by omega
      by_cases h0 : fn = 0
      · have hs : sn = 0 := by omega
        rw [h0] at h
        have := h.done hj hs
        omega
      · exact ih (fn / 2) (by omega) (sn / 2) (h.skip hj h1 he) (.inr (by rw [he])) hk
/-- How many levels of a size are there. -/
theorem lv_count {n j L : Nat} (hj : j < n) (hL : n ≤ 2 ^ L) : (lv n j L).length = (sides n j).length := by rw [sides_eq hj hL]
end Go.Proofs.Ytngieimjlkpkaaa.RefSides
