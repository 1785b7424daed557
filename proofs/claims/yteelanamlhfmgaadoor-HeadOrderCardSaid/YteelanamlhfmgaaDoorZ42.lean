/-
  Texts of the claim, put into one file: RowInts.
-/
import Derived.Test.YteelanamlhfmgaaDoorZ11
import Derived.Test.YteelanamlhfmgaaDoorZ41

namespace Go.Proofs.YteelanamlhfmgaaDoor.RowInts
open Go Go.RowKit Go.Proofs.YteelanamlhfmgaaDoor Go.Proofs.YteelanamlhfmgaaDoor.Mem Go.Proofs.YteelanamlhfmgaaDoor.Row Go.Proofs.YteelanamlhfmgaaDoor.Sha Go.Proofs.YteelanamlhfmgaaDoor.Bytes Go.Proofs.YteelanamlhfmgaaDoor.Mixed

theorem fits_ints : ∀ (m : Nat) (cs : List Value), Fits (reps m [.int .i64]) cs → ∃ ts : List Int, ts.length = m ∧ (∀ x ∈ ts, -9223372036854775808 ≤ x ∧ x < 9223372036854775808) ∧ cs = ts.map fun x => Value.int .i64 x
  | 0, cs, h => by
    have := h.length
    rw [reps_len] at this
    obtain rfl : cs = [] := List.eq_nil_of_length_eq_zero (by simpa using this)
    exact ⟨[], rfl, fun _ h => (by cases h), rfl⟩
  | m + 1, cs, h => by
    have hl := h.length
    rw [reps_len] at hl
    rw [reps_succ] at h
    obtain ⟨h1, h2⟩ := h.split
    rw [reps_len] at h1 h2
    simp only [List.length_singleton, Nat.mul_one] at h1 h2 hl
    obtain ⟨q, hq, ha, he⟩ := fits_ints m _ h1
    have hd : cs.drop m = [cs[m]'(by omega)] := by
      rw [List.drop_eq_getElem_cons (by omega), List.drop_of_length_le (by omega)]
    rw [hd] at h2
    obtain ⟨n, hn, hw⟩ := h2.1
    have hb : -9223372036854775808 ≤ n ∧ n ≤ 9223372036854775807 := by simpa [Lit.wf, IntKind.min, IntKind.max, IntKind.signed, IntKind.bits] using hw
    refine ⟨q ++ [n], by simp [hq], fun x hx => ?_, ?_⟩
    · rcases List.mem_append.1 hx with hx | hx
      · exact ha x hx
      · simp only [List.mem_singleton] at hx
        subst hx
        exact ⟨hb.1, by omega⟩
    · have : cs = cs.take m ++ cs.drop m := (List.take_append_drop m cs).symm
      rw [this, he, hd, hn]
      simp
theorem ints_in {w : World} {A : Option Addr} {n : Nat} {xs : List Value} (hf : Fits (reps n [.int .i64]) xs) (hr : Reads w 1 A n xs) : ∃ ts, Ints w A n ts := by
  obtain ⟨ts, h1, h2, rfl⟩ := fits_ints n xs hf
  exact ⟨ts, h1, h2, hr⟩
end Go.Proofs.YteelanamlhfmgaaDoor.RowInts
