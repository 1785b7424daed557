/-
  Texts of the claim, put into one file: RowNote.
-/
import Derived.Test.YtfbhjoejffagjaaGreatDoorZ6
import Derived.Test.YtfbhjoejffagjaaGreatDoorZ30
import Derived.Deep.Strs

namespace Go.Proofs.YtfbhjoejffagjaaGreatDoor.RowNote
open Go Go.RowKit Go.ChangeShapes Go.WideShapes Go.Proofs.YtfbhjoejffagjaaGreatDoor Mem Sha Bytes Row HeadMem Rise EncNote

def headKs : List CK := reps 32 [.int .u8] ++ ([.int .i64] ++ (reps 32 [.int .u8] ++ (reps 32 [.int .u8] ++ [.int .i64])))
theorem fits_i64 {cs : List Value} (h : Fits [.int .i64] cs) : ∃ n : Int, cs = [.int .i64 n] ∧ -9223372036854775808 ≤ n ∧ n ≤ 9223372036854775807 := by
 have hl := h.length
 match cs, hl, h with
 | [v], _, h =>
  obtain ⟨n, rfl, hw⟩ := h.1
  exact ⟨n, rfl, by simpa [Lit.wf, IntKind.min, IntKind.max, IntKind.signed, IntKind.bits] using hw⟩
theorem fits_head (cs : List Value) (h : Fits headKs cs) : ∃ h : HeadMem.HeadD, h.Ok ∧ cs = HeadMem.headCells h := by
 unfold headKs at h
 obtain ⟨h1, h2⟩ := h.split
 obtain ⟨h3, h4⟩ := h2.split
 obtain ⟨h5, h6⟩ := h4.split
 obtain ⟨h7, h8⟩ := h6.split
 obtain ⟨q1, e1, f1⟩ := fits_bytes _ _ h1
 obtain ⟨n2, f2, b2⟩ := fits_i64 h3
 obtain ⟨q3, e3, f3⟩ := fits_bytes _ _ h5
 obtain ⟨q4, e4, f4⟩ := fits_bytes _ _ h7
 obtain ⟨n5, f5, b5⟩ := fits_i64 h8
 refine ⟨⟨q1, n2, q3, q4, n5⟩, ⟨e1, e3, e4, b2, b5⟩, ?_⟩
 unfold HeadMem.headCells
 show cs = cells8 q1 ++ ([.int .i64 n2] ++ (cells8 q3 ++ (cells8 q4 ++ [.int .i64 n5])))
 rw [← f1, ← f2, ← f3, ← f4, ← f5, List.take_append_drop, List.take_append_drop, List.take_append_drop, List.take_append_drop]
def signKs : List CK := reps 32 [.int .u8] ++ reps 32 [.int .u8]
theorem signKs_len : signKs.length = 64 := by simp [signKs, reps_len]
theorem fits_sign (cs : List Value) (h : Fits signKs cs) : ∃ s : Text, s.length = 64 ∧ cs = cells8 s := by
 unfold signKs at h
 obtain ⟨h1, h2⟩ := h.split
 obtain ⟨q1, e1, f1⟩ := fits_bytes _ _ h1
 obtain ⟨q2, e2, f2⟩ := fits_bytes _ _ h2
 refine ⟨q1 ++ q2, by rw [List.length_append, e1, e2], ?_⟩
 have e : cells8 (q1 ++ q2) = cells8 q1 ++ cells8 q2 := by simp [cells8]
 rw [e, ← f1, ← f2, List.take_append_drop]
theorem fits_signs : ∀ (n : Nat) (xs : List Value), Fits (reps n signKs) xs → ∃ ss : List Text, ss.length = n ∧ (∀ t ∈ ss, t.length = 64) ∧ xs = ss.flatMap cells8
 | 0, xs, h => by
  have := h.length
  rw [reps_len] at this
  obtain rfl : xs = [] := List.eq_nil_of_length_eq_zero (by simpa using this)
  exact ⟨[], rfl, by simp, rfl⟩
 | n + 1, xs, h => by
  rw [reps_succ] at h
  obtain ⟨h1, h2⟩ := h.split
  obtain ⟨qs, hq, hl, he⟩ := fits_signs n _ h1
  obtain ⟨q, hq1, he1⟩ := fits_sign _ h2
  refine ⟨qs ++ [q], by simp [hq], fun x hx => ?_, ?_⟩
  ·rcases List.mem_append.1 hx with hx | hx
   ·exact hl x hx
   ·simp only [List.mem_singleton] at hx; rw [hx]; exact hq1
  ·rw [List.flatMap_append, ← he]
   simp only [List.flatMap_cons, List.flatMap_nil, List.append_nil]
   rw [← he1, List.take_append_drop]
section
variable {H : Type} {enc : TypeId × Value → H} {w : World} {base : Nat} {held : Bool}

end
end Go.Proofs.YtfbhjoejffagjaaGreatDoor.RowNote
