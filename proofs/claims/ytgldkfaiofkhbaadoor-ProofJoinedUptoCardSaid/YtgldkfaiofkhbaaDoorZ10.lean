/-
  Texts of the claim, put into one file: SpotsLaw.
-/
import Derived.Test.YtgldkfaiofkhbaaDoorZ7
import Derived.Deep.QuietTactic
import Derived.BigQuiet

namespace Go.Proofs.YtgldkfaiofkhbaaDoor.SpotsWalk
open Go Go.RowKit Go.Proofs.YtgldkfaiofkhbaaDoor Go.Proofs.YtgldkfaiofkhbaaDoor.Mem Go.Proofs.YtgldkfaiofkhbaaDoor.SpotsMath

/-- What the law's loop knows at the k-th spot. -/
def At (S : List (Nat × Nat)) (b k a : Nat) : Prop := k ≤ S.length ∧ a ≤ b ∧ ∃ f, b - a ≤ f ∧ S.drop k = spots f a b
theorem At.go {S : List (Nat × Nat)} {b k a : Nat} (h : At S b k a) (hk : k < S.length) : a < b ∧ S[k]? = some (lev a b, a / 2 ^ lev a b) ∧ At S b (k + 1) (a + 2 ^ lev a b) := by
  obtain ⟨h1, h2, f, h3, h4⟩ := h
  have hlt : a < b := by
    apply Decidable.byContradiction
    intro hn
    rw [spots_done hn] at h4
    have : (S.drop k).length = 0 := by rw [h4]; rfl
    rw [List.length_drop] at this
    omega
  obtain ⟨g, rfl, h5, h6⟩ := spots_step hlt h3
  rw [h6] at h4
  have hf := (lev_fits hlt).2
  refine ⟨hlt, ?_, by omega, by omega, g, h5, ?_⟩
  · have := congrArg (fun l => l[0]?) h4
    simpa using this
  · have := congrArg List.tail h4
    simpa using this
end Go.Proofs.YtgldkfaiofkhbaaDoor.SpotsWalk
