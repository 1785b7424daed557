/-
  Texts of the claim, put into one file: ShaWalk.
-/
import Derived.Test.YtmdkfhfkdcbpgaaZ3
import Derived.Test.YtmdkfhfkdcbpgaaZ0
import Derived.Test.YtmdkfhfkdcbpgaaRows
import Derived.Lib.Hide
import Derived.Outline
import Derived.WalkLawsBesides
import Derived.Deep.QuietTactic
import Derived.BigQuiet
import Derived.StillTailTactics
import Derived.Test.YtmdkfhfkdcbpgaaZ2

namespace Go.Proofs.Ytmdkfhfkdcbpgaa.ShaWalk
open Go Go.RowKit Go.Proofs.Ytmdkfhfkdcbpgaa Go.Proofs.Ytmdkfhfkdcbpgaa.Mem Go.Proofs.Ytmdkfhfkdcbpgaa.Sha

/-- The eight numbers of a state as the state's block has them, k of them already summed with R. -/
def sumTab (st R : St) (k j : Nat) : Value := .int .u32 (if j < k then u (st.get j + R.get j) else u (st.get j))
/-- What a state's block is. -/
structure IsSt (w : World) (g : Nat) (T : TypeId) (cs : Array Value) (st R : St) (k : Nat) (w' : World) (cs' : Array Value) : Prop where
  blk : Blk w' g T cs'
  size : cs'.size = cs.size
  low : ∀ j, j < 8 → cs'[j]? = some (sumTab st R k j)
  high : ∀ j, 8 ≤ j → cs'[j]? = cs[j]?
  kept : Kept (· = g) w w'
theorem IsSt.step {w : World} {g : Nat} {T : TypeId} {cs : Array Value} {st R : St} {k : Nat} {w' : World} {cs' : Array Value} (h : IsSt w g T cs st R k w' cs') (hk : k < 8) (n : Nat) :
    ∃ cs'', IsSt w g T cs st R (k + 1) ((w'.drewN n).setCell ⟨g, k, none⟩ (.int .u32 (u (st.get k + R.get k)))) cs'' := by
  refine ⟨cs'.setIfInBounds k (.int .u32 (u (st.get k + R.get k))), ⟨(h.blk.drewN n).set_ k _, by simpa using h.size, fun j hj => ?_, fun j hj => ?_, (h.kept.drewN n).setCell (.inl rfl) _⟩⟩
  · rw [Array.getElem?_setIfInBounds]
    have hs : k < cs'.size := by
      have := h.low k hk
      exact (Array.getElem?_eq_some_iff.1 this).1
    by_cases e : k = j
    · subst e
      rw [if_pos rfl, if_pos hs]
      unfold sumTab
      rw [if_pos (by omega)]
    · rw [if_neg e, h.low j hj]
      unfold sumTab
      by_cases h1 : j < k
      · rw [if_pos h1, if_pos (by omega)]
      · rw [if_neg h1, if_neg (by omega)]
  · rw [Array.getElem?_setIfInBounds, if_neg (by omega)]
    exact h.high j hj

end Go.Proofs.Ytmdkfhfkdcbpgaa.ShaWalk
