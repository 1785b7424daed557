/-
  Texts of the claim, put into one file: Book.
-/
import Derived.Test.YteelanamlhfmgaaZ4
import Derived.Test.YteelanamlhfmgaaZ6
import Derived.Test.YteelanamlhfmgaaZ7
import Derived.Lib.Hide
import Derived.Outline
import Derived.WalkLawsBesides
import Derived.StillTailTactics
import Derived.OwnWalk
import Derived.IntWalk

namespace Go.Proofs.Yteelanamlhfmgaa.Book
open Go Go.RowKit Go.Proofs.Yteelanamlhfmgaa Go.Proofs.Yteelanamlhfmgaa.Mem Go.Proofs.Yteelanamlhfmgaa.Sha Go.Proofs.Yteelanamlhfmgaa.Bytes Go.Proofs.Yteelanamlhfmgaa.QuietTail Go.Proofs.Yteelanamlhfmgaa.Grown Go.Proofs.Yteelanamlhfmgaa.TreeMem Go.Proofs.Yteelanamlhfmgaa.TreeRoot

/-! ### Laws that the kit lacks: a copy of elements of any size, a store into the middle of a row -/
/-! ### Rows of digests that are known whole -/
def RowD (w : World) (g : Nat) (ds : List Text) : Prop := Blk w g 23 (ds.flatMap cells8).toArray
theorem Digs.set_ {ds : List Text} (h : Digs ds) (i : Nat) {x : Text} (hx : x.length = 32) : Digs (ds.set i x) := fun d hd => by
  rcases List.mem_or_eq_of_mem_set hd with h1 | h1
  · exact h d h1
  · rw [h1]; exact hx
theorem Digs.rep (m : Nat) {x : Text} (hx : x.length = 32) : Digs (List.replicate m x) := fun d hd => by rw [List.eq_of_mem_replicate hd, hx]
theorem RowD.rd {w : World} {g : Nat} {ds : List Text} (h : RowD w g ds) (hd : Digs ds) : RdD w (some ⟨g, 0, none⟩) ds.length ds :=
  ⟨rfl, hd, Blk.reads h 0 _ (flatMap_len ds hd) (fun j u hu => by rw [Nat.zero_add, List.getElem?_toArray]; exact hu)⟩
theorem RowD.below {w w' : World} {g : Nat} {ds : List Text} (h : RowD w g ds) (hb : Below w.heap.size w w') : RowD w' g ds := (hb.block g (Blk.lt h)).trans h

theorem info_partsN {P : Program} {e : TypeId} {z : Value} {s b : Nat} (h : (P.info? e).map (fun i => (i.zero, i.size, i.bytes)) = some (some z, s, b)) : ∃ i : TypeInfo, P.info? e = some i ∧ i.zero = some z ∧ i.size = s ∧ i.bytes = b := by
  cases hq : P.info? e with
  | none => simp [hq] at h
  | some i =>
    simp [hq] at h
    exact ⟨i, rfl, h.1, h.2.1, h.2.2⟩
end Go.Proofs.Yteelanamlhfmgaa.Book
