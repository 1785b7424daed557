/-
  Texts of the claim, put into one file: DigEq, SignEqB.
-/
import Derived.Test.YteelanamlhfmgaaZ4
import Derived.ChangeKeysEq
import Derived.Laws.StructEq

namespace Go.Proofs.Yteelanamlhfmgaa.DigEq
open Go Go.RowKit Go.Proofs.Yteelanamlhfmgaa Go.Proofs.Yteelanamlhfmgaa.Mem Go.Proofs.Yteelanamlhfmgaa.Sha Go.Proofs.Yteelanamlhfmgaa.Bytes

theorem part8 (cs : Array Value) (i : Nat) (v : Value) (hv : cs[i]? = some v) (w : World) : (part 5 cs i).run Try.prog w = .ok v w := by
  have hg := run_isAgg_int (P := Try.prog) Try.underlying5 w
  simp [part, hg, hv, Result.andThen]
end Go.Proofs.Yteelanamlhfmgaa.DigEq

namespace Go.Proofs.Yteelanamlhfmgaa.SignEq
open Go Go.RowKit Go.Proofs.Yteelanamlhfmgaa Go.Proofs.Yteelanamlhfmgaa.Mem Go.Proofs.Yteelanamlhfmgaa.Sha Go.Proofs.Yteelanamlhfmgaa.Bytes Go.Proofs.Yteelanamlhfmgaa.DigEq

theorem part_dig (cs : List Value) (off : Nat) (x : Text) (hx : x.length = 32) (hc : ∀ j v, (cells8 x)[j]? = some v → cs[off + j]? = some v) (w : World) : (part 23 cs.toArray off).run Try.prog w = .ok (.agg (cells8 x).toArray) w := by
  have hagg : (isAgg 23).run Try.prog w = .ok true w := by
    unfold isAgg
    rw [Sem.run_bind, run_underlying Try.underlying23 w]
    rfl
  have hs : (sizeOf 23).run Try.prog w = .ok 32 w := by
    have h31 := size31
    cases hq : Try.prog.info? 23 with
    | none => simp [hq] at h31
    | some i =>
      have hi : i.size = 32 := by simpa [hq] using h31
      simp [sizeOf, typeInfo, hq, hi]
  have he : cs.toArray.extract off (off + 32) = (cells8 x).toArray := by
    apply Array.ext_getElem?
    intro j
    rw [Array.getElem?_extract, List.getElem?_toArray]
    by_cases hj : j < 32
    · have h1 : (cells8 x)[j]? = some _ := List.getElem?_eq_getElem (by rw [cells8_len]; omega)
      have h2 := hc j _ h1
      have h3 := (List.getElem?_eq_some_iff.1 h2).1
      rw [List.getElem?_toArray, h1, h2, if_pos (by simp; omega)]
    · rw [if_neg (by simp; omega), List.getElem?_toArray, List.getElem?_eq_none (by rw [cells8_len]; omega)]
  simp only [part, Sem.run_bind, hagg, Result.andThen_ok, if_true, hs, Sem.run_pure, he]
end Go.Proofs.Yteelanamlhfmgaa.SignEq
