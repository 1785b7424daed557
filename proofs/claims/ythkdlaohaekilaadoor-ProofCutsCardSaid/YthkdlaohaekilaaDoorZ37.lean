/-
  Texts of the claim, put into one file: RefPiece.
-/
import Derived.Test.YthkdlaohaekilaaDoorZ33
import Derived.Test.YthkdlaohaekilaaDoorZ17
import Derived.Test.YthkdlaohaekilaaDoorZ25
import Derived.Test.YthkdlaohaekilaaDoorZ19
import Derived.Test.YthkdlaohaekilaaDoorZ13
import Derived.Test.YthkdlaohaekilaaDoorZ16
import Derived.Test.YthkdlaohaekilaaDoorZ10

namespace Go.Proofs.YthkdlaohaekilaaDoor.RefPiece
open Go Go.RowKit Go.Proofs.YthkdlaohaekilaaDoor Go.Proofs.YthkdlaohaekilaaDoor.HeadMem Go.Proofs.YthkdlaohaekilaaDoor.Mem Go.Proofs.YthkdlaohaekilaaDoor.Sha Go.Proofs.YthkdlaohaekilaaDoor.Bytes Go.Proofs.YthkdlaohaekilaaDoor.HashMem Go.Proofs.YthkdlaohaekilaaDoor.Append Go.Proofs.YthkdlaohaekilaaDoor.Octet Go.Proofs.YthkdlaohaekilaaDoor.Octet2 Go.Proofs.YthkdlaohaekilaaDoor.Octet4 Go.Proofs.YthkdlaohaekilaaDoor.Own Go.Proofs.YthkdlaohaekilaaDoor.Held Go.Proofs.YthkdlaohaekilaaDoor.TreeMem Go.Proofs.YthkdlaohaekilaaDoor.Reader7 Go.Proofs.YthkdlaohaekilaaDoor.ProofBeside Go.Proofs.YthkdlaohaekilaaDoor.ProofEnc Go.Proofs.YthkdlaohaekilaaDoor.ProofIdx Go.Proofs.YthkdlaohaekilaaDoor.ProofIdx2 Go.Proofs.YthkdlaohaekilaaDoor.IdxRef0 Go.Proofs.YthkdlaohaekilaaDoor.IdxRef2 Go.Proofs.YthkdlaohaekilaaDoor.DigEq Go.Proofs.YthkdlaohaekilaaDoor.QuietTail Go.Proofs.YthkdlaohaekilaaDoor.Grown Go.Proofs.YthkdlaohaekilaaDoor.Want Go.Proofs.YthkdlaohaekilaaDoor.Plain Go.Proofs.YthkdlaohaekilaaDoor.Guard Go.Proofs.YthkdlaohaekilaaDoor.Guard2 Go.Proofs.YthkdlaohaekilaaDoor.Sides Go.Proofs.YthkdlaohaekilaaDoor.Beside17 Go.Proofs.YthkdlaohaekilaaDoor.Ref17 Go.Proofs.YthkdlaohaekilaaDoor.Ref17b Go.Proofs.YthkdlaohaekilaaDoor.Eight Go.Proofs.YthkdlaohaekilaaDoor.RefIncl0 Go.Proofs.YthkdlaohaekilaaDoor.PieceP Go.Proofs.YthkdlaohaekilaaDoor.PieceRow Go.Proofs.YthkdlaohaekilaaDoor.PieceBegins Go.Proofs.YthkdlaohaekilaaDoor.Prs Go.Proofs.YthkdlaohaekilaaDoor.Reach Go.Proofs.YthkdlaohaekilaaDoor.Reach2 Go.Proofs.YthkdlaohaekilaaDoor.PieceB Go.Proofs.YthkdlaohaekilaaDoor.PieceLay Go.Proofs.YthkdlaohaekilaaDoor.Ref17K

/-- What Piece leaves. -/
def RPost (w : World) (X : Option Text) (e : Ending) (w' : World) : Prop := ∃ A4 c4 t, e = .returned (.slice A4 t.length c4) ∧ Reads w' 1 A4 t.length (cells8 t) ∧ (A4 = none → t.length = 0 ∧ c4 = 0) ∧ t.length ≤ c4 ∧ (X = some t ∨ (X = none ∧ A4 = none ∧ t = [])) ∧ Below w.heap.size w w'
/-- May a piece's head be? -/
def headOk (s : ByteArray) (F : Int) (b : Text) (n n2 : Nat) : Prop := begB s.data.toList F b = true ∧ 1 ≤ n ∧ n ≤ 1000 ∧ n2 = n
instance (s : ByteArray) (F : Int) (b : Text) (n n2 : Nat) : Decidable (headOk s F b n n2) := by unfold headOk; infer_instance
theorem digZ : (Tryd.prog.info? 23).map (·.size) = some 32 := by kernel_rfl
theorem qD : Tryd.prog.eqGuardType Tryd.prog.depth 23 = false := by kernel_rfl
theorem pr_one (x : Pr) : (x.cells.toArray.all fun v => v.oneCell') = true := by
  rw [List.all_toArray]
  rfl
theorem bs_eq {x y : Int} {n : Nat} : (bsOf x y = (n : Int)) ↔ (insideB x y = true ∧ bsNum x y = (n : Int)) := by
  unfold bsOf bsNum
  by_cases h : insideB x y = true
  · rw [if_pos h, if_pos h]
    have h2 := h
    simp only [insideB, Bool.and_eq_true, decide_eq_true_eq] at h2
    rw [beside_sides (n := x.toNat) (i := y.toNat) (by omega)]
    exact ⟨fun e => ⟨h, e⟩, fun e => e.2⟩
  · rw [if_neg h]
    exact ⟨fun e => by omega, fun e => absurd e.1 h⟩

end Go.Proofs.YthkdlaohaekilaaDoor.RefPiece
