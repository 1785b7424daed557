/-
  Texts of the claim, put into one file: Law16m, Same8.
-/
import Derived.Test.YtmdkfhfkdcbpgaaDoorRZ4
import Derived.Lib.Hide
import Derived.Outline
import Derived.WalkLawsBesides
import Derived.Deep.QuietTactic
import Derived.BigQuiet
import Derived.StillTailTactics
import Derived.OwnWalk
import Derived.IntWalk

namespace Go.Proofs.YtmdkfhfkdcbpgaaDoorR.Law16
open Go Go.RowKit Go.Proofs.YtmdkfhfkdcbpgaaDoorR Go.Proofs.YtmdkfhfkdcbpgaaDoorR.Mem Go.Proofs.YtmdkfhfkdcbpgaaDoorR.Sha Go.Proofs.YtmdkfhfkdcbpgaaDoorR.Bytes

def Roomy (w : World) (g : Nat) (q : Text) : Prop := Tab w g 5 (q.length + 100) (fun j => if j < q.length then cell8 (q.getD j 0) else .int .u8 165)
theorem Roomy.reads {w : World} {g : Nat} {q : Text} (h : Roomy w g q) : Reads w 1 (some ⟨g, 0, none⟩) q.length (cells8 q) :=
  ⟨by rw [cells8_len, Nat.mul_one], fun _ => ⟨g, 0, rfl, h.lt, fun j u hu => by
    have hj : j < q.length := by
      have := (List.getElem?_eq_some_iff.1 hu).1
      rwa [cells8_len] at this
    rw [Nat.zero_add, h.cell (by omega), if_pos hj, ← hu, cells8_at q j hj]⟩⟩
theorem Roomy.kept {S : Nat → Prop} {w w' : World} {g : Nat} {q : Text} (h : Roomy w g q) (hk : Kept S w w') (hS : ¬ S g) : Roomy w' g q := Tab.kept h hk hS
theorem Roomy.below {B : Nat} {w w' : World} {g : Nat} {q : Text} (h : Roomy w g q) (hb : Below B w w') (hB : g < B) : Roomy w' g q := Tab.below' h hb hB
theorem Roomy.drewN {w : World} {g : Nat} {q : Text} (h : Roomy w g q) (n : Nat) : Roomy (w.drewN n) g q := h

end Go.Proofs.YtmdkfhfkdcbpgaaDoorR.Law16

namespace Go.Proofs.YtmdkfhfkdcbpgaaDoorR.Same8
open Go Go.RowKit Go.Proofs.YtmdkfhfkdcbpgaaDoorR Go.Proofs.YtmdkfhfkdcbpgaaDoorR.Mem Go.Proofs.YtmdkfhfkdcbpgaaDoorR.Sha Go.Proofs.YtmdkfhfkdcbpgaaDoorR.Bytes

theorem b8_inj {x y : BitVec 8} (h : b8 x = b8 y) : x = y := by
  unfold b8 at h
  exact BitVec.eq_of_toNat_eq (by omega)
end Go.Proofs.YtmdkfhfkdcbpgaaDoorR.Same8
