/-
  Texts of the claim, put into one file: Law16m, Same8, Book8, RefLess.
-/
import Derived.Test.YtgldkfaiofkhbaaDoorZ3
import Derived.Lib.Hide
import Derived.Outline
import Derived.WalkLawsBesides
import Derived.Deep.QuietTactic
import Derived.BigQuiet
import Derived.StillTailTactics
import Derived.OwnWalk
import Derived.IntWalk
import Derived.Test.YtgldkfaiofkhbaaDoorZ1

namespace Go.Proofs.YtgldkfaiofkhbaaDoor.Law16
open Go Go.RowKit Go.Proofs.YtgldkfaiofkhbaaDoor Go.Proofs.YtgldkfaiofkhbaaDoor.Mem Go.Proofs.YtgldkfaiofkhbaaDoor.Sha Go.Proofs.YtgldkfaiofkhbaaDoor.Bytes

def Roomy (w : World) (g : Nat) (q : Text) : Prop := Tab w g 5 (q.length + 100) (fun j => if j < q.length then cell8 (q.getD j 0) else .int .u8 165)
theorem Roomy.reads {w : World} {g : Nat} {q : Text} (h : Roomy w g q) : Reads w 1 (some ⟨g, 0, none⟩) q.length (cells8 q) :=
  ⟨by rw [cells8_len, Nat.mul_one], fun _ => ⟨g, 0, rfl, h.lt, fun j u hu => by
    have hj : j < q.length := by
      have := (List.getElem?_eq_some_iff.1 hu).1
      rwa [cells8_len] at this
    rw [Nat.zero_add, h.cell (by omega), if_pos hj, ← hu, cells8_at q j hj]⟩⟩
theorem Roomy.kept {S : Nat → Prop} {w w' : World} {g : Nat} {q : Text} (h : Roomy w g q) (hk : Kept S w w') (hS : ¬ S g) : Roomy w' g q := Tab.kept h hk hS
theorem Roomy.below {B : Nat} {w w' : World} {g : Nat} {q : Text} (h : Roomy w g q) (hb : Below B w w') (hB : g < B) : Roomy w' g q := Tab.below' h hb hB
theorem Roomy.drewN {w : World} {g : Nat} {q : Text} (h : Roomy w g q) (n : Nat) : Roomy (w.drewN n) g q := h

end Go.Proofs.YtgldkfaiofkhbaaDoor.Law16

namespace Go.Proofs.YtgldkfaiofkhbaaDoor.Same8
open Go Go.RowKit Go.Proofs.YtgldkfaiofkhbaaDoor Go.Proofs.YtgldkfaiofkhbaaDoor.Mem Go.Proofs.YtgldkfaiofkhbaaDoor.Sha Go.Proofs.YtgldkfaiofkhbaaDoor.Bytes

theorem b8_inj {x y : BitVec 8} (h : b8 x = b8 y) : x = y := by
  unfold b8 at h
  exact BitVec.eq_of_toNat_eq (by omega)
end Go.Proofs.YtgldkfaiofkhbaaDoor.Same8

namespace Go.Proofs.YtgldkfaiofkhbaaDoor.Book8
open Go Go.RowKit Go.Proofs.YtgldkfaiofkhbaaDoor Go.Proofs.YtgldkfaiofkhbaaDoor.Mem Go.Proofs.YtgldkfaiofkhbaaDoor.Sha Go.Proofs.YtgldkfaiofkhbaaDoor.Bytes Go.Proofs.YtgldkfaiofkhbaaDoor.Law16 Go.Proofs.YtgldkfaiofkhbaaDoor.Same8

/-- A text with 80 marks behind it. -/
def RoomB (w : World) (g : Nat) (q : Text) (mk : BitVec 8) : Prop := Tab w g 5 (q.length + 80) (fun j => if j < q.length then cell8 (q.getD j 0) else cell8 mk)
theorem RoomB.reads {w : World} {g : Nat} {q : Text} {mk : BitVec 8} (h : RoomB w g q mk) : Reads w 1 (some ⟨g, 0, none⟩) q.length (cells8 q) :=
  ⟨by rw [cells8_len, Nat.mul_one], fun _ => ⟨g, 0, rfl, h.lt, fun j u hu => by
    have hj : j < q.length := by
      have := (List.getElem?_eq_some_iff.1 hu).1
      rwa [cells8_len] at this
    rw [Nat.zero_add, h.cell (by omega), if_pos hj, ← hu, cells8_at q j hj]⟩⟩
theorem RoomB.below {B : Nat} {w w' : World} {g : Nat} {q : Text} {mk : BitVec 8} (h : RoomB w g q mk) (hb : Below B w w') (hB : g < B) : RoomB w' g q mk := Tab.below' h hb hB
theorem RoomB.drewN {w : World} {g : Nat} {q : Text} {mk : BitVec 8} (h : RoomB w g q mk) (n : Nat) : RoomB (w.drewN n) g q mk := h

end Go.Proofs.YtgldkfaiofkhbaaDoor.Book8

namespace Go.Proofs.YtgldkfaiofkhbaaDoor.RefLess
open Go Go.RowKit Go.Proofs.YtgldkfaiofkhbaaDoor Go.Proofs.YtgldkfaiofkhbaaDoor.Mem Go.Proofs.YtgldkfaiofkhbaaDoor.Sha Go.Proofs.YtgldkfaiofkhbaaDoor.Bytes Go.Proofs.YtgldkfaiofkhbaaDoor.SortP

theorem b8_lt (x y : BitVec 8) : (b8 x < b8 y) ↔ x.toNat < y.toNat := by unfold b8; omega
theorem b8_inj {x y : BitVec 8} (h : b8 x = b8 y) : x = y := BitVec.eq_of_toNat_eq (by unfold b8 at h; omega)
end Go.Proofs.YtgldkfaiofkhbaaDoor.RefLess
