/-
  Texts of the claim, put into one file: DecIncl, DecIncl2, Bytes17, Way17, ReadIncl, PieceB, ReadIncl2, Law17a, DecPiece0, DecIdx0, Way17S, DecCons, ReadCons.
-/
import Derived.Test.YtgldkfaiofkhbaaDoorZ20
import Derived.Test.YtgldkfaiofkhbaaDoorZ18
import Derived.Test.YtgldkfaiofkhbaaDoorZ4
import Derived.Test.YtgldkfaiofkhbaaDoorZ17
import Derived.Test.YtgldkfaiofkhbaaDoorZ9
import Derived.Test.YtgldkfaiofkhbaaDoorZ19
import Derived.WalkSpells

namespace Go.Proofs.YtgldkfaiofkhbaaDoor.DecIncl
open Go Go.RowKit Go.Proofs.YtgldkfaiofkhbaaDoor Go.Proofs.YtgldkfaiofkhbaaDoor.Mem Go.Proofs.YtgldkfaiofkhbaaDoor.Sha Go.Proofs.YtgldkfaiofkhbaaDoor.Bytes Go.Proofs.YtgldkfaiofkhbaaDoor.TreeMath Go.Proofs.YtgldkfaiofkhbaaDoor.Sides Go.Proofs.YtgldkfaiofkhbaaDoor.TreeMem Go.Proofs.YtgldkfaiofkhbaaDoor.TreeRoot Go.Proofs.YtgldkfaiofkhbaaDoor.Held Go.Proofs.YtgldkfaiofkhbaaDoor.Reader Go.Proofs.YtgldkfaiofkhbaaDoor.Reader2 Go.Proofs.YtgldkfaiofkhbaaDoor.Reader3 Go.Proofs.YtgldkfaiofkhbaaDoor.Reader4 Go.Proofs.YtgldkfaiofkhbaaDoor.ProofBeside Go.Proofs.YtgldkfaiofkhbaaDoor.Beside17 Go.Proofs.YtgldkfaiofkhbaaDoor.Ref17 Go.Proofs.YtgldkfaiofkhbaaDoor.Ref17b

/-- A taken number, as an int: what is above the log's bound may be anything. -/
def lgInt (N : Nat) : Int := wrap64 (N : Int)
theorem lgInt_le {N : Nat} (h : N ≤ 1099511627776) : lgInt N = (N : Int) := IntWalk.wrap64_in _ (by omega)
/-- What beside answers, at any numbers. -/
def bsNum (size i : Int) : Int := if insideB size i = true then ((sides size.toNat i.toNat).length : Int) else 0
theorem beside_all (size i : Int) (w : World) : Calls Tryd.prog 56 #[.int .i64 size, .int .i64 i] w fun e w' => e = .returned (.tuple #[.int .i64 (bsNum size i), .bool (insideB size i)]) ∧ w = w' := by
  unfold bsNum
  cases h : insideB size i with
  | true =>
    have h2 := h
    simp only [insideB, Bool.and_eq_true, decide_eq_true_eq] at h2
    obtain ⟨sz, rfl⟩ := Int.eq_ofNat_of_zero_le (show 0 ≤ size by omega)
    obtain ⟨j, rfl⟩ := Int.eq_ofNat_of_zero_le h2.1.2
    rw [if_pos rfl, Int.toNat_natCast, Int.toNat_natCast, ← beside_sides (show j < sz by omega)]
    exact beside_yes sz j (by omega) (by omega) w
  | false =>
    rw [if_neg (by decide)]
    exact beside_no size i h w
end Go.Proofs.YtgldkfaiofkhbaaDoor.DecIncl

namespace Go.Proofs.YtgldkfaiofkhbaaDoor.DecIncl2
open Go Go.RowKit Go.Proofs.YtgldkfaiofkhbaaDoor Go.Proofs.YtgldkfaiofkhbaaDoor.Mem Go.Proofs.YtgldkfaiofkhbaaDoor.Sha Go.Proofs.YtgldkfaiofkhbaaDoor.Bytes Go.Proofs.YtgldkfaiofkhbaaDoor.TreeMath Go.Proofs.YtgldkfaiofkhbaaDoor.Sides Go.Proofs.YtgldkfaiofkhbaaDoor.TreeMem Go.Proofs.YtgldkfaiofkhbaaDoor.TreeRoot Go.Proofs.YtgldkfaiofkhbaaDoor.Held Go.Proofs.YtgldkfaiofkhbaaDoor.Reader Go.Proofs.YtgldkfaiofkhbaaDoor.Reader2 Go.Proofs.YtgldkfaiofkhbaaDoor.Reader3 Go.Proofs.YtgldkfaiofkhbaaDoor.Reader4 Go.Proofs.YtgldkfaiofkhbaaDoor.ProofBeside Go.Proofs.YtgldkfaiofkhbaaDoor.Beside17 Go.Proofs.YtgldkfaiofkhbaaDoor.Ref17 Go.Proofs.YtgldkfaiofkhbaaDoor.Ref17b Go.Proofs.YtgldkfaiofkhbaaDoor.DecIncl

end Go.Proofs.YtgldkfaiofkhbaaDoor.DecIncl2

namespace Go.Proofs.YtgldkfaiofkhbaaDoor.Bytes17
open Go Go.RowKit Go.Proofs.YtgldkfaiofkhbaaDoor Go.Proofs.YtgldkfaiofkhbaaDoor.Mem Go.Proofs.YtgldkfaiofkhbaaDoor.Sha Go.Proofs.YtgldkfaiofkhbaaDoor.Bytes Go.Proofs.YtgldkfaiofkhbaaDoor.TreeMath Go.Proofs.YtgldkfaiofkhbaaDoor.Sides Go.Proofs.YtgldkfaiofkhbaaDoor.TreeMem Go.Proofs.YtgldkfaiofkhbaaDoor.TreeRoot Go.Proofs.YtgldkfaiofkhbaaDoor.Reader Go.Proofs.YtgldkfaiofkhbaaDoor.DecIncl

end Go.Proofs.YtgldkfaiofkhbaaDoor.Bytes17

namespace Go.Proofs.YtgldkfaiofkhbaaDoor.Way17
open Go Go.RowKit Go.Proofs.YtgldkfaiofkhbaaDoor Go.Proofs.YtgldkfaiofkhbaaDoor.Mem Go.Proofs.YtgldkfaiofkhbaaDoor.Sha Go.Proofs.YtgldkfaiofkhbaaDoor.Bytes Go.Proofs.YtgldkfaiofkhbaaDoor.Append Go.Proofs.YtgldkfaiofkhbaaDoor.TreeMem Go.Proofs.YtgldkfaiofkhbaaDoor.TreeRoot Go.Proofs.YtgldkfaiofkhbaaDoor.Book Go.Proofs.YtgldkfaiofkhbaaDoor.Own Go.Proofs.YtgldkfaiofkhbaaDoor.Reader4 Go.Proofs.YtgldkfaiofkhbaaDoor.Bytes17

/-- Where way's loop stands behind i digests. -/
def St (p : Text) (i : Nat) (l : List Text) (p1 : Text) (s1 : Bool) : Prop := (s1 = false ∧ 32 * i ≤ p.length ∧ l = chunks p i ∧ p1 = p.drop (32 * i)) ∨ (s1 = true ∧ p.length < 32 * i)
end Go.Proofs.YtgldkfaiofkhbaaDoor.Way17

namespace Go.Proofs.YtgldkfaiofkhbaaDoor.ReadIncl
open Go Go.RowKit Go.Proofs.YtgldkfaiofkhbaaDoor Go.Proofs.YtgldkfaiofkhbaaDoor.Mem Go.Proofs.YtgldkfaiofkhbaaDoor.Sha Go.Proofs.YtgldkfaiofkhbaaDoor.Bytes Go.Proofs.YtgldkfaiofkhbaaDoor.Append Go.Proofs.YtgldkfaiofkhbaaDoor.Octet Go.Proofs.YtgldkfaiofkhbaaDoor.TreeMath Go.Proofs.YtgldkfaiofkhbaaDoor.Sides Go.Proofs.YtgldkfaiofkhbaaDoor.TreeMem Go.Proofs.YtgldkfaiofkhbaaDoor.TreeRoot Go.Proofs.YtgldkfaiofkhbaaDoor.Held Go.Proofs.YtgldkfaiofkhbaaDoor.Own Go.Proofs.YtgldkfaiofkhbaaDoor.Reader Go.Proofs.YtgldkfaiofkhbaaDoor.Reader4 Go.Proofs.YtgldkfaiofkhbaaDoor.ProofBeside Go.Proofs.YtgldkfaiofkhbaaDoor.ProofEnc Go.Proofs.YtgldkfaiofkhbaaDoor.Beside17 Go.Proofs.YtgldkfaiofkhbaaDoor.Ref17 Go.Proofs.YtgldkfaiofkhbaaDoor.Ref17b Go.Proofs.YtgldkfaiofkhbaaDoor.DecIncl Go.Proofs.YtgldkfaiofkhbaaDoor.DecIncl2 Go.Proofs.YtgldkfaiofkhbaaDoor.Bytes17 Go.Proofs.YtgldkfaiofkhbaaDoor.Way17 Go.Proofs.YtgldkfaiofkhbaaDoor.Same17 Go.Proofs.YtgldkfaiofkhbaaDoor.Guard

/-! ### The plain law -/
/-- What was read ahead of the last test. -/
def Got (q : Text) (x1 x2 : Int) (l : List Text) : Prop :=
  (17 ≤ q.length → x1 = lgInt (num ((q.drop 1).take 8)) ∧ x2 = lgInt (num ((q.drop 9).take 8)) ∧ l.length ≤ (bsOf x1 x2).toNat ∧ (32 * (bsOf x1 x2).toNat ≤ (q.drop 17).length → l = chunks (q.drop 17) (bsOf x1 x2).toNat)) ∧ (q.length < 17 → l = []) ∧ Digs l
theorem three {q : Text} (h : 17 ≤ q.length) : q = [q.getD 0 0] ++ (q.drop 1).take 8 ++ (q.drop 9).take 8 ++ q.drop 17 := by
  have e0 : q = q.take 1 ++ q.drop 1 := (List.take_append_drop 1 q).symm
  have e1 : q.drop 1 = (q.drop 1).take 8 ++ q.drop 9 := by
    have := (List.take_append_drop 8 (q.drop 1)).symm
    rwa [List.drop_drop] at this
  have e2 : q.drop 9 = (q.drop 9).take 8 ++ q.drop 17 := by
    have := (List.take_append_drop 8 (q.drop 9)).symm
    rwa [List.drop_drop] at this
  have e3 : q.take 1 = [q.getD 0 0] := by
    match q, h with
    | a :: r, _ => rfl
  rw [List.append_assoc, List.append_assoc, ← e2, ← e1, ← e3, ← e0]
/-! ### The reader's states -/
end Go.Proofs.YtgldkfaiofkhbaaDoor.ReadIncl

namespace Go.Proofs.YtgldkfaiofkhbaaDoor.PieceB
open Go Go.RowKit Go.Proofs.YtgldkfaiofkhbaaDoor Go.Proofs.YtgldkfaiofkhbaaDoor.Mem Go.Proofs.YtgldkfaiofkhbaaDoor.Sha Go.Proofs.YtgldkfaiofkhbaaDoor.Bytes Go.Proofs.YtgldkfaiofkhbaaDoor.Octet Go.Proofs.YtgldkfaiofkhbaaDoor.Octet2 Go.Proofs.YtgldkfaiofkhbaaDoor.TreeMem Go.Proofs.YtgldkfaiofkhbaaDoor.Reader Go.Proofs.YtgldkfaiofkhbaaDoor.Reader4 Go.Proofs.YtgldkfaiofkhbaaDoor.ProofEnc Go.Proofs.YtgldkfaiofkhbaaDoor.DecIncl Go.Proofs.YtgldkfaiofkhbaaDoor.ReadIncl Go.Proofs.YtgldkfaiofkhbaaDoor.Octet4

/-- A row of a piece: its number, the event, the digests. -/
structure Row where
  y : Nat
  e : Text
  ds : List Text
def rowB (r : Row) : Text := be8 r.y ++ (be4 r.e.length ++ (r.e ++ r.ds.flatten))
def rowsB (l : List Row) : Text := l.flatMap rowB
theorem rowB_len (r : Row) (h : Digs r.ds) : (rowB r).length = 12 + r.e.length + 32 * r.ds.length := by
  simp only [rowB, List.length_append, be8_len, be4_len, flat32_len r.ds h]
  omega
/-- The eight and the four bytes from a place on. -/
def n8 (q : Text) (o : Nat) : Nat := num ((q.drop o).take 8)
def n4 (q : Text) (o : Nat) : Nat := num ((q.drop o).take 4)
/-- The row that stands at a place, and where the next one stands; c: how many digests the way of a number has. -/
def rowAt (c : Nat → Nat) (q : Text) (o : Nat) : Row := ⟨n8 q o, (q.drop (o + 12)).take (n4 q (o + 8)), chunks (q.drop (o + 12 + n4 q (o + 8))) (c (n8 q o))⟩
def nxt (c : Nat → Nat) (q : Text) (o : Nat) : Nat := o + 12 + n4 q (o + 8) + 32 * c (n8 q o)
def rowsAt (c : Nat → Nat) (q : Text) : Nat → Nat → List Row
  | _, 0 => []
  | o, n + 1 => rowAt c q o :: rowsAt c q (nxt c q o) n
def endAt (c : Nat → Nat) (q : Text) : Nat → Nat → Nat
  | o, 0 => o
  | o, n + 1 => endAt c q (nxt c q o) n
end Go.Proofs.YtgldkfaiofkhbaaDoor.PieceB

namespace Go.Proofs.YtgldkfaiofkhbaaDoor.ReadIncl2
open Go Go.RowKit Go.Proofs.YtgldkfaiofkhbaaDoor Go.Proofs.YtgldkfaiofkhbaaDoor.Mem Go.Proofs.YtgldkfaiofkhbaaDoor.Sha Go.Proofs.YtgldkfaiofkhbaaDoor.Bytes Go.Proofs.YtgldkfaiofkhbaaDoor.Append Go.Proofs.YtgldkfaiofkhbaaDoor.Octet Go.Proofs.YtgldkfaiofkhbaaDoor.TreeMath Go.Proofs.YtgldkfaiofkhbaaDoor.Sides Go.Proofs.YtgldkfaiofkhbaaDoor.TreeMem Go.Proofs.YtgldkfaiofkhbaaDoor.TreeRoot Go.Proofs.YtgldkfaiofkhbaaDoor.Held Go.Proofs.YtgldkfaiofkhbaaDoor.Own Go.Proofs.YtgldkfaiofkhbaaDoor.Reader Go.Proofs.YtgldkfaiofkhbaaDoor.Reader4 Go.Proofs.YtgldkfaiofkhbaaDoor.ProofBeside Go.Proofs.YtgldkfaiofkhbaaDoor.ProofEnc Go.Proofs.YtgldkfaiofkhbaaDoor.Beside17 Go.Proofs.YtgldkfaiofkhbaaDoor.Ref17 Go.Proofs.YtgldkfaiofkhbaaDoor.Ref17b Go.Proofs.YtgldkfaiofkhbaaDoor.DecIncl Go.Proofs.YtgldkfaiofkhbaaDoor.DecIncl2 Go.Proofs.YtgldkfaiofkhbaaDoor.Bytes17 Go.Proofs.YtgldkfaiofkhbaaDoor.Way17 Go.Proofs.YtgldkfaiofkhbaaDoor.Same17 Go.Proofs.YtgldkfaiofkhbaaDoor.Guard Go.Proofs.YtgldkfaiofkhbaaDoor.ReadIncl

end Go.Proofs.YtgldkfaiofkhbaaDoor.ReadIncl2

namespace Go.Proofs.YtgldkfaiofkhbaaDoor.Law17a
open Go Go.RowKit Go.Proofs.YtgldkfaiofkhbaaDoor Go.Proofs.YtgldkfaiofkhbaaDoor.Mem Go.Proofs.YtgldkfaiofkhbaaDoor.Sha Go.Proofs.YtgldkfaiofkhbaaDoor.Bytes Go.Proofs.YtgldkfaiofkhbaaDoor.TreeMath Go.Proofs.YtgldkfaiofkhbaaDoor.Sides Go.Proofs.YtgldkfaiofkhbaaDoor.TreeMem Go.Proofs.YtgldkfaiofkhbaaDoor.TreeRoot Go.Proofs.YtgldkfaiofkhbaaDoor.Held Go.Proofs.YtgldkfaiofkhbaaDoor.Own Go.Proofs.YtgldkfaiofkhbaaDoor.ProofBeside Go.Proofs.YtgldkfaiofkhbaaDoor.ProofEnc Go.Proofs.YtgldkfaiofkhbaaDoor.Beside17 Go.Proofs.YtgldkfaiofkhbaaDoor.Ref17 Go.Proofs.YtgldkfaiofkhbaaDoor.Ref17b Go.Proofs.YtgldkfaiofkhbaaDoor.DecIncl Go.Proofs.YtgldkfaiofkhbaaDoor.DecIncl2 Go.Proofs.YtgldkfaiofkhbaaDoor.ReadIncl Go.Proofs.YtgldkfaiofkhbaaDoor.ReadIncl2 Go.Proofs.YtgldkfaiofkhbaaDoor.Book Go.Proofs.YtgldkfaiofkhbaaDoor.Book2 Go.Proofs.YtgldkfaiofkhbaaDoor.Same8 Go.Proofs.YtgldkfaiofkhbaaDoor.Book8

def mk0 : Text := [165, 90, 165] ++ List.replicate 29 0
theorem mk0_len : mk0.length = 32 := rfl
end Go.Proofs.YtgldkfaiofkhbaaDoor.Law17a

namespace Go.Proofs.YtgldkfaiofkhbaaDoor.DecPiece0
open Go Go.RowKit Go.Proofs.YtgldkfaiofkhbaaDoor Go.Proofs.YtgldkfaiofkhbaaDoor.Mem Go.Proofs.YtgldkfaiofkhbaaDoor.Sha Go.Proofs.YtgldkfaiofkhbaaDoor.Bytes Go.Proofs.YtgldkfaiofkhbaaDoor.TreeMath Go.Proofs.YtgldkfaiofkhbaaDoor.Sides Go.Proofs.YtgldkfaiofkhbaaDoor.TreeMem Go.Proofs.YtgldkfaiofkhbaaDoor.TreeRoot Go.Proofs.YtgldkfaiofkhbaaDoor.Held Go.Proofs.YtgldkfaiofkhbaaDoor.Reader Go.Proofs.YtgldkfaiofkhbaaDoor.Reader2 Go.Proofs.YtgldkfaiofkhbaaDoor.Reader3 Go.Proofs.YtgldkfaiofkhbaaDoor.Reader4 Go.Proofs.YtgldkfaiofkhbaaDoor.ProofBeside Go.Proofs.YtgldkfaiofkhbaaDoor.Beside17 Go.Proofs.YtgldkfaiofkhbaaDoor.Ref17 Go.Proofs.YtgldkfaiofkhbaaDoor.Ref17b

end Go.Proofs.YtgldkfaiofkhbaaDoor.DecPiece0

namespace Go.Proofs.YtgldkfaiofkhbaaDoor.DecIdx0
open Go Go.RowKit Go.Proofs.YtgldkfaiofkhbaaDoor Go.Proofs.YtgldkfaiofkhbaaDoor.Mem Go.Proofs.YtgldkfaiofkhbaaDoor.Sha Go.Proofs.YtgldkfaiofkhbaaDoor.Bytes Go.Proofs.YtgldkfaiofkhbaaDoor.TreeMath Go.Proofs.YtgldkfaiofkhbaaDoor.Sides Go.Proofs.YtgldkfaiofkhbaaDoor.TreeMem Go.Proofs.YtgldkfaiofkhbaaDoor.TreeRoot Go.Proofs.YtgldkfaiofkhbaaDoor.Held Go.Proofs.YtgldkfaiofkhbaaDoor.Reader Go.Proofs.YtgldkfaiofkhbaaDoor.Reader2 Go.Proofs.YtgldkfaiofkhbaaDoor.Reader3 Go.Proofs.YtgldkfaiofkhbaaDoor.Reader4 Go.Proofs.YtgldkfaiofkhbaaDoor.ProofBeside Go.Proofs.YtgldkfaiofkhbaaDoor.Beside17 Go.Proofs.YtgldkfaiofkhbaaDoor.Ref17 Go.Proofs.YtgldkfaiofkhbaaDoor.Ref17b

/-- What beside answers, at any numbers. -/
def bsNum (size i : Int) : Int := if insideB size i = true then ((sides size.toNat i.toNat).length : Int) else 0
end Go.Proofs.YtgldkfaiofkhbaaDoor.DecIdx0

namespace Go.Proofs.YtgldkfaiofkhbaaDoor.Way17S
open Go Go.RowKit Go.Proofs.YtgldkfaiofkhbaaDoor Go.Proofs.YtgldkfaiofkhbaaDoor.Mem Go.Proofs.YtgldkfaiofkhbaaDoor.Sha Go.Proofs.YtgldkfaiofkhbaaDoor.Bytes Go.Proofs.YtgldkfaiofkhbaaDoor.Append Go.Proofs.YtgldkfaiofkhbaaDoor.TreeMem Go.Proofs.YtgldkfaiofkhbaaDoor.TreeRoot Go.Proofs.YtgldkfaiofkhbaaDoor.Book Go.Proofs.YtgldkfaiofkhbaaDoor.Own Go.Proofs.YtgldkfaiofkhbaaDoor.Reader4 Go.Proofs.YtgldkfaiofkhbaaDoor.Bytes17 Go.Proofs.YtgldkfaiofkhbaaDoor.Way17 Go.Proofs.YtgldkfaiofkhbaaDoor.ReadIncl

end Go.Proofs.YtgldkfaiofkhbaaDoor.Way17S

namespace Go.Proofs.YtgldkfaiofkhbaaDoor.DecCons
open Go Go.RowKit Go.Proofs.YtgldkfaiofkhbaaDoor Go.Proofs.YtgldkfaiofkhbaaDoor.Mem Go.Proofs.YtgldkfaiofkhbaaDoor.Sha Go.Proofs.YtgldkfaiofkhbaaDoor.Bytes Go.Proofs.YtgldkfaiofkhbaaDoor.TreeMath Go.Proofs.YtgldkfaiofkhbaaDoor.Sides Go.Proofs.YtgldkfaiofkhbaaDoor.TreeMem Go.Proofs.YtgldkfaiofkhbaaDoor.TreeRoot Go.Proofs.YtgldkfaiofkhbaaDoor.Held Go.Proofs.YtgldkfaiofkhbaaDoor.Reader Go.Proofs.YtgldkfaiofkhbaaDoor.Reader2 Go.Proofs.YtgldkfaiofkhbaaDoor.Reader3 Go.Proofs.YtgldkfaiofkhbaaDoor.Reader4 Go.Proofs.YtgldkfaiofkhbaaDoor.Ref17 Go.Proofs.YtgldkfaiofkhbaaDoor.Ref17b Go.Proofs.YtgldkfaiofkhbaaDoor.DecIncl Go.Proofs.YtgldkfaiofkhbaaDoor.DecIncl2 Go.Proofs.YtgldkfaiofkhbaaDoor.Subs Go.Proofs.YtgldkfaiofkhbaaDoor.Betw Go.Proofs.YtgldkfaiofkhbaaDoor.BetwRef Go.Proofs.YtgldkfaiofkhbaaDoor.EncCons Go.Proofs.YtgldkfaiofkhbaaDoor.RefCons

end Go.Proofs.YtgldkfaiofkhbaaDoor.DecCons

namespace Go.Proofs.YtgldkfaiofkhbaaDoor.ReadCons
open Go Go.RowKit Go.Proofs.YtgldkfaiofkhbaaDoor Go.Proofs.YtgldkfaiofkhbaaDoor.Mem Go.Proofs.YtgldkfaiofkhbaaDoor.Sha Go.Proofs.YtgldkfaiofkhbaaDoor.Bytes Go.Proofs.YtgldkfaiofkhbaaDoor.Append Go.Proofs.YtgldkfaiofkhbaaDoor.Octet Go.Proofs.YtgldkfaiofkhbaaDoor.TreeMath Go.Proofs.YtgldkfaiofkhbaaDoor.Sides Go.Proofs.YtgldkfaiofkhbaaDoor.TreeMem Go.Proofs.YtgldkfaiofkhbaaDoor.TreeRoot Go.Proofs.YtgldkfaiofkhbaaDoor.Held Go.Proofs.YtgldkfaiofkhbaaDoor.Own Go.Proofs.YtgldkfaiofkhbaaDoor.Guard Go.Proofs.YtgldkfaiofkhbaaDoor.Reader Go.Proofs.YtgldkfaiofkhbaaDoor.Reader4 Go.Proofs.YtgldkfaiofkhbaaDoor.ProofEnc Go.Proofs.YtgldkfaiofkhbaaDoor.Ref17 Go.Proofs.YtgldkfaiofkhbaaDoor.Ref17b Go.Proofs.YtgldkfaiofkhbaaDoor.DecIncl Go.Proofs.YtgldkfaiofkhbaaDoor.DecIncl2 Go.Proofs.YtgldkfaiofkhbaaDoor.Bytes17 Go.Proofs.YtgldkfaiofkhbaaDoor.Way17 Go.Proofs.YtgldkfaiofkhbaaDoor.Same17 Go.Proofs.YtgldkfaiofkhbaaDoor.ReadIncl Go.Proofs.YtgldkfaiofkhbaaDoor.ReadIncl2 Go.Proofs.YtgldkfaiofkhbaaDoor.Subs Go.Proofs.YtgldkfaiofkhbaaDoor.Betw Go.Proofs.YtgldkfaiofkhbaaDoor.BetwRef Go.Proofs.YtgldkfaiofkhbaaDoor.EncCons Go.Proofs.YtgldkfaiofkhbaaDoor.RefCons Go.Proofs.YtgldkfaiofkhbaaDoor.DecCons Go.Proofs.YtgldkfaiofkhbaaDoor.EncConsAny

end Go.Proofs.YtgldkfaiofkhbaaDoor.ReadCons
