/-
  Texts of the claim, put into one file: DecIncl, DecIncl2, Bytes17, Way17, ReadIncl, PieceB, ReadIncl2, Law17a, DecPiece0, DecIdx0, Way17S.
-/
import Derived.Test.YthkdlaohaekilaaDoorZ15
import Derived.Test.YthkdlaohaekilaaDoorZ17
import Derived.Test.YthkdlaohaekilaaDoorZ4
import Derived.Test.YthkdlaohaekilaaDoorZ16
import Derived.Test.YthkdlaohaekilaaDoorZ10
import Derived.Test.YthkdlaohaekilaaDoorZ14
import Derived.WalkSpells

namespace Go.Proofs.YthkdlaohaekilaaDoor.DecIncl
open Go Go.RowKit Go.Proofs.YthkdlaohaekilaaDoor Go.Proofs.YthkdlaohaekilaaDoor.Mem Go.Proofs.YthkdlaohaekilaaDoor.Sha Go.Proofs.YthkdlaohaekilaaDoor.Bytes Go.Proofs.YthkdlaohaekilaaDoor.TreeMath Go.Proofs.YthkdlaohaekilaaDoor.Sides Go.Proofs.YthkdlaohaekilaaDoor.TreeMem Go.Proofs.YthkdlaohaekilaaDoor.TreeRoot Go.Proofs.YthkdlaohaekilaaDoor.Held Go.Proofs.YthkdlaohaekilaaDoor.Reader Go.Proofs.YthkdlaohaekilaaDoor.Reader2 Go.Proofs.YthkdlaohaekilaaDoor.Reader3 Go.Proofs.YthkdlaohaekilaaDoor.Reader4 Go.Proofs.YthkdlaohaekilaaDoor.ProofBeside Go.Proofs.YthkdlaohaekilaaDoor.Beside17 Go.Proofs.YthkdlaohaekilaaDoor.Ref17 Go.Proofs.YthkdlaohaekilaaDoor.Ref17b

/-- A taken number, as an int: what is above the log's bound may be anything. -/
def lgInt (N : Nat) : Int := wrap64 (N : Int)
theorem lgInt_le {N : Nat} (h : N ≤ 1099511627776) : lgInt N = (N : Int) := IntWalk.wrap64_in _ (by omega)
/-- What beside answers, at any numbers. -/
def bsNum (size i : Int) : Int := if insideB size i = true then ((sides size.toNat i.toNat).length : Int) else 0
theorem beside_all (size i : Int) (w : World) : Calls Tryd.prog 141 #[.int .i64 size, .int .i64 i] w fun e w' => e = .returned (.tuple #[.int .i64 (bsNum size i), .bool (insideB size i)]) ∧ w = w' := by
  unfold bsNum
  cases h : insideB size i with
  | true =>
    have h2 := h
    simp only [insideB, Bool.and_eq_true, decide_eq_true_eq] at h2
    obtain ⟨sz, rfl⟩ := Int.eq_ofNat_of_zero_le (show 0 ≤ size by omega)
    obtain ⟨j, rfl⟩ := Int.eq_ofNat_of_zero_le h2.1.2
    rw [if_pos rfl, Int.toNat_natCast, Int.toNat_natCast, ← beside_sides (show j < sz by omega)]
    exact beside_yes sz j (by omega) (by omega) w
  | false =>
    rw [if_neg (by decide)]
    exact beside_no size i h w
end Go.Proofs.YthkdlaohaekilaaDoor.DecIncl

namespace Go.Proofs.YthkdlaohaekilaaDoor.DecIncl2
open Go Go.RowKit Go.Proofs.YthkdlaohaekilaaDoor Go.Proofs.YthkdlaohaekilaaDoor.Mem Go.Proofs.YthkdlaohaekilaaDoor.Sha Go.Proofs.YthkdlaohaekilaaDoor.Bytes Go.Proofs.YthkdlaohaekilaaDoor.TreeMath Go.Proofs.YthkdlaohaekilaaDoor.Sides Go.Proofs.YthkdlaohaekilaaDoor.TreeMem Go.Proofs.YthkdlaohaekilaaDoor.TreeRoot Go.Proofs.YthkdlaohaekilaaDoor.Held Go.Proofs.YthkdlaohaekilaaDoor.Reader Go.Proofs.YthkdlaohaekilaaDoor.Reader2 Go.Proofs.YthkdlaohaekilaaDoor.Reader3 Go.Proofs.YthkdlaohaekilaaDoor.Reader4 Go.Proofs.YthkdlaohaekilaaDoor.ProofBeside Go.Proofs.YthkdlaohaekilaaDoor.Beside17 Go.Proofs.YthkdlaohaekilaaDoor.Ref17 Go.Proofs.YthkdlaohaekilaaDoor.Ref17b Go.Proofs.YthkdlaohaekilaaDoor.DecIncl

end Go.Proofs.YthkdlaohaekilaaDoor.DecIncl2

namespace Go.Proofs.YthkdlaohaekilaaDoor.Bytes17
open Go Go.RowKit Go.Proofs.YthkdlaohaekilaaDoor Go.Proofs.YthkdlaohaekilaaDoor.Mem Go.Proofs.YthkdlaohaekilaaDoor.Sha Go.Proofs.YthkdlaohaekilaaDoor.Bytes Go.Proofs.YthkdlaohaekilaaDoor.TreeMath Go.Proofs.YthkdlaohaekilaaDoor.Sides Go.Proofs.YthkdlaohaekilaaDoor.TreeMem Go.Proofs.YthkdlaohaekilaaDoor.TreeRoot Go.Proofs.YthkdlaohaekilaaDoor.Reader Go.Proofs.YthkdlaohaekilaaDoor.DecIncl

end Go.Proofs.YthkdlaohaekilaaDoor.Bytes17

namespace Go.Proofs.YthkdlaohaekilaaDoor.Way17
open Go Go.RowKit Go.Proofs.YthkdlaohaekilaaDoor Go.Proofs.YthkdlaohaekilaaDoor.Mem Go.Proofs.YthkdlaohaekilaaDoor.Sha Go.Proofs.YthkdlaohaekilaaDoor.Bytes Go.Proofs.YthkdlaohaekilaaDoor.Append Go.Proofs.YthkdlaohaekilaaDoor.TreeMem Go.Proofs.YthkdlaohaekilaaDoor.TreeRoot Go.Proofs.YthkdlaohaekilaaDoor.Book Go.Proofs.YthkdlaohaekilaaDoor.Own Go.Proofs.YthkdlaohaekilaaDoor.Reader4 Go.Proofs.YthkdlaohaekilaaDoor.Bytes17

/-- Where way's loop stands behind i digests. -/
def St (p : Text) (i : Nat) (l : List Text) (p1 : Text) (s1 : Bool) : Prop := (s1 = false ∧ 32 * i ≤ p.length ∧ l = chunks p i ∧ p1 = p.drop (32 * i)) ∨ (s1 = true ∧ p.length < 32 * i)
end Go.Proofs.YthkdlaohaekilaaDoor.Way17

namespace Go.Proofs.YthkdlaohaekilaaDoor.ReadIncl
open Go Go.RowKit Go.Proofs.YthkdlaohaekilaaDoor Go.Proofs.YthkdlaohaekilaaDoor.Mem Go.Proofs.YthkdlaohaekilaaDoor.Sha Go.Proofs.YthkdlaohaekilaaDoor.Bytes Go.Proofs.YthkdlaohaekilaaDoor.Append Go.Proofs.YthkdlaohaekilaaDoor.Octet Go.Proofs.YthkdlaohaekilaaDoor.TreeMath Go.Proofs.YthkdlaohaekilaaDoor.Sides Go.Proofs.YthkdlaohaekilaaDoor.TreeMem Go.Proofs.YthkdlaohaekilaaDoor.TreeRoot Go.Proofs.YthkdlaohaekilaaDoor.Held Go.Proofs.YthkdlaohaekilaaDoor.Own Go.Proofs.YthkdlaohaekilaaDoor.Reader Go.Proofs.YthkdlaohaekilaaDoor.Reader4 Go.Proofs.YthkdlaohaekilaaDoor.ProofBeside Go.Proofs.YthkdlaohaekilaaDoor.ProofEnc Go.Proofs.YthkdlaohaekilaaDoor.Beside17 Go.Proofs.YthkdlaohaekilaaDoor.Ref17 Go.Proofs.YthkdlaohaekilaaDoor.Ref17b Go.Proofs.YthkdlaohaekilaaDoor.DecIncl Go.Proofs.YthkdlaohaekilaaDoor.DecIncl2 Go.Proofs.YthkdlaohaekilaaDoor.Bytes17 Go.Proofs.YthkdlaohaekilaaDoor.Way17 Go.Proofs.YthkdlaohaekilaaDoor.Same17 Go.Proofs.YthkdlaohaekilaaDoor.Guard

/-! ### The plain law -/
/-- What was read ahead of the last test. -/
def Got (q : Text) (x1 x2 : Int) (l : List Text) : Prop :=
  (17 ≤ q.length → x1 = lgInt (num ((q.drop 1).take 8)) ∧ x2 = lgInt (num ((q.drop 9).take 8)) ∧ l.length ≤ (bsOf x1 x2).toNat ∧ (32 * (bsOf x1 x2).toNat ≤ (q.drop 17).length → l = chunks (q.drop 17) (bsOf x1 x2).toNat)) ∧ (q.length < 17 → l = []) ∧ Digs l
theorem three {q : Text} (h : 17 ≤ q.length) : q = [q.getD 0 0] ++ (q.drop 1).take 8 ++ (q.drop 9).take 8 ++ q.drop 17 := by
  have e0 : q = q.take 1 ++ q.drop 1 := (List.take_append_drop 1 q).symm
  have e1 : q.drop 1 = (q.drop 1).take 8 ++ q.drop 9 := by
    have := (List.take_append_drop 8 (q.drop 1)).symm
    rwa [List.drop_drop] at this
  have e2 : q.drop 9 = (q.drop 9).take 8 ++ q.drop 17 := by
    have := (List.take_append_drop 8 (q.drop 9)).symm
    rwa [List.drop_drop] at this
  have e3 : q.take 1 = [q.getD 0 0] := by
    match q, h with
    | a :: r, _ => rfl
  rw [List.append_assoc, List.append_assoc, ← e2, ← e1, ← e3, ← e0]
/-! ### The reader's states -/
end Go.Proofs.YthkdlaohaekilaaDoor.ReadIncl

namespace Go.Proofs.YthkdlaohaekilaaDoor.PieceB
open Go Go.RowKit Go.Proofs.YthkdlaohaekilaaDoor Go.Proofs.YthkdlaohaekilaaDoor.Mem Go.Proofs.YthkdlaohaekilaaDoor.Sha Go.Proofs.YthkdlaohaekilaaDoor.Bytes Go.Proofs.YthkdlaohaekilaaDoor.Octet Go.Proofs.YthkdlaohaekilaaDoor.Octet2 Go.Proofs.YthkdlaohaekilaaDoor.TreeMem Go.Proofs.YthkdlaohaekilaaDoor.Reader Go.Proofs.YthkdlaohaekilaaDoor.Reader4 Go.Proofs.YthkdlaohaekilaaDoor.ProofEnc Go.Proofs.YthkdlaohaekilaaDoor.DecIncl Go.Proofs.YthkdlaohaekilaaDoor.ReadIncl Go.Proofs.YthkdlaohaekilaaDoor.Octet4

/-- A row of a piece: its number, the event, the digests. -/
structure Row where
  y : Nat
  e : Text
  ds : List Text
/-- The eight and the four bytes from a place on. -/
def n8 (q : Text) (o : Nat) : Nat := num ((q.drop o).take 8)
def n4 (q : Text) (o : Nat) : Nat := num ((q.drop o).take 4)
/-- The row that stands at a place, and where the next one stands; c: how many digests the way of a number has. -/
def rowAt (c : Nat → Nat) (q : Text) (o : Nat) : Row := ⟨n8 q o, (q.drop (o + 12)).take (n4 q (o + 8)), chunks (q.drop (o + 12 + n4 q (o + 8))) (c (n8 q o))⟩
def nxt (c : Nat → Nat) (q : Text) (o : Nat) : Nat := o + 12 + n4 q (o + 8) + 32 * c (n8 q o)
def rowsAt (c : Nat → Nat) (q : Text) : Nat → Nat → List Row
  | _, 0 => []
  | o, n + 1 => rowAt c q o :: rowsAt c q (nxt c q o) n
def endAt (c : Nat → Nat) (q : Text) : Nat → Nat → Nat
  | o, 0 => o
  | o, n + 1 => endAt c q (nxt c q o) n
end Go.Proofs.YthkdlaohaekilaaDoor.PieceB

namespace Go.Proofs.YthkdlaohaekilaaDoor.ReadIncl2
open Go Go.RowKit Go.Proofs.YthkdlaohaekilaaDoor Go.Proofs.YthkdlaohaekilaaDoor.Mem Go.Proofs.YthkdlaohaekilaaDoor.Sha Go.Proofs.YthkdlaohaekilaaDoor.Bytes Go.Proofs.YthkdlaohaekilaaDoor.Append Go.Proofs.YthkdlaohaekilaaDoor.Octet Go.Proofs.YthkdlaohaekilaaDoor.TreeMath Go.Proofs.YthkdlaohaekilaaDoor.Sides Go.Proofs.YthkdlaohaekilaaDoor.TreeMem Go.Proofs.YthkdlaohaekilaaDoor.TreeRoot Go.Proofs.YthkdlaohaekilaaDoor.Held Go.Proofs.YthkdlaohaekilaaDoor.Own Go.Proofs.YthkdlaohaekilaaDoor.Reader Go.Proofs.YthkdlaohaekilaaDoor.Reader4 Go.Proofs.YthkdlaohaekilaaDoor.ProofBeside Go.Proofs.YthkdlaohaekilaaDoor.ProofEnc Go.Proofs.YthkdlaohaekilaaDoor.Beside17 Go.Proofs.YthkdlaohaekilaaDoor.Ref17 Go.Proofs.YthkdlaohaekilaaDoor.Ref17b Go.Proofs.YthkdlaohaekilaaDoor.DecIncl Go.Proofs.YthkdlaohaekilaaDoor.DecIncl2 Go.Proofs.YthkdlaohaekilaaDoor.Bytes17 Go.Proofs.YthkdlaohaekilaaDoor.Way17 Go.Proofs.YthkdlaohaekilaaDoor.Same17 Go.Proofs.YthkdlaohaekilaaDoor.Guard Go.Proofs.YthkdlaohaekilaaDoor.ReadIncl

end Go.Proofs.YthkdlaohaekilaaDoor.ReadIncl2

namespace Go.Proofs.YthkdlaohaekilaaDoor.Law17a
open Go Go.RowKit Go.Proofs.YthkdlaohaekilaaDoor Go.Proofs.YthkdlaohaekilaaDoor.Mem Go.Proofs.YthkdlaohaekilaaDoor.Sha Go.Proofs.YthkdlaohaekilaaDoor.Bytes Go.Proofs.YthkdlaohaekilaaDoor.TreeMath Go.Proofs.YthkdlaohaekilaaDoor.Sides Go.Proofs.YthkdlaohaekilaaDoor.TreeMem Go.Proofs.YthkdlaohaekilaaDoor.TreeRoot Go.Proofs.YthkdlaohaekilaaDoor.Held Go.Proofs.YthkdlaohaekilaaDoor.Own Go.Proofs.YthkdlaohaekilaaDoor.ProofBeside Go.Proofs.YthkdlaohaekilaaDoor.ProofEnc Go.Proofs.YthkdlaohaekilaaDoor.Beside17 Go.Proofs.YthkdlaohaekilaaDoor.Ref17 Go.Proofs.YthkdlaohaekilaaDoor.Ref17b Go.Proofs.YthkdlaohaekilaaDoor.DecIncl Go.Proofs.YthkdlaohaekilaaDoor.DecIncl2 Go.Proofs.YthkdlaohaekilaaDoor.ReadIncl Go.Proofs.YthkdlaohaekilaaDoor.ReadIncl2 Go.Proofs.YthkdlaohaekilaaDoor.Book Go.Proofs.YthkdlaohaekilaaDoor.Book2 Go.Proofs.YthkdlaohaekilaaDoor.Same8 Go.Proofs.YthkdlaohaekilaaDoor.Book8

def mk0 : Text := [165, 90, 165] ++ List.replicate 29 0
theorem mk0_len : mk0.length = 32 := rfl
set_option maxRecDepth 100000 in
set_option maxHeartbeats 1000000 in
theorem stranger17_any (w : World) : Calls Tryd.prog 16 #[] w fun e w' => e = .returned (.agg (cells8 mk0).toArray) ∧ Below w.heap.size w w' := by
  have hB0 : Hid (Blk (w.alloc (.cells Z32 23)) w.heap.size 23 Z32) := Blk.new w _ _
  have hb0 : Hid (Below w.heap.size w (w.alloc (.cells Z32 23))) := Below.heap_below w _
  have F := Lib.hid (fit (x := mk0) mk0_len)
  go_enter Tryd.func16, Tryd.ntmps16
  go_wp2_with ((with_reducible change wpList _ _ _ ({ dst := none, op := Op.store 23 _ _, type := _, pos := _, after := _, guard := _ } :: _) _ _); refine wpList_store_row (o := ⟨none, _, _, _, _, _⟩) rfl 23 (.tmp 0) (.tmp 1) rfl w.heap.size (cells8 mk0).toArray rfl rfl 23 Z32 hB0.out F.out.size F.out.zero F.out.one ?_)
  refine bodyPost_ret (results_cell_row rfl _ _ w.heap.size 23 (cells8 mk0).toArray (0, 0) _ rfl (setRow_heap _ _ _ _ _ _ hB0.out) Tryd.underlying23 rfl F.out.size) rfl ?_
  exact ⟨rfl, below_setRow hb0.out (Nat.le_refl _) _⟩
set_option maxRecDepth 100000 in
set_option maxHeartbeats 1000000 in
theorem sameIncl_yes (x y : Int) (l : List Text) (n : Nat) (hn : n < 140737488355328) (A B : Option Addr) (c d : Nat) (w : World) (ha : RdD w A n l) (hb : RdD w B n l) :
    Calls Tryd.prog 19 #[.agg (inclCells x y A n c), .agg (inclCells x y B n d)] w fun e w' => e = .returned (.bool true) ∧ Below w.heap.size w w' := by
  unfold inclCells
  have hb2 : Hid (Below w.heap.size w ((w.alloc (.cells #[.int .i64 x, .int .i64 y, .slice A n c] 31)).alloc (.cells #[.int .i64 x, .int .i64 y, .slice B n d] 31))) := (Below.heap_below w _).alloc (by simp) _
  have hS : Hid (∀ w', Below w.heap.size w w' → Calls Tryd.prog 27 #[.slice A n c, .slice B n d] w' fun e w'' => e = .returned (.bool true) ∧ Below w'.heap.size w' w'') := fun w' h => by
    have := sameD_any n n hn l l A B c d w' (ha.below h) (hb.below h)
    rw [decide_eq_true rfl] at this
    exact this
  have y1 : (x == x) = true := beq_self_eq_true _
  have y2 : (y == y) = true := beq_self_eq_true _
  clear ha hb hn
  go_enter Tryd.func19, Tryd.ntmps19
  go_wp2_with (go_at_call 27; refine (hS.out _ hb2.out).mono ?_; rintro e w3 ⟨rfl, hk⟩; have hb3 : Hid (Below w.heap.size w w3) := hb2.out.trans (hk.mono hb2.out.size); clear hk)
  go_ret
  exact ⟨rfl, hb3.out⟩

end Go.Proofs.YthkdlaohaekilaaDoor.Law17a

namespace Go.Proofs.YthkdlaohaekilaaDoor.DecPiece0
open Go Go.RowKit Go.Proofs.YthkdlaohaekilaaDoor Go.Proofs.YthkdlaohaekilaaDoor.Mem Go.Proofs.YthkdlaohaekilaaDoor.Sha Go.Proofs.YthkdlaohaekilaaDoor.Bytes Go.Proofs.YthkdlaohaekilaaDoor.TreeMath Go.Proofs.YthkdlaohaekilaaDoor.Sides Go.Proofs.YthkdlaohaekilaaDoor.TreeMem Go.Proofs.YthkdlaohaekilaaDoor.TreeRoot Go.Proofs.YthkdlaohaekilaaDoor.Held Go.Proofs.YthkdlaohaekilaaDoor.Reader Go.Proofs.YthkdlaohaekilaaDoor.Reader2 Go.Proofs.YthkdlaohaekilaaDoor.Reader3 Go.Proofs.YthkdlaohaekilaaDoor.Reader4 Go.Proofs.YthkdlaohaekilaaDoor.ProofBeside Go.Proofs.YthkdlaohaekilaaDoor.Beside17 Go.Proofs.YthkdlaohaekilaaDoor.Ref17 Go.Proofs.YthkdlaohaekilaaDoor.Ref17b

end Go.Proofs.YthkdlaohaekilaaDoor.DecPiece0

namespace Go.Proofs.YthkdlaohaekilaaDoor.DecIdx0
open Go Go.RowKit Go.Proofs.YthkdlaohaekilaaDoor Go.Proofs.YthkdlaohaekilaaDoor.Mem Go.Proofs.YthkdlaohaekilaaDoor.Sha Go.Proofs.YthkdlaohaekilaaDoor.Bytes Go.Proofs.YthkdlaohaekilaaDoor.TreeMath Go.Proofs.YthkdlaohaekilaaDoor.Sides Go.Proofs.YthkdlaohaekilaaDoor.TreeMem Go.Proofs.YthkdlaohaekilaaDoor.TreeRoot Go.Proofs.YthkdlaohaekilaaDoor.Held Go.Proofs.YthkdlaohaekilaaDoor.Reader Go.Proofs.YthkdlaohaekilaaDoor.Reader2 Go.Proofs.YthkdlaohaekilaaDoor.Reader3 Go.Proofs.YthkdlaohaekilaaDoor.Reader4 Go.Proofs.YthkdlaohaekilaaDoor.ProofBeside Go.Proofs.YthkdlaohaekilaaDoor.Beside17 Go.Proofs.YthkdlaohaekilaaDoor.Ref17 Go.Proofs.YthkdlaohaekilaaDoor.Ref17b

/-- What beside answers, at any numbers. -/
def bsNum (size i : Int) : Int := if insideB size i = true then ((sides size.toNat i.toNat).length : Int) else 0
end Go.Proofs.YthkdlaohaekilaaDoor.DecIdx0

namespace Go.Proofs.YthkdlaohaekilaaDoor.Way17S
open Go Go.RowKit Go.Proofs.YthkdlaohaekilaaDoor Go.Proofs.YthkdlaohaekilaaDoor.Mem Go.Proofs.YthkdlaohaekilaaDoor.Sha Go.Proofs.YthkdlaohaekilaaDoor.Bytes Go.Proofs.YthkdlaohaekilaaDoor.Append Go.Proofs.YthkdlaohaekilaaDoor.TreeMem Go.Proofs.YthkdlaohaekilaaDoor.TreeRoot Go.Proofs.YthkdlaohaekilaaDoor.Book Go.Proofs.YthkdlaohaekilaaDoor.Own Go.Proofs.YthkdlaohaekilaaDoor.Reader4 Go.Proofs.YthkdlaohaekilaaDoor.Bytes17 Go.Proofs.YthkdlaohaekilaaDoor.Way17 Go.Proofs.YthkdlaohaekilaaDoor.ReadIncl

end Go.Proofs.YthkdlaohaekilaaDoor.Way17S
