/-
  Texts of the claim, put into one file: TreeRefRoot, TreeRoots, WayP, RevP, Levels, WayRows, WayX, AskP.
-/
import Derived.Test.YtgldkfaiofkhbaaDoorZ19
import Derived.Test.YtgldkfaiofkhbaaDoorZ5
import Derived.Test.YtgldkfaiofkhbaaDoorZ17
import Derived.Test.YtgldkfaiofkhbaaDoorZ31
import Derived.Test.YtgldkfaiofkhbaaDoorZ0
import Derived.Outline
import Derived.Test.YtgldkfaiofkhbaaDoorZ10

namespace Go.Proofs.YtgldkfaiofkhbaaDoor.TreeRefRoot
open Go Go.RowKit Go.Proofs.YtgldkfaiofkhbaaDoor Go.Proofs.YtgldkfaiofkhbaaDoor.Digest Go.Proofs.YtgldkfaiofkhbaaDoor.Mem Go.Proofs.YtgldkfaiofkhbaaDoor.Sha Go.Proofs.YtgldkfaiofkhbaaDoor.ShaWalk Go.Proofs.YtgldkfaiofkhbaaDoor.Bytes Go.Proofs.YtgldkfaiofkhbaaDoor.HashMem Go.Proofs.YtgldkfaiofkhbaaDoor.DigestMem Go.Proofs.YtgldkfaiofkhbaaDoor.DigestTop Go.Proofs.YtgldkfaiofkhbaaDoor.RefTop Go.Proofs.YtgldkfaiofkhbaaDoor.QuietTail Go.Proofs.YtgldkfaiofkhbaaDoor.Grown Go.Proofs.YtgldkfaiofkhbaaDoor.Chain Go.Proofs.YtgldkfaiofkhbaaDoor.TreeMath Go.Proofs.YtgldkfaiofkhbaaDoor.TreeMem Go.Proofs.YtgldkfaiofkhbaaDoor.TreeRoot Go.Proofs.YtgldkfaiofkhbaaDoor.Book Go.Proofs.YtgldkfaiofkhbaaDoor.Book2 Go.Proofs.YtgldkfaiofkhbaaDoor.Append Go.Proofs.YtgldkfaiofkhbaaDoor.TreeFold Go.Proofs.YtgldkfaiofkhbaaDoor.Held

theorem own_below {w w' : World} {base e size n : Nat} {v : Value} {xs : List Value} (h : w.ownsRow base e size v n xs) (hb : Below w.heap.size w w') : w'.ownsRow base e size v n xs := by
  refine ⟨h.1, h.2.imp id fun ⟨g, cap, cur, h1, h2, h3, h4⟩ => ⟨g, cap, cur, h1, h2, ?_, h4⟩⟩
  rw [hb.block g (Array.getElem?_eq_some_iff.1 h3).1, h3]
end Go.Proofs.YtgldkfaiofkhbaaDoor.TreeRefRoot

namespace Go.Proofs.YtgldkfaiofkhbaaDoor.TreeRoots
open Go Go.RowKit Go.Proofs.YtgldkfaiofkhbaaDoor Go.Proofs.YtgldkfaiofkhbaaDoor.Digest Go.Proofs.YtgldkfaiofkhbaaDoor.Mem Go.Proofs.YtgldkfaiofkhbaaDoor.Sha Go.Proofs.YtgldkfaiofkhbaaDoor.ShaWalk Go.Proofs.YtgldkfaiofkhbaaDoor.Bytes Go.Proofs.YtgldkfaiofkhbaaDoor.HashMem Go.Proofs.YtgldkfaiofkhbaaDoor.DigestMem Go.Proofs.YtgldkfaiofkhbaaDoor.DigestTop Go.Proofs.YtgldkfaiofkhbaaDoor.RefTop Go.Proofs.YtgldkfaiofkhbaaDoor.QuietTail Go.Proofs.YtgldkfaiofkhbaaDoor.Grown Go.Proofs.YtgldkfaiofkhbaaDoor.Chain Go.Proofs.YtgldkfaiofkhbaaDoor.TreeMath Go.Proofs.YtgldkfaiofkhbaaDoor.TreeMem Go.Proofs.YtgldkfaiofkhbaaDoor.TreeRoot Go.Proofs.YtgldkfaiofkhbaaDoor.TreeFold Go.Proofs.YtgldkfaiofkhbaaDoor.Book Go.Proofs.YtgldkfaiofkhbaaDoor.Book2 Go.Proofs.YtgldkfaiofkhbaaDoor.TreeRefRoot

def mk0 : Text := [165, 90, 165] ++ List.replicate 29 0
theorem mk0_len : mk0.length = 32 := rfl
end Go.Proofs.YtgldkfaiofkhbaaDoor.TreeRoots

namespace Go.Proofs.YtgldkfaiofkhbaaDoor.WayP
open Go Go.RowKit Go.Proofs.YtgldkfaiofkhbaaDoor Go.Proofs.YtgldkfaiofkhbaaDoor.Digest Go.Proofs.YtgldkfaiofkhbaaDoor.Mem Go.Proofs.YtgldkfaiofkhbaaDoor.Sha Go.Proofs.YtgldkfaiofkhbaaDoor.ShaWalk Go.Proofs.YtgldkfaiofkhbaaDoor.Bytes Go.Proofs.YtgldkfaiofkhbaaDoor.HashMem Go.Proofs.YtgldkfaiofkhbaaDoor.DigestMem Go.Proofs.YtgldkfaiofkhbaaDoor.DigestTop Go.Proofs.YtgldkfaiofkhbaaDoor.RefTop Go.Proofs.YtgldkfaiofkhbaaDoor.QuietTail Go.Proofs.YtgldkfaiofkhbaaDoor.Grown Go.Proofs.YtgldkfaiofkhbaaDoor.Chain Go.Proofs.YtgldkfaiofkhbaaDoor.TreeMath Go.Proofs.YtgldkfaiofkhbaaDoor.TreeMem Go.Proofs.YtgldkfaiofkhbaaDoor.TreeRoot Go.Proofs.YtgldkfaiofkhbaaDoor.TreeFold Go.Proofs.YtgldkfaiofkhbaaDoor.Book Go.Proofs.YtgldkfaiofkhbaaDoor.Book2 Go.Proofs.YtgldkfaiofkhbaaDoor.Append Go.Proofs.YtgldkfaiofkhbaaDoor.TreeRefRoot Go.Proofs.YtgldkfaiofkhbaaDoor.Held Go.Proofs.YtgldkfaiofkhbaaDoor.Sides

def insideB (size i : Int) : Bool := decide (1 ≤ size) && decide (size ≤ 1099511627776) && decide (0 ≤ i) && decide (i < size)
/-- Parts as cells. -/
def pcells (p : Nat × Nat) : List Value := [.int .i64 (p.1 : Int), .int .i64 (p.2 : Int)]
def flatP (l : List (Nat × Nat)) : List Value := l.flatMap pcells
/-- To the right of i? -/
def sd (i : Nat) (p : Nat × Nat) : Bool := decide (i < p.1)

/-- What stands at the head of a round of way's loop. -/
structure WayAt (w : World) (B size i : Nat) (wr : World) (l : Value) (gp a b : Nat) (acc : List (Nat × Nat)) : Prop where
  blk : Blk wr gp 176 #[.int .i64 (a : Int), .int .i64 (b : Int)]
  own : wr.ownsRow B 176 2 l acc.length (flatP acc)
  below : Below B w wr
  lo : B ≤ gp
  apart : ∀ k, l.ownBlock = some k → k ≠ gp
  ai : a ≤ i
  ib : i < b
  bs : b ≤ size
  sides : sides size i = Sides.sides (b - a) (i - a) ++ (acc.map (sd i)).reverse
  few : acc.length + (b - a) ≤ size
theorem grown_set (w : World) (g f : Nat) (u : Value) : w.grownBy (w.setCell ⟨g, f, none⟩ u) (some g) := ⟨rfl, rfl, rfl, by simp, fun k _ hk => heap_setCell_other w ⟨g, f, none⟩ k u (fun e => hk (by simp [e]))⟩
theorem WayAt.next {w wr w3 : World} {B size i gp a b f a' b' : Nat} {l v3 u : Value} {acc : List (Nat × Nat)} {q : Nat × Nat} (h : WayAt w B size i wr l gp a b acc) (hb : Below B w w3) (ho : w3.ownsRow B 176 2 v3 (acc.length + 1) (flatP (acc ++ [q])))
    (hap : ∀ k, v3.ownBlock = some k → k ≠ gp) (hB : B ≤ w3.heap.size) (h1 : a' ≤ i) (h2 : i < b') (h3 : b' ≤ size) (h4 : Sides.sides (b - a) (i - a) = Sides.sides (b' - a') (i - a') ++ [sd i q]) (h5 : b' - a' + 1 ≤ b - a) :
    WayAt w B size i ((w3.setCell ⟨gp, f, none⟩ u).alloc (.cells #[.int .i64 (a' : Int), .int .i64 (b' : Int)] 176)) v3 w3.heap.size a' b' (acc ++ [q]) := by
  have hs : (w3.setCell ⟨gp, f, none⟩ u).heap.size = w3.heap.size := by simp
  refine ⟨?_, ?_, ?_, hB, fun k e => ?_, h1, h2, h3, ?_, ?_⟩
  · have := Blk.new (w3.setCell ⟨gp, f, none⟩ u) 176 #[.int .i64 (a' : Int), .int .i64 (b' : Int)]
    rwa [hs] at this
  · rw [show (acc ++ [q]).length = acc.length + 1 by simp]
    refine World.ownsRow.alloc (World.ownsRow.kept ho (grown_set w3 gp f u) ?_) _
    cases e : v3.ownBlock with
    | none => exact .inl rfl
    | some k => exact .inr (fun e2 => hap k e (Option.some.inj e2))
  · exact (hb.setCell h.lo u).alloc (by rw [hs]; exact hB) _
  · have := (ho.lt k e).2
    omega
  · rw [h.sides, h4, List.map_append, List.reverse_append, List.append_assoc]
    rfl
  · have := h.few
    rw [List.length_append]
    simp only [List.length_cons, List.length_nil]
    omega
end Go.Proofs.YtgldkfaiofkhbaaDoor.WayP

namespace Go.Proofs.YtgldkfaiofkhbaaDoor.RevP
open Go Go.RowKit Go.Proofs.YtgldkfaiofkhbaaDoor Go.Proofs.YtgldkfaiofkhbaaDoor.Digest Go.Proofs.YtgldkfaiofkhbaaDoor.Mem Go.Proofs.YtgldkfaiofkhbaaDoor.Sha Go.Proofs.YtgldkfaiofkhbaaDoor.ShaWalk Go.Proofs.YtgldkfaiofkhbaaDoor.Bytes Go.Proofs.YtgldkfaiofkhbaaDoor.HashMem Go.Proofs.YtgldkfaiofkhbaaDoor.DigestMem Go.Proofs.YtgldkfaiofkhbaaDoor.DigestTop Go.Proofs.YtgldkfaiofkhbaaDoor.RefTop Go.Proofs.YtgldkfaiofkhbaaDoor.QuietTail Go.Proofs.YtgldkfaiofkhbaaDoor.Grown Go.Proofs.YtgldkfaiofkhbaaDoor.Chain Go.Proofs.YtgldkfaiofkhbaaDoor.TreeMath Go.Proofs.YtgldkfaiofkhbaaDoor.TreeMem Go.Proofs.YtgldkfaiofkhbaaDoor.TreeRoot Go.Proofs.YtgldkfaiofkhbaaDoor.TreeFold Go.Proofs.YtgldkfaiofkhbaaDoor.Book Go.Proofs.YtgldkfaiofkhbaaDoor.Book2 Go.Proofs.YtgldkfaiofkhbaaDoor.Append Go.Proofs.YtgldkfaiofkhbaaDoor.TreeRefRoot Go.Proofs.YtgldkfaiofkhbaaDoor.Held Go.Proofs.YtgldkfaiofkhbaaDoor.Sides Go.Proofs.YtgldkfaiofkhbaaDoor.WayP

end Go.Proofs.YtgldkfaiofkhbaaDoor.RevP

namespace Go.Proofs.YtgldkfaiofkhbaaDoor.Levels
open Go Go.RowKit Go.Proofs.YtgldkfaiofkhbaaDoor Go.Proofs.YtgldkfaiofkhbaaDoor.Mem Go.Proofs.YtgldkfaiofkhbaaDoor.Sha Go.Proofs.YtgldkfaiofkhbaaDoor.Bytes Go.Proofs.YtgldkfaiofkhbaaDoor.Sides Go.Proofs.YtgldkfaiofkhbaaDoor.RefSides

/-- The neighbour's first leaf at level l. -/
def nbAt (i l : Nat) : Nat := (i / 2 ^ l ^^^ 1) * 2 ^ l
/-- How many levels a tree of that size has. -/
def levels (size : Nat) : Nat := if size ≤ 1 then 0 else Nat.log2 (size - 1) + 1
theorem xor1_eq (a : Nat) : a ^^^ 1 = if a % 2 = 1 then a - 1 else a + 1 := by
  have h1 : (a ^^^ 1) / 2 = a / 2 := by
    have h := Nat.shiftRight_xor_distrib (a := a) (b := 1) (i := 1)
    simpa [Nat.shiftRight_succ] using h
  have h2 : ((a ^^^ 1) % 2 = 1) ↔ ¬ ((a % 2 = 1) ↔ (1 % 2 = 1)) := Nat.xor_mod_two_eq_one
  split <;> omega
theorem xor1 (a : Nat) : a ^^^ 1 ≤ a + 1 := by rw [xor1_eq]; split <;> omega
theorem nbAt_le (i k : Nat) : nbAt i k ≤ i + 2 ^ k := by
  unfold nbAt
  have h1 := Nat.mul_le_mul_right (2 ^ k) (xor1 (i / 2 ^ k))
  have h2 := Nat.div_mul_le_self i (2 ^ k)
  rw [Nat.succ_mul] at h1
  omega
theorem xor_i64 (a : Nat) (h : a < 9223372036854775806) : bits .xor .i64 (a : Int) 1 = ((a ^^^ 1 : Nat) : Int) := by
  show IntKind.i64.wrap (((BitVec.ofInt 64 (a : Int) ^^^ BitVec.ofInt 64 1).toNat : Nat) : Int) = _
  have e : (BitVec.ofInt 64 (a : Int) ^^^ BitVec.ofInt 64 1).toNat = a ^^^ 1 := by
    rw [BitVec.toNat_xor, BitVec.ofInt_natCast, BitVec.toNat_ofNat, Nat.mod_eq_of_lt (by omega)]
    rfl
  rw [e]
  have := xor1 a
  exact IntWalk.i64_in _ (by omega)
theorem levels_lt {size k : Nat} (h : 2 ^ k < size) : k < levels size := by
  unfold levels
  have hp := Nat.two_pow_pos k
  rw [if_neg (by omega)]
  have : k ≤ Nat.log2 (size - 1) := (Nat.le_log2 (by omega)).2 (by omega)
  omega
theorem levels_ge {size k : Nat} (h : ¬ 2 ^ k < size) : levels size ≤ k := by
  unfold levels
  split
  · omega
  · rename_i h1
    have : Nat.log2 (size - 1) < k := (Nat.log2_lt (by omega)).2 (by omega)
    omega
theorem levels_pow (size : Nat) : size ≤ 2 ^ levels size := by
  rcases Nat.lt_or_ge (2 ^ levels size) size with h | h
  · have := levels_lt h; omega
  · exact h
theorem nb_lvl {n i l : Nat} (hi : i < n) : (lvl n i l).length = if nbAt i l < n then 1 else 0 := by
  unfold lvl nbAt
  rw [xor1_eq]
  by_cases h1 : i / 2 ^ l % 2 = 1
  · rw [if_pos h1, if_pos h1, if_pos]
    · rfl
    · have h2 := Nat.div_mul_le_self i (2 ^ l)
      have h3 := Nat.mul_le_mul_right (2 ^ l) (Nat.sub_le (i / 2 ^ l) 1)
      omega
  · rw [if_neg h1, if_neg h1]
    split <;> rfl
end Go.Proofs.YtgldkfaiofkhbaaDoor.Levels

namespace Go.Proofs.YtgldkfaiofkhbaaDoor.WayRows
open Go.Proofs.YtgldkfaiofkhbaaDoor Go.Proofs.YtgldkfaiofkhbaaDoor.TreeMath Go.Proofs.YtgldkfaiofkhbaaDoor.Sides Go.Proofs.YtgldkfaiofkhbaaDoor.Levels

/-- The rows of leaves beside leaf i below a..b-1, the lowest first: told from the top. -/
def wayN : Nat → Nat → Nat → Nat → List (Nat × Nat)
  | 0, _, _, _ => []
  | f + 1, a, b, i => if b - a ≤ 1 then [] else if i < a + half (b - a) then wayN f a (a + half (b - a)) i ++ [(a + half (b - a), b)] else wayN f (a + half (b - a)) b i ++ [(a, a + half (b - a))]
def wayR (a b i : Nat) : List (Nat × Nat) := wayN (b - a) a b i
end Go.Proofs.YtgldkfaiofkhbaaDoor.WayRows

namespace Go.Proofs.YtgldkfaiofkhbaaDoor.WayX
open Go Go.RowKit Go.Proofs.YtgldkfaiofkhbaaDoor Go.Proofs.YtgldkfaiofkhbaaDoor.Digest Go.Proofs.YtgldkfaiofkhbaaDoor.Mem Go.Proofs.YtgldkfaiofkhbaaDoor.Sha Go.Proofs.YtgldkfaiofkhbaaDoor.ShaWalk Go.Proofs.YtgldkfaiofkhbaaDoor.Bytes Go.Proofs.YtgldkfaiofkhbaaDoor.HashMem Go.Proofs.YtgldkfaiofkhbaaDoor.DigestMem Go.Proofs.YtgldkfaiofkhbaaDoor.DigestTop Go.Proofs.YtgldkfaiofkhbaaDoor.RefTop Go.Proofs.YtgldkfaiofkhbaaDoor.QuietTail Go.Proofs.YtgldkfaiofkhbaaDoor.Grown Go.Proofs.YtgldkfaiofkhbaaDoor.Chain Go.Proofs.YtgldkfaiofkhbaaDoor.TreeMath Go.Proofs.YtgldkfaiofkhbaaDoor.TreeMem Go.Proofs.YtgldkfaiofkhbaaDoor.TreeRoot Go.Proofs.YtgldkfaiofkhbaaDoor.TreeFold Go.Proofs.YtgldkfaiofkhbaaDoor.Book Go.Proofs.YtgldkfaiofkhbaaDoor.Book2 Go.Proofs.YtgldkfaiofkhbaaDoor.Append Go.Proofs.YtgldkfaiofkhbaaDoor.TreeRefRoot Go.Proofs.YtgldkfaiofkhbaaDoor.Held Go.Proofs.YtgldkfaiofkhbaaDoor.Sides Go.Proofs.YtgldkfaiofkhbaaDoor.WayP Go.Proofs.YtgldkfaiofkhbaaDoor.RevP Go.Proofs.YtgldkfaiofkhbaaDoor.WayRows

/-- What stands at the head of a round of way's loop. -/
structure WayAtR (w : World) (B size i : Nat) (wr : World) (l : Value) (gp a b : Nat) (acc : List (Nat × Nat)) : Prop where
  blk : Blk wr gp 176 #[.int .i64 (a : Int), .int .i64 (b : Int)]
  own : wr.ownsRow B 176 2 l acc.length (flatP acc)
  below : Below B w wr
  lo : B ≤ gp
  apart : ∀ k, l.ownBlock = some k → k ≠ gp
  ai : a ≤ i
  ib : i < b
  bs : b ≤ size
  rows : wayR 0 size i = wayR a b i ++ acc.reverse
  few : acc.length + (b - a) ≤ size
theorem WayAtR.next {w wr w3 : World} {B size i gp a b f a' b' : Nat} {l v3 u : Value} {acc : List (Nat × Nat)} {q : Nat × Nat} (h : WayAtR w B size i wr l gp a b acc) (hb : Below B w w3) (ho : w3.ownsRow B 176 2 v3 (acc.length + 1) (flatP (acc ++ [q])))
    (hap : ∀ k, v3.ownBlock = some k → k ≠ gp) (hB : B ≤ w3.heap.size) (h1 : a' ≤ i) (h2 : i < b') (h3 : b' ≤ size) (h4 : wayR a b i = wayR a' b' i ++ [q]) (h5 : b' - a' + 1 ≤ b - a) :
    WayAtR w B size i ((w3.setCell ⟨gp, f, none⟩ u).alloc (.cells #[.int .i64 (a' : Int), .int .i64 (b' : Int)] 176)) v3 w3.heap.size a' b' (acc ++ [q]) := by
  have hs : (w3.setCell ⟨gp, f, none⟩ u).heap.size = w3.heap.size := by simp
  refine ⟨?_, ?_, ?_, hB, fun k e => ?_, h1, h2, h3, ?_, ?_⟩
  · have := Blk.new (w3.setCell ⟨gp, f, none⟩ u) 176 #[.int .i64 (a' : Int), .int .i64 (b' : Int)]
    rwa [hs] at this
  · rw [show (acc ++ [q]).length = acc.length + 1 by simp]
    refine World.ownsRow.alloc (World.ownsRow.kept ho (grown_set w3 gp f u) ?_) _
    cases e : v3.ownBlock with
    | none => exact .inl rfl
    | some k => exact .inr (fun e2 => hap k e (Option.some.inj e2))
  · exact (hb.setCell h.lo u).alloc (by rw [hs]; exact hB) _
  · have := (ho.lt k e).2
    omega
  · rw [h.rows, h4, List.reverse_append, List.append_assoc]
    rfl
  · have := h.few
    rw [List.length_append]
    simp only [List.length_cons, List.length_nil]
    omega
end Go.Proofs.YtgldkfaiofkhbaaDoor.WayX

namespace Go.Proofs.YtgldkfaiofkhbaaDoor.AskP
open Go Go.RowKit Go.Proofs.YtgldkfaiofkhbaaDoor Go.Proofs.YtgldkfaiofkhbaaDoor.Mem Go.Proofs.YtgldkfaiofkhbaaDoor.Sha Go.Proofs.YtgldkfaiofkhbaaDoor.Bytes Go.Proofs.YtgldkfaiofkhbaaDoor.DigestMem Go.Proofs.YtgldkfaiofkhbaaDoor.TreeMem Go.Proofs.YtgldkfaiofkhbaaDoor.TreeRoot Go.Proofs.YtgldkfaiofkhbaaDoor.TreeMath Go.Proofs.YtgldkfaiofkhbaaDoor.WayRows Go.Proofs.YtgldkfaiofkhbaaDoor.SpotsMath Go.Proofs.YtgldkfaiofkhbaaDoor.SpotsWalk

end Go.Proofs.YtgldkfaiofkhbaaDoor.AskP
