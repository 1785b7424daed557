/-
  Texts of the claim, put into one file: TreeRefRoot, TreeRoots, WayP, RevP, Way, Joint, Levels.
-/
import Derived.Test.YtmdkfhfkdcbpgaaDoorRZ8
import Derived.Test.YtmdkfhfkdcbpgaaDoorRZ9
import Derived.Test.YtmdkfhfkdcbpgaaDoorRZ23
import Derived.Test.YtmdkfhfkdcbpgaaDoorRZ30
import Derived.Test.YtmdkfhfkdcbpgaaDoorRZ0
import Derived.Outline

namespace Go.Proofs.YtmdkfhfkdcbpgaaDoorR.TreeRefRoot
open Go Go.RowKit Go.Proofs.YtmdkfhfkdcbpgaaDoorR Go.Proofs.YtmdkfhfkdcbpgaaDoorR.Digest Go.Proofs.YtmdkfhfkdcbpgaaDoorR.Mem Go.Proofs.YtmdkfhfkdcbpgaaDoorR.Sha Go.Proofs.YtmdkfhfkdcbpgaaDoorR.ShaWalk Go.Proofs.YtmdkfhfkdcbpgaaDoorR.Bytes Go.Proofs.YtmdkfhfkdcbpgaaDoorR.HashMem Go.Proofs.YtmdkfhfkdcbpgaaDoorR.DigestMem Go.Proofs.YtmdkfhfkdcbpgaaDoorR.DigestTop Go.Proofs.YtmdkfhfkdcbpgaaDoorR.RefTop Go.Proofs.YtmdkfhfkdcbpgaaDoorR.QuietTail Go.Proofs.YtmdkfhfkdcbpgaaDoorR.Grown Go.Proofs.YtmdkfhfkdcbpgaaDoorR.Chain Go.Proofs.YtmdkfhfkdcbpgaaDoorR.TreeMath Go.Proofs.YtmdkfhfkdcbpgaaDoorR.TreeMem Go.Proofs.YtmdkfhfkdcbpgaaDoorR.TreeRoot Go.Proofs.YtmdkfhfkdcbpgaaDoorR.Book Go.Proofs.YtmdkfhfkdcbpgaaDoorR.Book2 Go.Proofs.YtmdkfhfkdcbpgaaDoorR.Append Go.Proofs.YtmdkfhfkdcbpgaaDoorR.TreeFold Go.Proofs.YtmdkfhfkdcbpgaaDoorR.Held

theorem own_below {w w' : World} {base e size n : Nat} {v : Value} {xs : List Value} (h : w.ownsRow base e size v n xs) (hb : Below w.heap.size w w') : w'.ownsRow base e size v n xs := by
  refine ⟨h.1, h.2.imp id fun ⟨g, cap, cur, h1, h2, h3, h4⟩ => ⟨g, cap, cur, h1, h2, ?_, h4⟩⟩
  rw [hb.block g (Array.getElem?_eq_some_iff.1 h3).1, h3]
theorem zero31 : ((Tryd.prog.info? 23).bind (·.zero)).isSome = true := by kernel_rfl
theorem own_rd {w : World} {base n : Nat} {v : Value} {ds : List Text} (h : w.ownsRow base 23 32 v n (ds.flatMap cells8)) (hd : Digs ds) (hn : ds.length = n) (A : Option Addr) (c : Nat) (hv : v = .slice A n c) : RdD w A n ds := by
  obtain ⟨A', c', e, _, _, _, hr, _⟩ := Own.reads h
  rw [hv] at e
  injection e with e1 e2 e3
  subst e1
  exact ⟨hn, hd, hr⟩
end Go.Proofs.YtmdkfhfkdcbpgaaDoorR.TreeRefRoot

namespace Go.Proofs.YtmdkfhfkdcbpgaaDoorR.TreeRoots
open Go Go.RowKit Go.Proofs.YtmdkfhfkdcbpgaaDoorR Go.Proofs.YtmdkfhfkdcbpgaaDoorR.Digest Go.Proofs.YtmdkfhfkdcbpgaaDoorR.Mem Go.Proofs.YtmdkfhfkdcbpgaaDoorR.Sha Go.Proofs.YtmdkfhfkdcbpgaaDoorR.ShaWalk Go.Proofs.YtmdkfhfkdcbpgaaDoorR.Bytes Go.Proofs.YtmdkfhfkdcbpgaaDoorR.HashMem Go.Proofs.YtmdkfhfkdcbpgaaDoorR.DigestMem Go.Proofs.YtmdkfhfkdcbpgaaDoorR.DigestTop Go.Proofs.YtmdkfhfkdcbpgaaDoorR.RefTop Go.Proofs.YtmdkfhfkdcbpgaaDoorR.QuietTail Go.Proofs.YtmdkfhfkdcbpgaaDoorR.Grown Go.Proofs.YtmdkfhfkdcbpgaaDoorR.Chain Go.Proofs.YtmdkfhfkdcbpgaaDoorR.TreeMath Go.Proofs.YtmdkfhfkdcbpgaaDoorR.TreeMem Go.Proofs.YtmdkfhfkdcbpgaaDoorR.TreeRoot Go.Proofs.YtmdkfhfkdcbpgaaDoorR.TreeFold Go.Proofs.YtmdkfhfkdcbpgaaDoorR.Book Go.Proofs.YtmdkfhfkdcbpgaaDoorR.Book2 Go.Proofs.YtmdkfhfkdcbpgaaDoorR.TreeRefRoot

def mk0 : Text := [165, 90, 165] ++ List.replicate 29 0
theorem mk0_len : mk0.length = 32 := rfl
end Go.Proofs.YtmdkfhfkdcbpgaaDoorR.TreeRoots

namespace Go.Proofs.YtmdkfhfkdcbpgaaDoorR.WayP
open Go Go.RowKit Go.Proofs.YtmdkfhfkdcbpgaaDoorR Go.Proofs.YtmdkfhfkdcbpgaaDoorR.Digest Go.Proofs.YtmdkfhfkdcbpgaaDoorR.Mem Go.Proofs.YtmdkfhfkdcbpgaaDoorR.Sha Go.Proofs.YtmdkfhfkdcbpgaaDoorR.ShaWalk Go.Proofs.YtmdkfhfkdcbpgaaDoorR.Bytes Go.Proofs.YtmdkfhfkdcbpgaaDoorR.HashMem Go.Proofs.YtmdkfhfkdcbpgaaDoorR.DigestMem Go.Proofs.YtmdkfhfkdcbpgaaDoorR.DigestTop Go.Proofs.YtmdkfhfkdcbpgaaDoorR.RefTop Go.Proofs.YtmdkfhfkdcbpgaaDoorR.QuietTail Go.Proofs.YtmdkfhfkdcbpgaaDoorR.Grown Go.Proofs.YtmdkfhfkdcbpgaaDoorR.Chain Go.Proofs.YtmdkfhfkdcbpgaaDoorR.TreeMath Go.Proofs.YtmdkfhfkdcbpgaaDoorR.TreeMem Go.Proofs.YtmdkfhfkdcbpgaaDoorR.TreeRoot Go.Proofs.YtmdkfhfkdcbpgaaDoorR.TreeFold Go.Proofs.YtmdkfhfkdcbpgaaDoorR.Book Go.Proofs.YtmdkfhfkdcbpgaaDoorR.Book2 Go.Proofs.YtmdkfhfkdcbpgaaDoorR.Append Go.Proofs.YtmdkfhfkdcbpgaaDoorR.TreeRefRoot Go.Proofs.YtmdkfhfkdcbpgaaDoorR.Held Go.Proofs.YtmdkfhfkdcbpgaaDoorR.Sides

/-- Parts as cells. -/
def pcells (p : Nat × Nat) : List Value := [.int .i64 (p.1 : Int), .int .i64 (p.2 : Int)]
def flatP (l : List (Nat × Nat)) : List Value := l.flatMap pcells
/-- To the right of i? -/
def sd (i : Nat) (p : Nat × Nat) : Bool := decide (i < p.1)

/-- What stands at the head of a round of way's loop. -/
structure WayAt (w : World) (B size i : Nat) (wr : World) (l : Value) (gp a b : Nat) (acc : List (Nat × Nat)) : Prop where
  blk : Blk wr gp 182 #[.int .i64 (a : Int), .int .i64 (b : Int)]
  own : wr.ownsRow B 182 2 l acc.length (flatP acc)
  below : Below B w wr
  lo : B ≤ gp
  apart : ∀ k, l.ownBlock = some k → k ≠ gp
  ai : a ≤ i
  ib : i < b
  bs : b ≤ size
  sides : sides size i = Sides.sides (b - a) (i - a) ++ (acc.map (sd i)).reverse
  few : acc.length + (b - a) ≤ size
theorem grown_set (w : World) (g f : Nat) (u : Value) : w.grownBy (w.setCell ⟨g, f, none⟩ u) (some g) := ⟨rfl, rfl, rfl, by simp, fun k _ hk => heap_setCell_other w ⟨g, f, none⟩ k u (fun e => hk (by simp [e]))⟩
theorem WayAt.next {w wr w3 : World} {B size i gp a b f a' b' : Nat} {l v3 u : Value} {acc : List (Nat × Nat)} {q : Nat × Nat} (h : WayAt w B size i wr l gp a b acc) (hb : Below B w w3) (ho : w3.ownsRow B 182 2 v3 (acc.length + 1) (flatP (acc ++ [q])))
    (hap : ∀ k, v3.ownBlock = some k → k ≠ gp) (hB : B ≤ w3.heap.size) (h1 : a' ≤ i) (h2 : i < b') (h3 : b' ≤ size) (h4 : Sides.sides (b - a) (i - a) = Sides.sides (b' - a') (i - a') ++ [sd i q]) (h5 : b' - a' + 1 ≤ b - a) :
    WayAt w B size i ((w3.setCell ⟨gp, f, none⟩ u).alloc (.cells #[.int .i64 (a' : Int), .int .i64 (b' : Int)] 182)) v3 w3.heap.size a' b' (acc ++ [q]) := by
  have hs : (w3.setCell ⟨gp, f, none⟩ u).heap.size = w3.heap.size := by simp
  refine ⟨?_, ?_, ?_, hB, fun k e => ?_, h1, h2, h3, ?_, ?_⟩
  · have := Blk.new (w3.setCell ⟨gp, f, none⟩ u) 182 #[.int .i64 (a' : Int), .int .i64 (b' : Int)]
    rwa [hs] at this
  · rw [show (acc ++ [q]).length = acc.length + 1 by simp]
    refine World.ownsRow.alloc (World.ownsRow.kept ho (grown_set w3 gp f u) ?_) _
    cases e : v3.ownBlock with
    | none => exact .inl rfl
    | some k => exact .inr (fun e2 => hap k e (Option.some.inj e2))
  · exact (hb.setCell h.lo u).alloc (by rw [hs]; exact hB) _
  · have := (ho.lt k e).2
    omega
  · rw [h.sides, h4, List.map_append, List.reverse_append, List.append_assoc]
    rfl
  · have := h.few
    rw [List.length_append]
    simp only [List.length_cons, List.length_nil]
    omega
end Go.Proofs.YtmdkfhfkdcbpgaaDoorR.WayP

namespace Go.Proofs.YtmdkfhfkdcbpgaaDoorR.RevP
open Go Go.RowKit Go.Proofs.YtmdkfhfkdcbpgaaDoorR Go.Proofs.YtmdkfhfkdcbpgaaDoorR.Digest Go.Proofs.YtmdkfhfkdcbpgaaDoorR.Mem Go.Proofs.YtmdkfhfkdcbpgaaDoorR.Sha Go.Proofs.YtmdkfhfkdcbpgaaDoorR.ShaWalk Go.Proofs.YtmdkfhfkdcbpgaaDoorR.Bytes Go.Proofs.YtmdkfhfkdcbpgaaDoorR.HashMem Go.Proofs.YtmdkfhfkdcbpgaaDoorR.DigestMem Go.Proofs.YtmdkfhfkdcbpgaaDoorR.DigestTop Go.Proofs.YtmdkfhfkdcbpgaaDoorR.RefTop Go.Proofs.YtmdkfhfkdcbpgaaDoorR.QuietTail Go.Proofs.YtmdkfhfkdcbpgaaDoorR.Grown Go.Proofs.YtmdkfhfkdcbpgaaDoorR.Chain Go.Proofs.YtmdkfhfkdcbpgaaDoorR.TreeMath Go.Proofs.YtmdkfhfkdcbpgaaDoorR.TreeMem Go.Proofs.YtmdkfhfkdcbpgaaDoorR.TreeRoot Go.Proofs.YtmdkfhfkdcbpgaaDoorR.TreeFold Go.Proofs.YtmdkfhfkdcbpgaaDoorR.Book Go.Proofs.YtmdkfhfkdcbpgaaDoorR.Book2 Go.Proofs.YtmdkfhfkdcbpgaaDoorR.Append Go.Proofs.YtmdkfhfkdcbpgaaDoorR.TreeRefRoot Go.Proofs.YtmdkfhfkdcbpgaaDoorR.Held Go.Proofs.YtmdkfhfkdcbpgaaDoorR.Sides Go.Proofs.YtmdkfhfkdcbpgaaDoorR.WayP

end Go.Proofs.YtmdkfhfkdcbpgaaDoorR.RevP

namespace Go.Proofs.YtmdkfhfkdcbpgaaDoorR.Way
open Go Go.RowKit Go.Proofs.YtmdkfhfkdcbpgaaDoorR Go.Proofs.YtmdkfhfkdcbpgaaDoorR.Digest Go.Proofs.YtmdkfhfkdcbpgaaDoorR.Mem Go.Proofs.YtmdkfhfkdcbpgaaDoorR.Sha Go.Proofs.YtmdkfhfkdcbpgaaDoorR.ShaWalk Go.Proofs.YtmdkfhfkdcbpgaaDoorR.Bytes Go.Proofs.YtmdkfhfkdcbpgaaDoorR.HashMem Go.Proofs.YtmdkfhfkdcbpgaaDoorR.DigestMem Go.Proofs.YtmdkfhfkdcbpgaaDoorR.DigestTop Go.Proofs.YtmdkfhfkdcbpgaaDoorR.RefTop Go.Proofs.YtmdkfhfkdcbpgaaDoorR.QuietTail Go.Proofs.YtmdkfhfkdcbpgaaDoorR.Grown Go.Proofs.YtmdkfhfkdcbpgaaDoorR.Chain Go.Proofs.YtmdkfhfkdcbpgaaDoorR.TreeMath Go.Proofs.YtmdkfhfkdcbpgaaDoorR.TreeMem Go.Proofs.YtmdkfhfkdcbpgaaDoorR.TreeRoot Go.Proofs.YtmdkfhfkdcbpgaaDoorR.TreeFold Go.Proofs.YtmdkfhfkdcbpgaaDoorR.Book Go.Proofs.YtmdkfhfkdcbpgaaDoorR.Book2 Go.Proofs.YtmdkfhfkdcbpgaaDoorR.Append Go.Proofs.YtmdkfhfkdcbpgaaDoorR.TreeRefRoot Go.Proofs.YtmdkfhfkdcbpgaaDoorR.Held Go.Proofs.YtmdkfhfkdcbpgaaDoorR.Sides Go.Proofs.YtmdkfhfkdcbpgaaDoorR.WayP Go.Proofs.YtmdkfhfkdcbpgaaDoorR.RevP

end Go.Proofs.YtmdkfhfkdcbpgaaDoorR.Way

namespace Go.Proofs.YtmdkfhfkdcbpgaaDoorR.Joint
open Go Go.RowKit Go.Proofs.YtmdkfhfkdcbpgaaDoorR Go.Proofs.YtmdkfhfkdcbpgaaDoorR.Mem Go.Proofs.YtmdkfhfkdcbpgaaDoorR.Sha Go.Proofs.YtmdkfhfkdcbpgaaDoorR.Bytes Go.Proofs.YtmdkfhfkdcbpgaaDoorR.Append Go.Proofs.YtmdkfhfkdcbpgaaDoorR.QuietTail Go.Proofs.YtmdkfhfkdcbpgaaDoorR.Grown Go.Proofs.YtmdkfhfkdcbpgaaDoorR.TreeMath Go.Proofs.YtmdkfhfkdcbpgaaDoorR.TreeMem Go.Proofs.YtmdkfhfkdcbpgaaDoorR.Held Go.Proofs.YtmdkfhfkdcbpgaaDoorR.Book Go.Proofs.YtmdkfhfkdcbpgaaDoorR.TreeRefRoot Go.Proofs.YtmdkfhfkdcbpgaaDoorR.Subs Go.Proofs.YtmdkfhfkdcbpgaaDoorR.RowsP Go.Proofs.YtmdkfhfkdcbpgaaDoorR.WayP

end Go.Proofs.YtmdkfhfkdcbpgaaDoorR.Joint

namespace Go.Proofs.YtmdkfhfkdcbpgaaDoorR.Levels
open Go Go.RowKit Go.Proofs.YtmdkfhfkdcbpgaaDoorR Go.Proofs.YtmdkfhfkdcbpgaaDoorR.Mem Go.Proofs.YtmdkfhfkdcbpgaaDoorR.Sha Go.Proofs.YtmdkfhfkdcbpgaaDoorR.Bytes Go.Proofs.YtmdkfhfkdcbpgaaDoorR.Sides Go.Proofs.YtmdkfhfkdcbpgaaDoorR.RefSides

/-- The neighbour's first leaf at level l. -/
def nbAt (i l : Nat) : Nat := (i / 2 ^ l ^^^ 1) * 2 ^ l
/-- How many levels a tree of that size has. -/
def levels (size : Nat) : Nat := if size ≤ 1 then 0 else Nat.log2 (size - 1) + 1
end Go.Proofs.YtmdkfhfkdcbpgaaDoorR.Levels
