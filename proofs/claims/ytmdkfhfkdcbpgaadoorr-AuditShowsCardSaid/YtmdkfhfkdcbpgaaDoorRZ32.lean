/-
  Texts of the claim, put into one file: Node, NodeW, Climb, Incl, Texts, AheadM, TwiceP, InclAny, RefIncl0, AheadT, RowsT, RowsY.
-/
import Derived.Test.YtmdkfhfkdcbpgaaDoorRZ31
import Derived.Test.YtmdkfhfkdcbpgaaDoorRZ21
import Derived.Test.YtmdkfhfkdcbpgaaDoorRZ6
import Derived.Test.YtmdkfhfkdcbpgaaDoorRZ9

namespace Go.Proofs.YtmdkfhfkdcbpgaaDoorR.Node
open Go Go.RowKit Go.Proofs.YtmdkfhfkdcbpgaaDoorR Go.Proofs.YtmdkfhfkdcbpgaaDoorR.Digest Go.Proofs.YtmdkfhfkdcbpgaaDoorR.Mem Go.Proofs.YtmdkfhfkdcbpgaaDoorR.Sha Go.Proofs.YtmdkfhfkdcbpgaaDoorR.ShaWalk Go.Proofs.YtmdkfhfkdcbpgaaDoorR.Bytes Go.Proofs.YtmdkfhfkdcbpgaaDoorR.HashMem Go.Proofs.YtmdkfhfkdcbpgaaDoorR.DigestMem Go.Proofs.YtmdkfhfkdcbpgaaDoorR.DigestTop Go.Proofs.YtmdkfhfkdcbpgaaDoorR.RefTop Go.Proofs.YtmdkfhfkdcbpgaaDoorR.QuietTail Go.Proofs.YtmdkfhfkdcbpgaaDoorR.Grown Go.Proofs.YtmdkfhfkdcbpgaaDoorR.Chain Go.Proofs.YtmdkfhfkdcbpgaaDoorR.TreeMath Go.Proofs.YtmdkfhfkdcbpgaaDoorR.TreeMem Go.Proofs.YtmdkfhfkdcbpgaaDoorR.TreeRoot Go.Proofs.YtmdkfhfkdcbpgaaDoorR.Append Go.Proofs.YtmdkfhfkdcbpgaaDoorR.TreeRefRoot Go.Proofs.YtmdkfhfkdcbpgaaDoorR.Held Go.Proofs.YtmdkfhfkdcbpgaaDoorR.DigestText

/-- Texts in a row of the climber's own: each reads, none lies in the row's own block or in the climber's. -/
def Txs (M : Nat → Prop) (w : World) (gc : Nat) (r : Option Nat) (xs : List Value) (ts : List Text) : Prop :=
  ∀ (i : Nat) (q : Text), ts[i]? = some q → ∃ g c, xs[i]? = some (.slice (some ⟨g, 0, none⟩) q.length c) ∧ q.length ≤ c ∧ Reads w 1 (some ⟨g, 0, none⟩) q.length (cells8 q) ∧ g < w.heap.size ∧ g ≠ gc ∧ some g ≠ r ∧ ¬ M g
/-- A climber at block gc that has summed the texts ts; its row of texts (if there is one) is block r, above gc. -/
def ClAtM (M : Nat → Prop) (w : World) (gc : Nat) (r : Option Nat) (s : Int) (ts : List Text) : Prop :=
  ∃ v xs, Blk w gc 255 #[.int .i64 s, v] ∧ w.ownsRow 0 27 1 v ts.length xs ∧ v.ownBlock = r ∧ (∀ k, r = some k → gc < k ∧ k < w.heap.size) ∧ Txs M w gc r xs ts
def ClAt (w : World) (gc : Nat) (r : Option Nat) (s : Int) (ts : List Text) : Prop := ClAtM (fun _ => False) w gc r s ts
theorem ClAtM.kept {M : Nat → Prop} {w w' : World} {gc : Nat} {r : Option Nat} {s : Int} {ts : List Text} (h : ClAtM M w gc r s ts) (hk : Kept M w w') (hgc : ¬ M gc) (hr : ∀ k, r = some k → ¬ M k) : ClAt w' gc r s ts := by
  obtain ⟨v, xs, hB, ho, hv, hr1, hx⟩ := h
  refine ⟨v, xs, hB.kept hk hgc, ⟨ho.1, ?_⟩, hv, fun k e => ⟨(hr1 k e).1, Nat.lt_of_lt_of_le (hr1 k e).2 hk.size⟩, fun i q hq => ?_⟩
  · rcases ho.2 with h | ⟨g', cap, cur, rfl, h1, h2, h3⟩
    · exact .inl h
    · refine .inr ⟨g', cap, cur, rfl, h1, ?_, h3⟩
      have e : r = some g' := by rw [← hv]; rfl
      rw [hk.block g' (hr1 g' e).2 (hr g' e), h2]
  · obtain ⟨g, c, a1, a2, a3, a4, a5, a6, a7⟩ := hx i q hq
    refine ⟨g, c, a1, a2, a3.kept hk (fun b o e hm => ?_), Nat.lt_of_lt_of_le a4 hk.size, a5, a6, fun h => h⟩
    injection e with e
    injection e with e1 e2
    exact a7 (e1 ▸ hm)
def Clmb (w : World) (gc : Nat) (r : Option Nat) (s : Int) (ts : List Text) (w' : World) : Prop :=
  ∃ r', ClAt w' gc r' s ts ∧ Kept (fun k => k = gc ∨ some k = r) w w' ∧ (r' = r ∨ ∃ k, r' = some k ∧ w.heap.size ≤ k)
theorem infoT : (Tryd.prog.info? 27).map (fun i => (i.zero, i.size, i.bytes)) = some (some (.slice none 0 0), 1, 24) := by kernel_rfl

structure NodeW (w W : World) (l r : Text) : Prop where
  size : W.heap.size = w.heap.size + 4
  below : Below w.heap.size w W
  res : Blk W (w.heap.size + 2) 23 Z32
  pieces : Pieces W (some ⟨w.heap.size + 3, 0, none⟩) [l, r]
  lt : AllLt W W.heap.size (some ⟨w.heap.size + 3, 0, none⟩) [l, r]
/-- What a node leaves of a climber. -/
theorem Clmb.step {w w3 w4 : World} {gc gt ct : Nat} {r : Option Nat} {s : Int} {ts : List Text} {q : Text} {v v1 : Value} {xs : List Value} (hx : Txs (fun _ => False) w gc r xs ts) (hr : ∀ k, r = some k → gc < k ∧ k < w.heap.size) (hgc : gc < w.heap.size)
    (hb : Below w.heap.size w w3) (hB : Blk w3 gc 255 #[.int .i64 s, v]) (hv : v.ownBlock = r) (hq : Reads w3 1 (some ⟨gt, 0, none⟩) q.length (cells8 q)) (hgt : w.heap.size ≤ gt ∧ gt < w3.heap.size) (hct : q.length ≤ ct)
    (hG : Grew (w3.alloc (.cells #[.slice (some ⟨gt, 0, none⟩) q.length ct] 27)) 0 27 1 v ts.length 1 xs [.slice (some ⟨gt, 0, none⟩) q.length ct] v1 w4) (hxl : xs.length = ts.length) :
    ∃ r', ClAtM (fun k => w.heap.size ≤ k ∧ k < gt) (w4.setCell ⟨gc, 1, none⟩ v1) gc r' s (ts ++ [q]) ∧ Kept (fun k => k = gc ∨ some k = r) w (w4.setCell ⟨gc, 1, none⟩ v1) ∧ (r' = r ∨ ∃ k, r' = some k ∧ w3.heap.size < k) := by
  have hrow : ∀ k, r = some k → k < w3.heap.size := fun k e => by have := (hr k e).2; have := hb.size; omega
  have hz : (w3.alloc (.cells #[.slice (some ⟨gt, 0, none⟩) q.length ct] 27)).heap.size = w3.heap.size + 1 := by simp
  have hg4 : gc < w3.heap.size := hB.lt
  have hk4 : ∀ k, k < w3.heap.size → some k ≠ r → w4.heap[k]? = w3.heap[k]? := fun k hk hne => (hG.grow.block k (by rw [hz]; omega) (by rw [hv]; exact hne)).trans (Below.heap_alloc _ _ _ hk)
  have hs4 : w3.heap.size + 1 ≤ w4.heap.size := by have := hG.grow.size; rw [hz] at this; exact this
  have hgcr : some gc ≠ r := fun e => by have := (hr gc e.symm).1; omega
  have hr4 : v1.ownBlock = r ∨ v1.ownBlock = some (w3.heap.size + 1) := by
    rcases hG.at_ with h | h
    · exact .inl (h.trans hv)
    · exact .inr (by rw [h, hz])
  have hlt4 : ∀ k, v1.ownBlock = some k → gc < k ∧ k < w4.heap.size := fun k e => by
    have h2 := (hG.own.lt k e).2
    rcases hr4 with h | h
    · exact ⟨(hr k (by rw [← h, e])).1, h2⟩
    · rw [h] at e; have := Option.some.inj e; exact ⟨by omega, h2⟩
  have hown1 : ∀ k, k < w3.heap.size → some k ≠ r → some k ≠ v1.ownBlock := fun k hk hne e => by
    rcases hr4 with h | h
    · exact hne (e.trans h)
    · rw [h] at e; have := Option.some.inj e; omega
  have hB4 : Blk w4 gc 255 #[.int .i64 s, v] := (hk4 gc hg4 hgcr).trans hB
  have hread : ∀ (g : Nat) (p : Text), g < w3.heap.size → some g ≠ r → g ≠ gc → Reads w3 1 (some ⟨g, 0, none⟩) p.length (cells8 p) → Reads (w4.setCell ⟨gc, 1, none⟩ v1) 1 (some ⟨g, 0, none⟩) p.length (cells8 p) := fun g p h1 h2 h3 h => by
    refine (h.keep (w' := w4) (by omega) fun b o e hb => ?_).setCell (fun b o e => ?_) v1
    · injection e with e
      injection e with e1 e2
      subst e1
      exact hk4 _ hb h2
    · injection e with e
      injection e with e1 e2
      subst e1
      exact h3
  refine ⟨v1.ownBlock, ⟨v1, xs ++ [.slice (some ⟨gt, 0, none⟩) q.length ct], hB4.set_ 1 v1, ?_, rfl, fun k e => ?_, fun i p hp => ?_⟩, ?_, ?_⟩
  · rw [List.length_append]
    refine World.ownsRow.kept hG.own (WayP.grown_set w4 gc 1 v1) ?_
    cases e : v1.ownBlock with
    | none => exact .inl rfl
    | some k => exact .inr (fun e2 => by have := (hlt4 k e).1; have := Option.some.inj e2; omega)
  · have := hlt4 k e
    simp
    exact this
  · rcases Nat.lt_or_ge i ts.length with hi | hi
    · rw [List.getElem?_append_left hi] at hp
      obtain ⟨g, c, a1, a2, a3, a4, a5, a6, -⟩ := hx i p hp
      have hg3 : g < w3.heap.size := by have := hb.size; omega
      exact ⟨g, c, by rw [List.getElem?_append_left (by omega)]; exact a1, a2, hread g p hg3 a6 a5 (a3.below hb), by simp; omega, a5, hown1 g hg3 a6, fun h => by omega⟩
    · rw [List.getElem?_append_right hi] at hp
      have hi0 : i = ts.length := by
        have := (List.getElem?_eq_some_iff.1 hp).1
        simp at this
        omega
      subst hi0
      rw [Nat.sub_self] at hp
      obtain rfl := Option.some.inj hp
      have hgr : some gt ≠ r := fun e => by have := (hr gt e.symm).2; omega
      exact ⟨gt, ct, by rw [List.getElem?_append_right (by omega), hxl, Nat.sub_self]; rfl, hct, hread gt q hgt.2 hgr (by omega) hq, by simp; omega, by omega, hown1 gt hgt.2 hgr, fun h => by omega⟩
  · refine ⟨hG.grow.os.trans hb.os, hG.grow.tape.trans hb.tape, hG.grow.output.trans hb.output, by have := hb.size; simp; omega, fun k hk hne => ?_⟩
    have hkr : some k ≠ r := fun e => hne (.inr e)
    have hkg : k ≠ gc := fun e => hne (.inl e)
    exact ((Below.heap_setCell w4 ⟨gc, 1, none⟩ v1 k hkg).trans (hk4 k (by have := hb.size; omega) hkr)).trans (hb.block k hk)
  · rcases hr4 with h | h
    · exact .inl h
    · exact .inr ⟨_, h, by omega⟩
end Go.Proofs.YtmdkfhfkdcbpgaaDoorR.Node

namespace Go.Proofs.YtmdkfhfkdcbpgaaDoorR.NodeW
open Go Go.RowKit Go.Proofs.YtmdkfhfkdcbpgaaDoorR Go.Proofs.YtmdkfhfkdcbpgaaDoorR.Digest Go.Proofs.YtmdkfhfkdcbpgaaDoorR.Mem Go.Proofs.YtmdkfhfkdcbpgaaDoorR.Sha Go.Proofs.YtmdkfhfkdcbpgaaDoorR.ShaWalk Go.Proofs.YtmdkfhfkdcbpgaaDoorR.Bytes Go.Proofs.YtmdkfhfkdcbpgaaDoorR.HashMem Go.Proofs.YtmdkfhfkdcbpgaaDoorR.DigestMem Go.Proofs.YtmdkfhfkdcbpgaaDoorR.DigestTop Go.Proofs.YtmdkfhfkdcbpgaaDoorR.RefTop Go.Proofs.YtmdkfhfkdcbpgaaDoorR.QuietTail Go.Proofs.YtmdkfhfkdcbpgaaDoorR.Grown Go.Proofs.YtmdkfhfkdcbpgaaDoorR.Chain Go.Proofs.YtmdkfhfkdcbpgaaDoorR.TreeMath Go.Proofs.YtmdkfhfkdcbpgaaDoorR.TreeMem Go.Proofs.YtmdkfhfkdcbpgaaDoorR.TreeRoot Go.Proofs.YtmdkfhfkdcbpgaaDoorR.Append Go.Proofs.YtmdkfhfkdcbpgaaDoorR.Book Go.Proofs.YtmdkfhfkdcbpgaaDoorR.TreeRefRoot Go.Proofs.YtmdkfhfkdcbpgaaDoorR.Held Go.Proofs.YtmdkfhfkdcbpgaaDoorR.DigestText Go.Proofs.YtmdkfhfkdcbpgaaDoorR.Node

end Go.Proofs.YtmdkfhfkdcbpgaaDoorR.NodeW

namespace Go.Proofs.YtmdkfhfkdcbpgaaDoorR.Climb
open Go Go.RowKit Go.Proofs.YtmdkfhfkdcbpgaaDoorR Go.Proofs.YtmdkfhfkdcbpgaaDoorR.Digest Go.Proofs.YtmdkfhfkdcbpgaaDoorR.Mem Go.Proofs.YtmdkfhfkdcbpgaaDoorR.Sha Go.Proofs.YtmdkfhfkdcbpgaaDoorR.Bytes Go.Proofs.YtmdkfhfkdcbpgaaDoorR.HashMem Go.Proofs.YtmdkfhfkdcbpgaaDoorR.DigestMem Go.Proofs.YtmdkfhfkdcbpgaaDoorR.DigestTop Go.Proofs.YtmdkfhfkdcbpgaaDoorR.RefTop Go.Proofs.YtmdkfhfkdcbpgaaDoorR.TreeMath Go.Proofs.YtmdkfhfkdcbpgaaDoorR.TreeMem Go.Proofs.YtmdkfhfkdcbpgaaDoorR.TreeRoot Go.Proofs.YtmdkfhfkdcbpgaaDoorR.TreeRefRoot Go.Proofs.YtmdkfhfkdcbpgaaDoorR.Node Go.Proofs.YtmdkfhfkdcbpgaaDoorR.Sides Go.Proofs.YtmdkfhfkdcbpgaaDoorR.Way Go.Proofs.YtmdkfhfkdcbpgaaDoorR.WayP

/-- Long texts do not lie in a short block. -/
theorem ClAt.off {w : World} {gc b : Nat} {r : Option Nat} {s : Int} {ts : List Text} {T : TypeId} {cs : Array Value} (h : ClAt w gc r s ts) (hB : Blk w b T cs) (hl : ∀ q ∈ ts, cs.size < q.length) : ClAtM (· = b) w gc r s ts := by
  obtain ⟨v, xs, a1, a2, a3, a4, hx⟩ := h
  refine ⟨v, xs, a1, a2, a3, a4, fun i q hq => ?_⟩
  obtain ⟨g, c, b1, b2, b3, b4, b5, b6, -⟩ := hx i q hq
  refine ⟨g, c, b1, b2, b3, b4, b5, b6, fun e => ?_⟩
  subst e
  have hlen := hl q (List.mem_of_getElem? hq)
  obtain ⟨b', o, e1, -, e2⟩ := b3.at_ (by omega)
  injection e1 with e1
  injection e1 with e3 e4
  subst e3 e4
  have h1 : (cells8 q)[cs.size]? = some ((cells8 q)[cs.size]'(by simpa [cells8] using hlen)) := List.getElem?_eq_getElem _
  have h2 := e2 _ _ h1
  rw [hB.cell] at h2
  simp at h2
end Go.Proofs.YtmdkfhfkdcbpgaaDoorR.Climb

namespace Go.Proofs.YtmdkfhfkdcbpgaaDoorR.Incl
open Go Go.RowKit Go.Proofs.YtmdkfhfkdcbpgaaDoorR Go.Proofs.YtmdkfhfkdcbpgaaDoorR.Digest Go.Proofs.YtmdkfhfkdcbpgaaDoorR.Mem Go.Proofs.YtmdkfhfkdcbpgaaDoorR.Sha Go.Proofs.YtmdkfhfkdcbpgaaDoorR.ShaWalk Go.Proofs.YtmdkfhfkdcbpgaaDoorR.Bytes Go.Proofs.YtmdkfhfkdcbpgaaDoorR.HashMem Go.Proofs.YtmdkfhfkdcbpgaaDoorR.DigestMem Go.Proofs.YtmdkfhfkdcbpgaaDoorR.DigestTop Go.Proofs.YtmdkfhfkdcbpgaaDoorR.RefTop Go.Proofs.YtmdkfhfkdcbpgaaDoorR.QuietTail Go.Proofs.YtmdkfhfkdcbpgaaDoorR.Grown Go.Proofs.YtmdkfhfkdcbpgaaDoorR.Chain Go.Proofs.YtmdkfhfkdcbpgaaDoorR.TreeMath Go.Proofs.YtmdkfhfkdcbpgaaDoorR.TreeMem Go.Proofs.YtmdkfhfkdcbpgaaDoorR.TreeRoot Go.Proofs.YtmdkfhfkdcbpgaaDoorR.Append Go.Proofs.YtmdkfhfkdcbpgaaDoorR.Book Go.Proofs.YtmdkfhfkdcbpgaaDoorR.TreeRefRoot Go.Proofs.YtmdkfhfkdcbpgaaDoorR.Held Go.Proofs.YtmdkfhfkdcbpgaaDoorR.DigestText Go.Proofs.YtmdkfhfkdcbpgaaDoorR.Node Go.Proofs.YtmdkfhfkdcbpgaaDoorR.NodeW Go.Proofs.YtmdkfhfkdcbpgaaDoorR.Sides Go.Proofs.YtmdkfhfkdcbpgaaDoorR.Way Go.Proofs.YtmdkfhfkdcbpgaaDoorR.WayP Go.Proofs.YtmdkfhfkdcbpgaaDoorR.RevP Go.Proofs.YtmdkfhfkdcbpgaaDoorR.Climb

/-- What stands at the head of a round of include's loop: its leaf's block, the climber, and what is kept since the loop began. -/
structure IncAt (w1 wr : World) (gc : Nat) (r : Option Nat) (b8 : Nat) (s : Int) (st : Text × List Text) : Prop where
  leaf : Blk wr b8 23 (cells8 st.1).toArray
  cl : ∃ rj, ClAt wr gc rj s st.2 ∧ (rj = r ∨ ∃ k, rj = some k ∧ w1.heap.size ≤ k)
  kept : Kept (fun k => k = gc ∨ some k = r ∨ k = b8) w1 wr
theorem IncAt.step {w1 wr w4 w5 : World} {gc b8 : Nat} {r rj : Option Nat} {s : Int} {st st' : Text × List Text} (h : IncAt w1 wr gc r b8 s st) (hrj : rj = r ∨ ∃ k, rj = some k ∧ w1.heap.size ≤ k) (hb : Below wr.heap.size wr w4) (hC : Clmb w4 gc rj s st'.2 w5)
    (hl : ∀ q ∈ st'.2, q.length = 65) (h1 : st.1.length = 32) (hgc : gc < b8) (hr : ∀ k, r = some k → k < b8) (hb8 : b8 < w1.heap.size) : Blk w5 b8 23 (cells8 st.1).toArray ∧ IncAt w1 (w5.setRow b8 (cells8 st'.1).toArray) gc r b8 s st' := by
  obtain ⟨r', hC1, hK, hr'⟩ := hC
  have hs1 := h.kept.size
  have hs4 := hb.size
  have hrj8 : some b8 ≠ rj := fun e => by
    rcases hrj with h | ⟨k, h, hk⟩
    · exact absurd (hr b8 (by rw [← h, e])) (by omega)
    · rw [h] at e; have := Option.some.inj e; omega
  have hB4 : Blk w4 b8 23 (cells8 st.1).toArray := (hb.block b8 h.leaf.lt).trans h.leaf
  have hB5 : Blk w5 b8 23 (cells8 st.1).toArray := hB4.kept hK (fun h => by rcases h with h | h; omega; exact hrj8 h)
  have hr8 : ∀ k, r' = some k → ¬ k = b8 := fun k e h => by
    subst h
    rcases hr' with h | ⟨k', h, hk⟩
    · exact hrj8 (by rw [← h, e])
    · rw [h] at e; have := Option.some.inj e; omega
  refine ⟨hB5, setRow_heap _ _ _ _ _ _ hB5, ⟨r', (ClAt.off hC1 hB5 (fun q hq => by rw [hl q hq]; simp [cells8_len, h1])).kept (Bytes.Kept.setRow (S := fun i => i = b8) (Kept.refl _ _) rfl _) (by omega) hr8, ?_⟩, ?_⟩
  · rcases hr' with h | ⟨k', h, hk⟩
    · rw [h]; exact hrj
    · exact .inr ⟨k', h, by omega⟩
  · refine Bytes.Kept.setRow (S := fun k => k = gc ∨ some k = r ∨ k = b8) ((h.kept.trans (T := fun _ => False) (Kept.of_below hb) (fun _ _ h => h.elim)).trans hK (fun i hi h => ?_)) (.inr (.inr rfl)) _
    rcases h with h | h
    · exact .inl h
    · rcases hrj with h2 | ⟨k, h2, hk⟩
      · exact .inr (.inl (by rw [h, h2]))
      · rw [h2] at h; have := Option.some.inj h; omega

end Go.Proofs.YtmdkfhfkdcbpgaaDoorR.Incl

namespace Go.Proofs.YtmdkfhfkdcbpgaaDoorR.Texts
open Go Go.RowKit Go.Proofs.YtmdkfhfkdcbpgaaDoorR Go.Proofs.YtmdkfhfkdcbpgaaDoorR.Mem Go.Proofs.YtmdkfhfkdcbpgaaDoorR.Sha Go.Proofs.YtmdkfhfkdcbpgaaDoorR.Bytes Go.Proofs.YtmdkfhfkdcbpgaaDoorR.Append Go.Proofs.YtmdkfhfkdcbpgaaDoorR.TreeRefRoot Go.Proofs.YtmdkfhfkdcbpgaaDoorR.Node Go.Proofs.YtmdkfhfkdcbpgaaDoorR.Same8

/-- A text more in a row of texts. -/
theorem Txs.push {w w3 w4 : World} {gc gt ct B : Nat} {ts : List Text} {q : Text} {v v1 : Value} {xs : List Value} {n : Nat} {M : Nat → Prop} (hM : ¬ M gt) (hn : ts.length = n) (hx : Txs M w gc v.ownBlock xs ts) (hO : w.ownsRow B 27 1 v n xs)
    (hb : Below w.heap.size w w3) (hq : Reads w3 1 (some ⟨gt, 0, none⟩) q.length (cells8 q)) (hgt : w.heap.size ≤ gt ∧ gt < w3.heap.size) (hgc : gt ≠ gc) (hct : q.length ≤ ct)
    (hG : Grew (w3.alloc (.cells #[.slice (some ⟨gt, 0, none⟩) q.length ct] 27)) B 27 1 v n 1 xs [.slice (some ⟨gt, 0, none⟩) q.length ct] v1 w4) :
    Txs M w4 gc v1.ownBlock (xs ++ [.slice (some ⟨gt, 0, none⟩) q.length ct]) (ts ++ [q]) ∧ w4.ownsRow B 27 1 v1 (n + 1) (xs ++ [.slice (some ⟨gt, 0, none⟩) q.length ct]) ∧ Kept (fun k => some k = v.ownBlock) w w4 := by
  have hz : (w3.alloc (.cells #[.slice (some ⟨gt, 0, none⟩) q.length ct] 27)).heap.size = w3.heap.size + 1 := by simp
  have hk4 : ∀ k, k < w3.heap.size → some k ≠ v.ownBlock → w4.heap[k]? = w3.heap[k]? := fun k hk hne => (hG.grow.block k (by rw [hz]; omega) hne).trans (Below.heap_alloc _ _ _ hk)
  have hs4 : w3.heap.size + 1 ≤ w4.heap.size := by have := hG.grow.size; rw [hz] at this; exact this
  have hr4 : v1.ownBlock = v.ownBlock ∨ v1.ownBlock = some (w3.heap.size + 1) := by
    rcases hG.at_ with h | h
    · exact .inl h
    · exact .inr (by rw [h, hz])
  have hxl : xs.length = n := by have := hO.1; simpa using this
  have hown1 : ∀ k, k < w3.heap.size → some k ≠ v.ownBlock → some k ≠ v1.ownBlock := fun k hk hne e => by
    rcases hr4 with h | h
    · exact hne (e.trans h)
    · rw [h] at e; have := Option.some.inj e; omega
  have hread : ∀ (g : Nat) (p : Text), g < w3.heap.size → some g ≠ v.ownBlock → Reads w3 1 (some ⟨g, 0, none⟩) p.length (cells8 p) → Reads w4 1 (some ⟨g, 0, none⟩) p.length (cells8 p) := fun g p h1 h2 h =>
    h.keep (w' := w4) (by omega) fun b o e hb => by
      injection e with e
      injection e with e1 e2
      subst e1
      exact hk4 _ hb h2
  refine ⟨fun i p hp => ?_, hG.own, ⟨hG.grow.os.trans hb.os, hG.grow.tape.trans hb.tape, hG.grow.output.trans hb.output, by have := hb.size; omega, fun k hk hne => (hk4 k (by have := hb.size; omega) hne).trans (hb.block k hk)⟩⟩
  rcases Nat.lt_or_ge i ts.length with hi | hi
  · rw [List.getElem?_append_left hi] at hp
    obtain ⟨g, c, a1, a2, a3, a4, a5, a6, a7⟩ := hx i p hp
    have hg3 : g < w3.heap.size := by have := hb.size; omega
    exact ⟨g, c, by rw [List.getElem?_append_left (by omega)]; exact a1, a2, hread g p hg3 a6 (a3.below hb), by omega, a5, hown1 g hg3 a6, a7⟩
  · rw [List.getElem?_append_right hi] at hp
    have hi0 : i = ts.length := by
      have := (List.getElem?_eq_some_iff.1 hp).1
      simp at this
      omega
    subst hi0
    rw [Nat.sub_self] at hp
    obtain rfl := Option.some.inj hp
    have hgr : some gt ≠ v.ownBlock := fun e => by have := (hO.lt gt e.symm).2; omega
    exact ⟨gt, ct, by rw [List.getElem?_append_right (by omega), hxl, hn, Nat.sub_self]; rfl, hct, hread gt q hgt.2 hgr hq, by omega, hgc, hown1 gt hgt.2 hgr, hM⟩
theorem Txs.keep {w w' : World} {gc : Nat} {r : Option Nat} {xs : List Value} {ts : List Text} {M S : Nat → Prop} (hx : Txs M w gc r xs ts) (hk : Kept S w w') (hS : ∀ k, S k → k = gc ∨ some k = r ∨ M k) : Txs M w' gc r xs ts := fun i q hq => by
  obtain ⟨g, c, a1, a2, a3, a4, a5, a6, a7⟩ := hx i q hq
  refine ⟨g, c, a1, a2, a3.kept hk (fun b o e h => ?_), Nat.lt_of_lt_of_le a4 hk.size, a5, a6, a7⟩
  injection e with e
  injection e with e1 e2
  subst e1
  rcases hS _ h with h | h | h
  · exact a5 h
  · exact a6 h
  · exact a7 h
/-- A row of texts of one's own, as Pieces. -/
theorem Txs.pieces {w : World} {M : Nat → Prop} {gc base : Nat} {r : Option Nat} {v : Value} {xs : List Value} {ts : List Text} (hO : w.ownsRow base 27 1 v ts.length xs) (hx : Txs M w gc r xs ts) :
    ∃ A c, v = .slice A ts.length c ∧ ts.length ≤ c ∧ (A = none → ts.length = 0 ∧ c = 0) ∧ Pieces w A ts := by
  obtain ⟨A, c, e, hc, -, hnil, hr, -⟩ := Own.reads hO
  refine ⟨A, c, e, hc, hnil, fun h0 => ?_⟩
  obtain ⟨b, o, e1, hb, hcs⟩ := hr.at_ (by omega)
  refine ⟨b, o, e1, hb, fun i q hq => ?_⟩
  obtain ⟨g, cq, a1, a2, a3, -⟩ := hx i q hq
  exact ⟨some ⟨g, 0, none⟩, cq, hcs i _ a1, a2, a3, fun h => by cases h⟩

theorem Pieces.drewN {w : World} {A : Option Addr} {ps : List Text} (h : Pieces w A ps) (k : Nat) : Pieces (w.drewN k) A ps := h

end Go.Proofs.YtmdkfhfkdcbpgaaDoorR.Texts

namespace Go.Proofs.YtmdkfhfkdcbpgaaDoorR.AheadM
open Go Go.RowKit Go.Proofs.YtmdkfhfkdcbpgaaDoorR Go.Proofs.YtmdkfhfkdcbpgaaDoorR.Digest Go.Proofs.YtmdkfhfkdcbpgaaDoorR.Mem Go.Proofs.YtmdkfhfkdcbpgaaDoorR.Sha Go.Proofs.YtmdkfhfkdcbpgaaDoorR.Bytes Go.Proofs.YtmdkfhfkdcbpgaaDoorR.Append Go.Proofs.YtmdkfhfkdcbpgaaDoorR.HashMem Go.Proofs.YtmdkfhfkdcbpgaaDoorR.DigestMem Go.Proofs.YtmdkfhfkdcbpgaaDoorR.TreeMath Go.Proofs.YtmdkfhfkdcbpgaaDoorR.TreeMem Go.Proofs.YtmdkfhfkdcbpgaaDoorR.TreeRoot Go.Proofs.YtmdkfhfkdcbpgaaDoorR.TreeRefRoot Go.Proofs.YtmdkfhfkdcbpgaaDoorR.Node Go.Proofs.YtmdkfhfkdcbpgaaDoorR.Sides Go.Proofs.YtmdkfhfkdcbpgaaDoorR.WayP Go.Proofs.YtmdkfhfkdcbpgaaDoorR.Climb Go.Proofs.YtmdkfhfkdcbpgaaDoorR.Incl Go.Proofs.YtmdkfhfkdcbpgaaDoorR.Subs Go.Proofs.YtmdkfhfkdcbpgaaDoorR.RowsP Go.Proofs.YtmdkfhfkdcbpgaaDoorR.Texts

/-! ### The plain word -/
/-- The old root, the new one; the texts of the one, of the other. -/
structure Ah where
  fr : Text
  sr : Text
  ft : List Text
  st : List Text
/-- One step: the digest stands to the right, or to the left. -/
def ahead1 (s : Int) (z : Ah) (p : Bool × Text) : Ah :=
  if p.1 then ⟨z.fr, ndOf s z.sr p.2, z.ft, z.st ++ [kb 1 :: (z.sr ++ p.2)]⟩
  else ⟨ndOf s p.2 z.fr, ndOf s p.2 z.sr, z.ft ++ [kb 1 :: (p.2 ++ z.fr)], z.st ++ [kb 1 :: (p.2 ++ z.sr)]⟩
/-- All in order: sums of 32 bytes, texts of 65, no more of them than steps. -/
structure Ah.Ok (z : Ah) (k : Nat) : Prop where
  fl : z.fr.length = 32
  sl : z.sr.length = 32
  ft : ∀ q ∈ z.ft, q.length = 65
  st : ∀ q ∈ z.st, q.length = 65
  fk : z.ft.length ≤ k
  sk : z.st.length ≤ k
theorem Ah.Ok.step {s : Int} {z : Ah} {k : Nat} {p : Bool × Text} (h : z.Ok k) (hp : p.2.length = 32) : (ahead1 s z p).Ok (k + 1) := by
  have h1 := h.fl
  have h2 := h.sl
  have h3 := h.fk
  have h4 := h.sk
  unfold ahead1
  split
  · refine ⟨h1, ndOf_len _ _ _, h.ft, fun q hq => ?_, (by show z.ft.length ≤ k + 1; omega), by simp; omega⟩
    rcases List.mem_append.1 hq with hq | hq
    · exact h.st q hq
    · obtain rfl := List.mem_singleton.1 hq
      simp [h2, hp]
  · refine ⟨ndOf_len _ _ _, ndOf_len _ _ _, fun q hq => ?_, fun q hq => ?_, by simp; omega, by simp; omega⟩
    · rcases List.mem_append.1 hq with hq | hq
      · exact h.ft q hq
      · obtain rfl := List.mem_singleton.1 hq
        simp [h1, hp]
    · rcases List.mem_append.1 hq with hq | hq
      · exact h.st q hq
      · obtain rfl := List.mem_singleton.1 hq
        simp [h2, hp]
/-! ### Two climbers -/
theorem ClAt.avoid {M : Nat → Prop} {w : World} {gc : Nat} {r : Option Nat} {s : Int} {ts : List Text} (h : ClAt w gc r s ts) (hl : ∀ q ∈ ts, q.length = 65) (hM : ∀ k, M k → ∃ u, w.cell? ⟨k, 0, none⟩ = some u ∧ ∀ n, u ≠ .int .u8 n) : ClAtM M w gc r s ts := by
  obtain ⟨v, xs, a1, a2, a3, a4, hx⟩ := h
  refine ⟨v, xs, a1, a2, a3, a4, fun i q hq => ?_⟩
  obtain ⟨g, c, b1, b2, b3, b4, b5, b6, -⟩ := hx i q hq
  refine ⟨g, c, b1, b2, b3, b4, b5, b6, fun hm => ?_⟩
  have hlen := hl q (List.mem_of_getElem? hq)
  obtain ⟨u, hu, hne⟩ := hM g hm
  obtain ⟨b', o, e1, -, e2⟩ := b3.at_ (by omega)
  injection e1 with e1
  injection e1 with e3 e4
  subst e3 e4
  have h2 := e2 0 _ (cells8_at q 0 (by omega))
  rw [Nat.add_zero, hu] at h2
  exact hne _ (Option.some.inj h2)
/-- A climber's own blocks do not begin with a byte. -/
theorem ClAt.front {w : World} {gc : Nat} {r : Option Nat} {s : Int} {ts : List Text} (h : ClAt w gc r s ts) (he : ts = [] → r = none) : ∀ k, (k = gc ∨ some k = r) → ∃ u, w.cell? ⟨k, 0, none⟩ = some u ∧ ∀ n, u ≠ .int .u8 n := by
  obtain ⟨v, xs, a1, a2, a3, a4, hx⟩ := h
  rintro k (rfl | hk)
  · exact ⟨_, a1.cell 0, fun n e => by injection e with e1; cases e1⟩
  · obtain ⟨q, hq⟩ : ∃ q, ts[0]? = some q := by
      cases ts with
      | nil => rw [he rfl] at hk; cases hk
      | cons q ts => exact ⟨q, rfl⟩
    obtain ⟨g, c, b1, -⟩ := hx 0 q hq
    obtain ⟨A, c2, rfl, -, -, -, hr, hA⟩ := Append.Own.reads a2
    have hpos : 0 < ts.length := by cases ts with
      | nil => cases hq
      | cons q ts => simp
    obtain ⟨b', o, rfl, -, e2⟩ := hr.at_ (by omega)
    have h2 := e2 0 _ b1
    have h3 := (hA _ rfl).2
    rw [h3] at a3
    rw [← a3] at hk
    have hkb : k = b' := Option.some.inj hk
    have ho : o = 0 := by
      rcases a2.2 with ⟨e, -⟩ | ⟨g', cap, cur, e, -⟩
      · injection e with e; cases e
      · injection e with e; injection e with e; injection e
    subst hkb ho
    exact ⟨_, h2, fun n e => by cases e⟩

/-- What stands while two climbers go up: their digests' blocks, the climbers, and what is kept since. -/
structure AhAt (w1 wr : World) (g1 g2 : Nat) (r1 r2 : Option Nat) (b1 b2 : Nat) (s : Int) (x1 x2 : Text) (t1 t2 : List Text) : Prop where
  lf1 : Blk wr b1 23 (cells8 x1).toArray
  lf2 : Blk wr b2 23 (cells8 x2).toArray
  cl1 : ClAt wr g1 r1 s t1
  cl2 : ClAt wr g2 r2 s t2
  n1 : ∀ k, r1 = some k → w1.heap.size ≤ k
  n2 : ∀ k, r2 = some k → w1.heap.size ≤ k
  ap : ∀ k, r1 = some k → r2 ≠ some k
  e1 : t1 = [] → r1 = none
  e2 : t2 = [] → r2 = none
  kept : Kept (fun k => k = g1 ∨ k = g2 ∨ k = b1 ∨ k = b2) w1 wr
theorem AhAt.step {w1 wr w4 w5 : World} {g1 g2 b1 b2 : Nat} {r1 r2 : Option Nat} {s : Int} {x1 x2 z q : Text} {t1 t2 : List Text} (h : AhAt w1 wr g1 g2 r1 r2 b1 b2 s x1 x2 t1 t2) (hb : Below wr.heap.size wr w4) (hC : Clmb w4 g1 r1 s (t1 ++ [q]) w5)
    (hl1 : ∀ p ∈ t1 ++ [q], p.length = 65) (hl2 : ∀ p ∈ t2, p.length = 65) (hx1 : x1.length = 32) (hg12 : g1 ≠ g2) (hg1b1 : g1 ≠ b1) (hg1b2 : g1 ≠ b2) (hg2b1 : g2 ≠ b1) (hb12 : b1 ≠ b2) (hlt : g1 < w1.heap.size ∧ g2 < w1.heap.size ∧ b1 < w1.heap.size ∧ b2 < w1.heap.size) :
    Blk w5 b1 23 (cells8 x1).toArray ∧ ∃ r1', AhAt w1 (w5.setRow b1 (cells8 z).toArray) g1 g2 r1' r2 b1 b2 s z x2 (t1 ++ [q]) t2 := by
  obtain ⟨r', hC1, hK, hr'⟩ := hC
  have hs1 := h.kept.size
  have hs4 := hb.size
  have hs5 := hK.size
  obtain ⟨l1, l2, l3, l4⟩ := hlt
  have hr1 : ∀ k, k < w1.heap.size → some k ≠ r1 := fun k hk e => by have := h.n1 k e.symm; omega
  have hB4 : Blk w4 b1 23 (cells8 x1).toArray := (hb.block b1 h.lf1.lt).trans h.lf1
  have hB5 : Blk w5 b1 23 (cells8 x1).toArray := hB4.kept hK (fun e => by rcases e with e | e; exact hg1b1 e.symm; exact hr1 b1 l3 e)
  have hD4 : Blk w4 b2 23 (cells8 x2).toArray := (hb.block b2 h.lf2.lt).trans h.lf2
  have hD5 : Blk w5 b2 23 (cells8 x2).toArray := hD4.kept hK (fun e => by rcases e with e | e; exact hg1b2 e.symm; exact hr1 b2 l4 e)
  have hc1 : ClAt w4 g1 r1 s t1 := ClAtM.kept h.cl1 (Kept.of_below hb) (fun h => h) (fun _ _ h => h)
  have hc2 : ClAt w4 g2 r2 s t2 := ClAtM.kept h.cl2 (Kept.of_below hb) (fun h => h) (fun _ _ h => h)
  have hr2lt : ∀ k, r2 = some k → k < wr.heap.size := fun k e => by obtain ⟨_, _, _, _, _, a4, _⟩ := h.cl2; exact (a4 k e).2
  have hc25 : ClAt w5 g2 r2 s t2 := (ClAt.avoid hc2 hl2 (ClAt.front hc1 h.e1)).kept hK (fun e => by rcases e with e | e; exact hg12 e.symm; exact hr1 g2 l2 e) (fun k e e' => by
    rcases e' with e' | e'
    · have := h.n2 k e; omega
    · exact h.ap k e'.symm e)
  have hn' : ∀ k, r' = some k → w1.heap.size ≤ k := fun k e => by
    rcases hr' with e1 | ⟨k', e1, e2⟩
    · exact h.n1 k (by rw [← e1, e])
    · rw [e] at e1; have := Option.some.inj e1; omega
  refine ⟨hB5, r', setRow_heap _ _ _ _ _ _ hB5, (setRow_other _ _ _ _ (fun e => hb12 e.symm)).trans hD5, ?_, ?_, hn', h.n2, fun k e e' => ?_, (fun e => by simp at e), h.e2, ?_⟩
  · exact (ClAt.off hC1 hB5 (fun p hp => by rw [hl1 p hp]; simp [cells8_len, hx1])).kept (Bytes.Kept.setRow (S := fun k => k = b1) (Kept.refl _ _) rfl _) hg1b1 (fun k e e' => by have := hn' k e; omega)
  · exact (ClAt.off hc25 hB5 (fun p hp => by rw [hl2 p hp]; simp [cells8_len, hx1])).kept (Bytes.Kept.setRow (S := fun k => k = b1) (Kept.refl _ _) rfl _) hg2b1 (fun k e e' => by have := h.n2 k e; omega)
  · rcases hr' with e1 | ⟨k', e1, e2⟩
    · exact h.ap k (by rw [← e1, e]) e'
    · rw [e] at e1; have := Option.some.inj e1; have := hr2lt k e'; omega
  · refine Bytes.Kept.setRow (S := fun k => k = g1 ∨ k = g2 ∨ k = b1 ∨ k = b2) ((h.kept.trans (T := fun _ => False) (Kept.of_below hb) (fun _ _ h => h.elim)).trans hK (fun i hi e => ?_)) (.inr (.inr (.inl rfl))) _
    rcases e with e | e
    · exact .inl e
    · exact absurd e (hr1 i hi)
end Go.Proofs.YtmdkfhfkdcbpgaaDoorR.AheadM

namespace Go.Proofs.YtmdkfhfkdcbpgaaDoorR.TwiceP
open Go Go.RowKit Go.Proofs.YtmdkfhfkdcbpgaaDoorR Go.Proofs.YtmdkfhfkdcbpgaaDoorR.Sha Go.Proofs.YtmdkfhfkdcbpgaaDoorR.DigestMem Go.Proofs.YtmdkfhfkdcbpgaaDoorR.Bytes Go.Proofs.YtmdkfhfkdcbpgaaDoorR.TreeMem Go.Proofs.YtmdkfhfkdcbpgaaDoorR.TreeRoot Go.Proofs.YtmdkfhfkdcbpgaaDoorR.Climb Go.Proofs.YtmdkfhfkdcbpgaaDoorR.AheadM

/-- A text's sum, cut to a width. -/
def sumOf (s : Int) (q : Text) : Text := cutTo (sum q) (clampN s)
theorem sumOf_len (s : Int) (q : Text) : (sumOf s q).length = 32 := cutTo_len _ _ (sum_len _) (clampN_ok s).2
/-- Two unlike texts of one sum at one place of two rows. -/
def MetAt (s : Int) (a b : List Text) : Prop := ∃ (i : Nat) (p q : Text), a[i]? = some p ∧ b[i]? = some q ∧ p ≠ q ∧ sumOf s p = sumOf s q
/-- Two unlike texts of one sum in a row. -/
def Met (s : Int) (l : List Text) : Prop := ∃ p q, p ∈ l ∧ q ∈ l ∧ p ≠ q ∧ sumOf s p = sumOf s q
theorem MetAt.met {s : Int} {a b : List Text} (h : MetAt s a b) : Met s (a ++ b) := by
  obtain ⟨i, p, q, h1, h2, h3, h4⟩ := h
  exact ⟨p, q, List.mem_append_left _ (List.mem_of_getElem? h1), List.mem_append_right _ (List.mem_of_getElem? h2), h3, h4⟩
theorem MetAt.more {s : Int} {a b c d : List Text} (h : MetAt s a b) : MetAt s (a ++ c) (b ++ d) := by
  obtain ⟨i, p, q, h1, h2, h3, h4⟩ := h
  exact ⟨i, p, q, by rw [List.getElem?_append_left (List.getElem?_eq_some_iff.1 h1).1]; exact h1, by rw [List.getElem?_append_left (List.getElem?_eq_some_iff.1 h2).1]; exact h2, h3, h4⟩
theorem MetAt.last {s : Int} {a b : List Text} {p q : Text} (hl : a.length = b.length) (hne : p ≠ q) (h : sumOf s p = sumOf s q) : MetAt s (a ++ [p]) (b ++ [q]) :=
  ⟨a.length, p, q, by simp, by rw [hl]; simp, hne, h⟩
theorem Met.mono {s : Int} {a b : List Text} (h : Met s a) (hs : ∀ p ∈ a, p ∈ b) : Met s b := by
  obtain ⟨p, q, h1, h2, h3, h4⟩ := h
  exact ⟨p, q, hs p h1, hs q h2, h3, h4⟩
end Go.Proofs.YtmdkfhfkdcbpgaaDoorR.TwiceP

namespace Go.Proofs.YtmdkfhfkdcbpgaaDoorR.InclAny
open Go Go.RowKit Go.Proofs.YtmdkfhfkdcbpgaaDoorR Go.Proofs.YtmdkfhfkdcbpgaaDoorR.Digest Go.Proofs.YtmdkfhfkdcbpgaaDoorR.Mem Go.Proofs.YtmdkfhfkdcbpgaaDoorR.Sha Go.Proofs.YtmdkfhfkdcbpgaaDoorR.Bytes Go.Proofs.YtmdkfhfkdcbpgaaDoorR.HashMem Go.Proofs.YtmdkfhfkdcbpgaaDoorR.DigestMem Go.Proofs.YtmdkfhfkdcbpgaaDoorR.DigestTop Go.Proofs.YtmdkfhfkdcbpgaaDoorR.RefTop Go.Proofs.YtmdkfhfkdcbpgaaDoorR.TreeMath Go.Proofs.YtmdkfhfkdcbpgaaDoorR.TreeMem Go.Proofs.YtmdkfhfkdcbpgaaDoorR.TreeRoot Go.Proofs.YtmdkfhfkdcbpgaaDoorR.TreeRefRoot Go.Proofs.YtmdkfhfkdcbpgaaDoorR.Node Go.Proofs.YtmdkfhfkdcbpgaaDoorR.Sides Go.Proofs.YtmdkfhfkdcbpgaaDoorR.Way Go.Proofs.YtmdkfhfkdcbpgaaDoorR.WayP Go.Proofs.YtmdkfhfkdcbpgaaDoorR.Climb Go.Proofs.YtmdkfhfkdcbpgaaDoorR.Incl

theorem zero32 : (cells8 (List.replicate 32 0)).toArray = Z32 := by rfl
theorem Clmb.same {w w' : World} {gc : Nat} {r : Option Nat} {s : Int} {ts : List Text} (h : ClAt w gc r s ts) (hb : Below w.heap.size w w') : Clmb w gc r s ts w' :=
  ⟨r, ClAtM.kept h (Kept.of_below hb) (fun h => h) (fun _ _ h => h), Kept.of_below hb, .inl rfl⟩
end Go.Proofs.YtmdkfhfkdcbpgaaDoorR.InclAny

namespace Go.Proofs.YtmdkfhfkdcbpgaaDoorR.RefIncl0
open Go Go.RowKit Go.Proofs.YtmdkfhfkdcbpgaaDoorR Go.Proofs.YtmdkfhfkdcbpgaaDoorR.Digest Go.Proofs.YtmdkfhfkdcbpgaaDoorR.Mem Go.Proofs.YtmdkfhfkdcbpgaaDoorR.Sha Go.Proofs.YtmdkfhfkdcbpgaaDoorR.ShaWalk Go.Proofs.YtmdkfhfkdcbpgaaDoorR.Bytes Go.Proofs.YtmdkfhfkdcbpgaaDoorR.HashMem Go.Proofs.YtmdkfhfkdcbpgaaDoorR.DigestMem Go.Proofs.YtmdkfhfkdcbpgaaDoorR.DigestTop Go.Proofs.YtmdkfhfkdcbpgaaDoorR.RefTop Go.Proofs.YtmdkfhfkdcbpgaaDoorR.QuietTail Go.Proofs.YtmdkfhfkdcbpgaaDoorR.Grown Go.Proofs.YtmdkfhfkdcbpgaaDoorR.Chain Go.Proofs.YtmdkfhfkdcbpgaaDoorR.TreeMath Go.Proofs.YtmdkfhfkdcbpgaaDoorR.TreeMem Go.Proofs.YtmdkfhfkdcbpgaaDoorR.TreeRoot Go.Proofs.YtmdkfhfkdcbpgaaDoorR.Append Go.Proofs.YtmdkfhfkdcbpgaaDoorR.Book Go.Proofs.YtmdkfhfkdcbpgaaDoorR.TreeRefRoot Go.Proofs.YtmdkfhfkdcbpgaaDoorR.Held Go.Proofs.YtmdkfhfkdcbpgaaDoorR.Node Go.Proofs.YtmdkfhfkdcbpgaaDoorR.Sides Go.Proofs.YtmdkfhfkdcbpgaaDoorR.WayP Go.Proofs.YtmdkfhfkdcbpgaaDoorR.Climb Go.Proofs.YtmdkfhfkdcbpgaaDoorR.Incl Go.Proofs.YtmdkfhfkdcbpgaaDoorR.InclAny Go.Proofs.YtmdkfhfkdcbpgaaDoorR.RefSides Go.Proofs.YtmdkfhfkdcbpgaaDoorR.Levels Go.Proofs.YtmdkfhfkdcbpgaaDoorR.Texts Go.Proofs.YtmdkfhfkdcbpgaaDoorR.RefCut

theorem own_kept {S : Nat → Prop} {w w' : World} {base e size n : Nat} {v : Value} {xs : List Value} (h : w.ownsRow base e size v n xs) (hk : Kept S w w') (hS : ∀ k, v.ownBlock = some k → ¬ S k) : w'.ownsRow base e size v n xs := by
  refine ⟨h.1, h.2.imp id fun ⟨g, cap, cur, h1, h2, h3, h4⟩ => ⟨g, cap, cur, h1, h2, ?_, h4⟩⟩
  rw [hk.block g (Array.getElem?_eq_some_iff.1 h3).1 (hS g (by rw [h1]; rfl)), h3]
/-- The world in which the document's text of a node is made: its two digests lie in blocks a and b. -/
def tW (w : World) (a b : Nat) : World := w.drew.alloc (.cells #[.slice (some ⟨a, 0, none⟩) 32 32, .slice (some ⟨b, 0, none⟩) 32 32] 27)
theorem tW_size (w : World) (a b : Nat) : (tW w a b).heap.size = w.heap.size + 1 := by unfold tW; simp
theorem tW_below (w : World) (a b : Nat) : Below w.heap.size w (tW w a b) := ((Below.refl _ w).drew).alloc (Nat.le_refl _) _
theorem tW_pieces {w : World} {a b : Nat} {x y : Text} (ha : Blk w a 23 (cells8 x).toArray) (hb : Blk w b 23 (cells8 y).toArray) (hx : x.length = 32) (hy : y.length = 32) : Pieces (tW w a b) (some ⟨w.heap.size, 0, none⟩) [x, y] := fun _ => by
  have hP : Blk (tW w a b) w.heap.size 27 #[.slice (some ⟨a, 0, none⟩) 32 32, .slice (some ⟨b, 0, none⟩) 32 32] := Blk.new w.drew 27 _
  have hA : Blk (tW w a b) a 23 (cells8 x).toArray := (ha.drew).alloc _
  have hB : Blk (tW w a b) b 23 (cells8 y).toArray := (hb.drew).alloc _
  refine ⟨w.heap.size, 0, rfl, hP.lt, fun i z hz => ?_⟩
  match i with
  | 0 =>
    obtain rfl := Option.some.inj hz
    exact ⟨some ⟨a, 0, none⟩, 32, by rw [hP.cell, hx]; rfl, by omega, rowReads hA, fun h => by cases h⟩
  | 1 =>
    obtain rfl := Option.some.inj hz
    exact ⟨some ⟨b, 0, none⟩, 32, by rw [hP.cell, hy]; rfl, by omega, rowReads hB, fun h => by cases h⟩
  | i + 2 => simp at hz
/-- What stands at the head of a round of the document's way up. -/
structure RAt (wo wr : World) (br : Nat) (st : Text × List Text) (v : Value) (xs : List Value) : Prop where
  leaf : Blk wr br 23 (cells8 st.1).toArray
  own : wr.ownsRow wo.heap.size 27 1 v st.2.length xs
  txs : Txs (fun k => k < wo.heap.size) wr br v.ownBlock xs st.2
  kept : Kept (· = br) wo wr
theorem RAt.step {wo wr w1 w3 w4 w5 w6 : World} {br gt ct n : Nat} {st st' : Text × List Text} {v v4 : Value} {xs : List Value} {q : Text} (h : RAt wo wr br st v xs) (hbr : br < wo.heap.size) (hn : st.2.length = n)
    (hb1 : Below wr.heap.size wr w1) (hb3 : Below w1.heap.size w1 w3) (hq : Reads w3 1 (some ⟨gt, 0, none⟩) q.length (cells8 q)) (hgt : w1.heap.size ≤ gt ∧ gt < w3.heap.size) (hct : q.length ≤ ct)
    (hG : Grew (w3.alloc (.cells #[.slice (some ⟨gt, 0, none⟩) q.length ct] 27)) wo.heap.size 27 1 v n 1 xs [.slice (some ⟨gt, 0, none⟩) q.length ct] v4 w4)
    (hb5 : Below w4.heap.size w4 w5) (hB6 : Blk w6 br 23 (cells8 st'.1).toArray) (hk6 : Kept (· = br) w5 w6) (hst : st'.2 = st.2 ++ [q]) : RAt wo w6 br st' v4 (xs ++ [.slice (some ⟨gt, 0, none⟩) q.length ct]) := by
  have hz1 := hb1.size
  have hz2 := h.kept.size
  obtain ⟨p1, p2, p3⟩ := Txs.push (by omega) hn (Txs.keep (S := fun _ => False) h.txs (Kept.of_below hb1) (fun _ h => h.elim)) (hn ▸ own_below h.own hb1) hb3 hq hgt (by omega) hct hG
  have hown : ∀ k, v4.ownBlock = some k → k ≠ br := fun k e => by have := (p2.lt k e).1; omega
  refine ⟨hB6, ?_, ?_, ?_⟩
  · rw [hst, List.length_append, hn]
    exact own_kept (own_below p2 hb5) hk6 (fun k e h => hown k e h)
  · rw [hst]
    exact Txs.keep (Txs.keep (S := fun _ => False) p1 (Kept.of_below hb5) (fun _ h => h.elim)) hk6 (fun k h => .inl h)
  · refine (((h.kept.trans (T := fun _ => False) (Kept.of_below hb1) (fun _ _ h => h.elim)).trans p3 (fun i hi e => ?_)).trans (T := fun _ => False) (Kept.of_below hb5) (fun _ _ h => h.elim)).trans hk6 (fun i _ h => h)
    have := (h.own.lt i e.symm).1
    omega

/-- A store of a whole block, the frame left as it was. -/
theorem wpList_store_whole0 {P : Program} {ops : Array Oper} {rest : List Oper} {o : Oper} {a : Act} {w : World} {Q : Exit → Act → World → Prop} (hdst : o.dst = none) (hgd : o.guard = none) (ty : TypeId) (x y : Operand) (ho : o.op = .store ty x y)
    (g : Nat) (cells : Array Value) (hx : a.eval x = .pointer (some ⟨g, 0, none⟩)) (hy : a.eval y = .agg cells)
    (t : TypeId) (old : Array Value) (hg : Blk w g t old) (hi : (P.info? ty).map (·.size) = some cells.size)
    (hold : old.size = cells.size) (h1 : cells.all (·.oneCell') = true)
    (h : ∀ w', Blk w' g t cells → Kept (· = g) w w' → wpList P ops Q rest a w') : wpList P ops Q (o :: rest) a w :=
  wpList_store_whole hgd ty x y ho g cells hx hy t old hg hi hold h1 (fun w' h1 h2 => by
    have := h w' h1 h2
    rw [hdst]
    exact this)
/-- What the document's Include leaves. -/
def RPost (w : World) (X : Text × Int × List Text) (e : Ending) (w' : World) : Prop := ∃ v xs r gc, e = .returned (.tuple #[.agg (cells8 X.1).toArray, v, .int .i64 X.2.1]) ∧ w'.ownsRow 0 27 1 v X.2.2.length xs ∧ Txs (fun _ => False) w' gc r xs X.2.2 ∧ Below w.heap.size w w'
end Go.Proofs.YtmdkfhfkdcbpgaaDoorR.RefIncl0

namespace Go.Proofs.YtmdkfhfkdcbpgaaDoorR.AheadT
open Go Go.RowKit Go.Proofs.YtmdkfhfkdcbpgaaDoorR Go.Proofs.YtmdkfhfkdcbpgaaDoorR.Digest Go.Proofs.YtmdkfhfkdcbpgaaDoorR.Mem Go.Proofs.YtmdkfhfkdcbpgaaDoorR.Sha Go.Proofs.YtmdkfhfkdcbpgaaDoorR.Bytes Go.Proofs.YtmdkfhfkdcbpgaaDoorR.Append Go.Proofs.YtmdkfhfkdcbpgaaDoorR.HashMem Go.Proofs.YtmdkfhfkdcbpgaaDoorR.TreeMem Go.Proofs.YtmdkfhfkdcbpgaaDoorR.TreeRoot Go.Proofs.YtmdkfhfkdcbpgaaDoorR.Node Go.Proofs.YtmdkfhfkdcbpgaaDoorR.Climb Go.Proofs.YtmdkfhfkdcbpgaaDoorR.Incl Go.Proofs.YtmdkfhfkdcbpgaaDoorR.Subs Go.Proofs.YtmdkfhfkdcbpgaaDoorR.RowsP Go.Proofs.YtmdkfhfkdcbpgaaDoorR.AheadM Go.Proofs.YtmdkfhfkdcbpgaaDoorR.RefIncl0

/-- Each text is longer than a sum, and reads. -/
def Tx (w : World) (xs : List Value) (ts : List Text) : Prop := ∀ (i : Nat) (q : Text), ts[i]? = some q → 32 < q.length ∧ ∃ g c, xs[i]? = some (.slice (some ⟨g, 0, none⟩) q.length c) ∧ q.length ≤ c ∧ Reads w 1 (some ⟨g, 0, none⟩) q.length (cells8 q)
theorem Tx.append {w : World} {xs ys : List Value} {ts us : List Text} (h : Tx w xs ts) (k : Tx w ys us) (hl : xs.length = ts.length) : Tx w (xs ++ ys) (ts ++ us) := fun i q hq => by
  rcases Nat.lt_or_ge i ts.length with hi | hi
  · rw [List.getElem?_append_left hi] at hq
    rw [List.getElem?_append_left (by omega)]
    exact h i q hq
  · rw [List.getElem?_append_right hi] at hq
    rw [List.getElem?_append_right (by omega), hl]
    exact k _ q hq
theorem Tx.below {w w' : World} {xs : List Value} {ts : List Text} (h : Tx w xs ts) (hb : Below w.heap.size w w') : Tx w' xs ts := fun i q hq => by
  obtain ⟨hl, g, c, a1, a2, a3⟩ := h i q hq
  exact ⟨hl, g, c, a1, a2, a3.below hb⟩
end Go.Proofs.YtmdkfhfkdcbpgaaDoorR.AheadT

namespace Go.Proofs.YtmdkfhfkdcbpgaaDoorR.RowsT
open Go Go.RowKit Go.Proofs.YtmdkfhfkdcbpgaaDoorR Go.Proofs.YtmdkfhfkdcbpgaaDoorR.Mem Go.Proofs.YtmdkfhfkdcbpgaaDoorR.Sha Go.Proofs.YtmdkfhfkdcbpgaaDoorR.Bytes Go.Proofs.YtmdkfhfkdcbpgaaDoorR.Append Go.Proofs.YtmdkfhfkdcbpgaaDoorR.TreeMem Go.Proofs.YtmdkfhfkdcbpgaaDoorR.Node Go.Proofs.YtmdkfhfkdcbpgaaDoorR.Texts Go.Proofs.YtmdkfhfkdcbpgaaDoorR.AheadT

theorem Tx.keep {S : Nat → Prop} {w w' : World} {xs : List Value} {ts : List Text} (h : Tx w xs ts) (hk : Kept S w w') (hS : ∀ g, S g → ∃ u, w.cell? ⟨g, 0, none⟩ = some u ∧ ∀ n, u ≠ .int .u8 n) : Tx w' xs ts := fun i q hq => by
  obtain ⟨hl, g, c, b1, b2, b3⟩ := h i q hq
  refine ⟨hl, g, c, b1, b2, b3.kept hk (fun b o e hs => ?_)⟩
  injection e with e
  injection e with e1 e2
  subst e1 e2
  obtain ⟨b', o, e1, -, e2⟩ := b3.at_ (by omega)
  injection e1 with e1
  injection e1 with e3 e4
  subst e3 e4
  obtain ⟨u, hu, hne⟩ := hS _ hs
  have h2 := e2 0 _ (cells8_at q 0 (by omega))
  rw [Nat.add_zero, hu] at h2
  exact hne _ (Option.some.inj h2)
theorem Tx.pieces {w : World} {B : Nat} {v : Value} {xs : List Value} {ts : List Text} (hO : w.ownsRow B 27 1 v ts.length xs) (hx : Tx w xs ts) : ∃ A c, v = .slice A ts.length c ∧ ts.length ≤ c ∧ (A = none → ts.length = 0 ∧ c = 0) ∧ Pieces w A ts := by
  obtain ⟨A, c, e, hc, -, hnil, hr, -⟩ := Append.Own.reads hO
  refine ⟨A, c, e, hc, hnil, fun h0 => ?_⟩
  obtain ⟨b, o, e1, hb, hcs⟩ := hr.at_ (by omega)
  refine ⟨b, o, e1, hb, fun i q hq => ?_⟩
  obtain ⟨-, g, cq, a1, a2, a3⟩ := hx i q hq
  exact ⟨some ⟨g, 0, none⟩, cq, hcs i _ a1, a2, a3, fun h => by cases h⟩
end Go.Proofs.YtmdkfhfkdcbpgaaDoorR.RowsT

namespace Go.Proofs.YtmdkfhfkdcbpgaaDoorR.RowsY
open Go Go.RowKit Go.Proofs.YtmdkfhfkdcbpgaaDoorR Go.Proofs.YtmdkfhfkdcbpgaaDoorR.Mem Go.Proofs.YtmdkfhfkdcbpgaaDoorR.Sha Go.Proofs.YtmdkfhfkdcbpgaaDoorR.Bytes Go.Proofs.YtmdkfhfkdcbpgaaDoorR.Append Go.Proofs.YtmdkfhfkdcbpgaaDoorR.TreeMem Go.Proofs.YtmdkfhfkdcbpgaaDoorR.Node Go.Proofs.YtmdkfhfkdcbpgaaDoorR.Texts Go.Proofs.YtmdkfhfkdcbpgaaDoorR.AheadT Go.Proofs.YtmdkfhfkdcbpgaaDoorR.RowsT

/-- A row of texts in memory. -/
def Ty (w : World) (xs : List Value) (ts : List Text) : Prop := ∀ (i : Nat) (q : Text), ts[i]? = some q → 0 < q.length ∧ ∃ g c, xs[i]? = some (.slice (some ⟨g, 0, none⟩) q.length c) ∧ q.length ≤ c ∧ Reads w 1 (some ⟨g, 0, none⟩) q.length (cells8 q)
theorem Tx.ty {w : World} {xs : List Value} {ts : List Text} (h : Tx w xs ts) : Ty w xs ts := fun i q hq => by
  obtain ⟨hl, g, c, a⟩ := h i q hq
  exact ⟨by omega, g, c, a⟩
theorem Ty.nil_ (w : World) : Ty w [] [] := fun i q h => by cases h
theorem Ty.append {w : World} {xs ys : List Value} {ts us : List Text} (h : Ty w xs ts) (k : Ty w ys us) (hl : xs.length = ts.length) : Ty w (xs ++ ys) (ts ++ us) := fun i q hq => by
  rcases Nat.lt_or_ge i ts.length with hi | hi
  · rw [List.getElem?_append_left hi] at hq
    obtain ⟨hl, g, c, a1, a2, a3⟩ := h i q hq
    exact ⟨hl, g, c, by rw [List.getElem?_append_left (by omega)]; exact a1, a2, a3⟩
  · rw [List.getElem?_append_right hi] at hq
    obtain ⟨hl', g, c, a1, a2, a3⟩ := k _ q hq
    exact ⟨hl', g, c, by rw [List.getElem?_append_right (by omega), hl]; exact a1, a2, a3⟩
theorem Ty.below {w w' : World} {xs : List Value} {ts : List Text} (h : Ty w xs ts) (hb : Below w.heap.size w w') : Ty w' xs ts := fun i q hq => by
  obtain ⟨hl, g, c, a1, a2, a3⟩ := h i q hq
  exact ⟨hl, g, c, a1, a2, a3.below hb⟩
theorem Ty.keep {S : Nat → Prop} {w w' : World} {xs : List Value} {ts : List Text} (h : Ty w xs ts) (hk : Kept S w w') (hS : ∀ g, S g → ∃ u, w.cell? ⟨g, 0, none⟩ = some u ∧ ∀ n, u ≠ .int .u8 n) : Ty w' xs ts := fun i q hq => by
  obtain ⟨hl, g, c, b1, b2, b3⟩ := h i q hq
  refine ⟨hl, g, c, b1, b2, b3.kept hk (fun b o e hs => ?_)⟩
  injection e with e
  injection e with e1 e2
  subst e1 e2
  obtain ⟨b', o, e1, -, e2⟩ := b3.at_ (by omega)
  injection e1 with e1
  injection e1 with e3 e4
  subst e3 e4
  obtain ⟨u, hu, hne⟩ := hS _ hs
  have h2 := e2 0 _ (cells8_at q 0 (by omega))
  rw [Nat.add_zero, hu] at h2
  exact hne _ (Option.some.inj h2)
theorem Ty.pieces {w : World} {B : Nat} {v : Value} {xs : List Value} {ts : List Text} (hO : w.ownsRow B 27 1 v ts.length xs) (hx : Ty w xs ts) : ∃ A c, v = .slice A ts.length c ∧ ts.length ≤ c ∧ (A = none → ts.length = 0 ∧ c = 0) ∧ Pieces w A ts := by
  obtain ⟨A, c, e, hc, -, hnil, hr, -⟩ := Append.Own.reads hO
  refine ⟨A, c, e, hc, hnil, fun h0 => ?_⟩
  obtain ⟨b, o, e1, hb, hcs⟩ := hr.at_ (by omega)
  refine ⟨b, o, e1, hb, fun i q hq => ?_⟩
  obtain ⟨-, g, cq, a1, a2, a3⟩ := hx i q hq
  exact ⟨some ⟨g, 0, none⟩, cq, hcs i _ a1, a2, a3, fun h => by cases h⟩
theorem Ty.one {w : World} {B n : Nat} {v : Value} {xs : List Value} {ts : List Text} (hO : w.ownsRow B 27 1 v n xs) (h : Ty w xs ts) (hn : ts.length = n) : ∀ u ∈ xs, u.oneCell' = true := by
  intro u hu
  obtain ⟨j, hj, rfl⟩ := List.mem_iff_getElem.1 hu
  have hl : xs.length = n := by have := hO.1; omega
  obtain ⟨-, g, c, h1, -⟩ := h j _ (List.getElem?_eq_getElem (show j < ts.length by omega))
  rw [List.getElem?_eq_getElem hj] at h1
  rw [Option.some.inj h1]
  rfl
end Go.Proofs.YtmdkfhfkdcbpgaaDoorR.RowsY
