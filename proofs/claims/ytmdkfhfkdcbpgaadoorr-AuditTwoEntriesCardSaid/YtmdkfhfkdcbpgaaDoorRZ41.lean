/-
  Texts of the claim, put into one file: Way20.
-/
import Derived.Test.YtmdkfhfkdcbpgaaDoorRZ34

namespace Go.Proofs.YtmdkfhfkdcbpgaaDoorR.Way20
open Go Go.RowKit Go.Proofs.YtmdkfhfkdcbpgaaDoorR Mem Sha Bytes Go.Proofs.YtmdkfhfkdcbpgaaDoorR.Append HashMem DigestMem Digest RefCut RefTop QuietTail Grown Chain TreeMem TreeRoot Held Guard Sides Node Climb Incl Include Texts RefIncl0 RefIncl Ref17 Book Book2 AudIncl

def TxP (w : World) (A : Option Addr) (n : Nat) (ts : List Text) : Prop :=
 ∃ xs, ts.length = n ∧ Reads w 1 A n xs ∧ ∀ (i : Nat) (q : Text), ts[i]? = some q → 32 < q.length ∧ ∃ g c, xs[i]? = some (.slice (some ⟨g, 0, none⟩) q.length c) ∧ q.length ≤ c ∧ Reads w 1 (some ⟨g, 0, none⟩) q.length (cells8 q)
theorem TxP.below {w w' : World} {A : Option Addr} {n : Nat} {ts : List Text} (h : TxP w A n ts) (hb : Below w.heap.size w w') : TxP w' A n ts := by
 obtain ⟨xs, h1, h2, h3⟩ := h
 refine ⟨xs, h1, h2.below hb, fun i q hq => ?_⟩
 obtain ⟨hl, g, c, a1, a2, a3⟩ := h3 i q hq
 exact ⟨hl, g, c, a1, a2, a3.below hb⟩
theorem TxP.keptN {w w' : World} {A : Option Addr} {n m : Nat} {ts : List Text} (h : TxP w A n ts) (hB : Blk w m 23 Z32) (hk : Kept (· = m) w w') : TxP w' A n ts := by
 obtain ⟨xs, h1, h2, h3⟩ := h
 refine ⟨xs, h1, h2.kept0 hk (fun h0 b o e hbm => ?_), fun i q hq => ?_⟩
 ·have hbm : b = m := hbm
  subst hbm
  obtain ⟨b', o', e', -, hc⟩ := h2.at_ h0
  rw [e] at e'
  injection e' with e'
  injection e' with e1 e2
  subst e1 e2
  obtain ⟨q, hq⟩ : ∃ q, ts[0]? = some q := ⟨_, List.getElem?_eq_getElem (by omega)⟩
  obtain ⟨-, g, c, a1, -⟩ := h3 0 q hq
  have h5 := hc 0 _ a1
  rw [hB.cell] at h5
  have h6 : ∀ (j : Nat) (v : Value), (Z32 : Array Value)[j]? = some v → v = .int .u8 0 := by
   intro j v hv
   have := Array.mem_of_getElem? hv
   simp [Z32] at this
   exact this
  have := h6 _ _ h5
  cases this
 ·obtain ⟨hl, g, c, a1, a2, a3⟩ := h3 i q hq
  refine ⟨hl, g, c, a1, a2, a3.kept hk (fun b o e hbm => ?_)⟩
  have hbm : b = m := hbm
  subst hbm
  injection e with e
  injection e with e1 e2
  subst e1 e2
  obtain ⟨b', o', e', -, hc⟩ := a3.at_ (by omega)
  injection e' with e'
  injection e' with e1 e2
  subst e1 e2
  have h5 := hc 32 _ (cells8_at q 32 hl)
  rw [hB.cell] at h5
  simp [Z32] at h5
theorem TxP.mk_ {w : World} {M : Nat → Prop} {gc : Nat} {r : Option Nat} {v : Value} {xs : List Value} {ts : List Text} {base : Nat} (hO : w.ownsRow base 27 1 v ts.length xs) (hx : Txs M w gc r xs ts) (hl : ∀ q ∈ ts, q.length = 65) : ∃ A c, v = .slice A ts.length c ∧ (A = none → ts.length = 0 ∧ c = 0) ∧ TxP w A ts.length ts := by
 obtain ⟨A, c, e, -, -, hnil, hr, -⟩ := Append.Own.reads hO
 refine ⟨A, c, e, hnil, xs, rfl, hr, fun i q hq => ?_⟩
 obtain ⟨g, cq, a1, a2, a3, -⟩ := hx i q hq
 exact ⟨by rw [hl q (List.mem_of_getElem? hq)]; decide, g, cq, a1, a2, a3⟩
theorem inclOf_texts (s size i : Int) (leaf : Text) (ds : List Text) (hl : leaf.length = 32) (hd : Digs ds) : (inclOf s size i leaf [] ds).2.2.length ≤ ds.length ∧ ∀ q ∈ (inclOf s size i leaf [] ds).2.2, q.length = 65 := by
 unfold inclOf
 split
 ·exact ⟨Nat.zero_le _, fun q h => by cases h⟩
 ·split
  ·exact ⟨Nat.zero_le _, fun q h => by cases h⟩
  ·rename_i h
   have h2 : (sides size.toNat i.toNat).length = ds.length := by omega
   have hz : ((sides size.toNat i.toNat).zip ds).length = ds.length := by rw [List.length_zip]; omega
   refine ⟨by rw [show _ = _ from (climbN_len (s := s) (st := (leaf, [])) (l := (sides size.toNat i.toNat).zip ds) hl ds.length (by omega)).2]; simp, ?_⟩
   exact climbN_long hl (fun q h => by cases h) (fun p hp => hd _ (List.of_mem_zip (show (p.1, p.2) ∈ _ from hp)).2) ds.length (by omega)
theorem one_piece {w : World} {A : Option Addr} {k c : Nat} {q : Text} (h : Reads w 1 A k (cells8 q)) (hk : q.length = k) (hkc : k ≤ c) (hnil : A = none → k = 0 ∧ c = 0) : Pieces (w.alloc (.cells #[.slice A k c] 27)) (some ⟨w.heap.size, 0, none⟩) [q] := fun _ => by
 have hB := Blk.new w 27 #[.slice A k c]
 refine ⟨w.heap.size, 0, rfl, hB.lt, fun i p hp => ?_⟩
 match i with
 | 0 =>
  obtain rfl := Option.some.inj hp
  exact ⟨A, c, by rw [hB.cell, hk]; rfl, by omega, by rw [hk]; exact h.alloc _, fun e => by have := hnil e; omega⟩
 | i + 1 => simp at hp
end Go.Proofs.YtmdkfhfkdcbpgaaDoorR.Way20
