/-
  Texts of the claim, put into one file: AskP, ProveP.
-/
import Derived.Test.YtgldkfaiofkhbaaDoorZ33
import Derived.Test.YtgldkfaiofkhbaaDoorZ35
import Derived.Test.YtgldkfaiofkhbaaDoorZ34
import Derived.Test.YtgldkfaiofkhbaaDoorZ0

namespace Go.Proofs.YtgldkfaiofkhbaaDoor.AskP
open Go Go.RowKit Go.Proofs.YtgldkfaiofkhbaaDoor Go.Proofs.YtgldkfaiofkhbaaDoor.Mem Go.Proofs.YtgldkfaiofkhbaaDoor.Sha Go.Proofs.YtgldkfaiofkhbaaDoor.Bytes Go.Proofs.YtgldkfaiofkhbaaDoor.DigestMem Go.Proofs.YtgldkfaiofkhbaaDoor.TreeMem Go.Proofs.YtgldkfaiofkhbaaDoor.TreeRoot Go.Proofs.YtgldkfaiofkhbaaDoor.TreeMath Go.Proofs.YtgldkfaiofkhbaaDoor.WayRows Go.Proofs.YtgldkfaiofkhbaaDoor.SpotsMath Go.Proofs.YtgldkfaiofkhbaaDoor.SpotsWalk

/-- Each spot of a row lies below the row's end. -/
theorem spots_inside : ∀ (f a b : Nat), ∀ p ∈ spots f a b, p.1 ≤ 40 ∧ (p.2 + 1) * 2 ^ p.1 ≤ b
  | 0, _, _, p, h => by cases h
  | f + 1, a, b, p, h => by
    unfold spots at h
    by_cases hab : a < b
    · rw [if_pos hab, List.mem_cons] at h
      rcases h with rfl | h
      · have h1 := index_mul hab
        have h2 := (lev_fits hab).2
        exact ⟨lev_le hab, by simp only; rw [Nat.add_mul, h1, Nat.one_mul]; exact h2⟩
      · exact spots_inside f _ b p h
    · rw [if_neg hab] at h
      cases h
/-- A row's digest, by what dg tells of its spots. -/
def partD (s : Int) (dg : Nat × Nat → Text) (p : Nat × Nat) : Text := foldOf s ((spots (p.2 - p.1) p.1 p.2).map dg)
def partsD (s : Int) (dg : Nat × Nat → Text) (ps : List (Nat × Nat)) : List Text := ps.map (partD s dg)
theorem map_snoc {α β : Type} (f : α → β) (l : List α) (i : Nat) (p : α) (h : l[i]? = some p) : (l.take (i + 1)).map f = (l.take i).map f ++ [f p] := by
  rw [List.take_add_one, h, List.map_append]
  rfl
theorem digs_map {α : Type} {dg : α → Text} (h : ∀ p, (dg p).length = 32) (l : List α) : Digs (l.map dg) := fun d hd => by
  obtain ⟨p, _, rfl⟩ := List.mem_map.1 hd
  exact h p
end Go.Proofs.YtgldkfaiofkhbaaDoor.AskP

namespace Go.Proofs.YtgldkfaiofkhbaaDoor.ProveP
open Go Go.RowKit Go.Proofs.YtgldkfaiofkhbaaDoor Go.Proofs.YtgldkfaiofkhbaaDoor.Mem Go.Proofs.YtgldkfaiofkhbaaDoor.Sha Go.Proofs.YtgldkfaiofkhbaaDoor.Bytes Go.Proofs.YtgldkfaiofkhbaaDoor.DigestMem Go.Proofs.YtgldkfaiofkhbaaDoor.TreeMem Go.Proofs.YtgldkfaiofkhbaaDoor.TreeRoot Go.Proofs.YtgldkfaiofkhbaaDoor.TreeMath Go.Proofs.YtgldkfaiofkhbaaDoor.WayRows Go.Proofs.YtgldkfaiofkhbaaDoor.RowsP Go.Proofs.YtgldkfaiofkhbaaDoor.Subs Go.Proofs.YtgldkfaiofkhbaaDoor.WayP Go.Proofs.YtgldkfaiofkhbaaDoor.AskP

theorem inside_true {size i : Int} (h : insideB size i = true) : 1 ≤ size ∧ size ≤ 1099511627776 ∧ 0 ≤ i ∧ i < size := by
  unfold insideB at h
  simp only [Bool.and_eq_true, decide_eq_true_eq] at h
  omega
theorem joins_true {x y : Int} (h : joinsB x y = true) : 0 ≤ x ∧ x ≤ y ∧ y ≤ 1099511627776 := by
  unfold joinsB at h
  simp only [Bool.and_eq_true, decide_eq_true_eq] at h
  omega
/-- The rows that an inclusion proof names, the refusal; a consistency proof's. -/
def inclRows (size i : Int) : List (Nat × Nat) := if insideB size i = true then wayR 0 size.toNat i.toNat else []
def inclE (size i : Int) : Int := if insideB size i = true then 0 else 60
def consRows (old size : Int) : List (Nat × Nat) := if joinsB old size = true then partsOf old.toNat size.toNat else []
def consE (old size : Int) : Int := if joinsB old size = true then 0 else 60
theorem rowsN_in : ∀ (f fr tu old : Nat) (kn : Bool), fr < old → old ≤ tu → ∀ p ∈ rowsN f fr tu old kn, fr ≤ p.1 ∧ p.1 ≤ p.2 ∧ p.2 ≤ tu
  | 0, _, _, _, _, _, _, p, h => by cases h
  | f + 1, fr, tu, old, kn, h1, h2, p, h => by
    unfold rowsN at h
    by_cases he : old = tu
    · rw [if_pos he] at h
      cases kn with
      | true => rw [if_pos rfl] at h; cases h
      | false =>
        rw [if_neg (by decide), List.mem_singleton] at h
        subst h
        simp only
        omega
    · have hlt := half_lt (n := tu - fr) (by omega)
      have hpos := half_pos (tu - fr)
      rw [if_neg he] at h
      by_cases hl : old - fr ≤ half (tu - fr)
      · rw [if_pos hl, List.mem_append, List.mem_singleton] at h
        rcases h with h | rfl
        · have := rowsN_in f fr (fr + half (tu - fr)) old kn h1 (by omega) p h
          omega
        · simp only; omega
      · rw [if_neg hl, List.mem_append, List.mem_singleton] at h
        rcases h with h | rfl
        · have := rowsN_in f (fr + half (tu - fr)) tu old false (by omega) h2 p h
          omega
        · simp only; omega
theorem inclRows_in {size i : Int} : ∀ p ∈ inclRows size i, p.1 ≤ p.2 ∧ p.2 ≤ size.toNat := fun p hp => by
  unfold inclRows at hp
  by_cases h : insideB size i = true
  · rw [if_pos h] at hp
    have := wayN_in _ _ _ _ p hp
    omega
  · rw [if_neg h] at hp
    cases hp
theorem consRows_in {old size : Int} : ∀ p ∈ consRows old size, p.1 ≤ p.2 ∧ p.2 ≤ size.toNat := fun p hp => by
  unfold consRows at hp
  by_cases h : joinsB old size = true
  · rw [if_pos h] at hp
    have hj := joins_true h
    unfold partsOf at hp
    by_cases h0 : old.toNat = 0 ∨ old.toNat = size.toNat
    · rw [if_pos h0] at hp; cases hp
    · rw [if_neg h0] at hp
      have := rowsN_in _ 0 size.toNat old.toNat true (by omega) (by omega) p hp
      omega
  · rw [if_neg h] at hp
    cases hp
theorem wayN_len : ∀ (f a b i : Nat), (wayN f a b i).length ≤ f
  | 0, _, _, _ => Nat.le_refl _
  | f + 1, a, b, i => by
    unfold wayN
    split
    · simp
    · split
      · rw [List.length_append]; have := wayN_len f a (a + half (b - a)) i; simp; omega
      · rw [List.length_append]; have := wayN_len f (a + half (b - a)) b i; simp; omega
theorem rowsN_len : ∀ (f fr tu old : Nat) (kn : Bool), (rowsN f fr tu old kn).length ≤ f
  | 0, _, _, _, _ => Nat.le_refl _
  | f + 1, fr, tu, old, kn => by
    unfold rowsN
    split
    · split <;> simp
    · split
      · rw [List.length_append]; have := rowsN_len f fr (fr + half (tu - fr)) old kn; simp; omega
      · rw [List.length_append]; have := rowsN_len f (fr + half (tu - fr)) tu old false; simp; omega
theorem inclRows_len (size i : Int) : (inclRows size i).length ≤ 1099511627776 := by
  unfold inclRows
  by_cases h : insideB size i = true
  · rw [if_pos h]
    have := inside_true h
    have := wayN_len (size.toNat - 0) 0 size.toNat i.toNat
    unfold wayR
    omega
  · rw [if_neg h]; simp
theorem consRows_len (old size : Int) : (consRows old size).length ≤ 1099511627776 := by
  unfold consRows
  by_cases h : joinsB old size = true
  · rw [if_pos h]
    have := joins_true h
    unfold partsOf
    split
    · simp
    · have := rowsN_len (size.toNat - 0) 0 size.toNat old.toNat true
      unfold rowsL
      omega
  · rw [if_neg h]; simp
end Go.Proofs.YtgldkfaiofkhbaaDoor.ProveP
