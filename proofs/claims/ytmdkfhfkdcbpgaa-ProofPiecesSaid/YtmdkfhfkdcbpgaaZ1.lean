/-
  Texts of the claim, put into one file: PieceP.
-/

/-
  Pieces of a history, in plain Lean: how many of the events make a piece, and when all of them do.
-/
namespace Go.Proofs.Ytmdkfhfkdcbpgaa.PieceP
/-- An event's length, its proof's size, number and how many digests it has, and whether the two may stand in a piece. -/
structure Item where
  len : Nat
  size : Int
  num : Int
  ways : Nat
  fit : Bool
/-- The program's count: how many items, from the first on, make a piece. -/
def reachFrom (first size : Int) : Nat → Nat → Option Int → List Item → Nat
  | i, _, _, [] => i
  | i, b, p, x :: l =>
    if i = 1000 ∨ 2097152 < b + (12 + x.len + 32 * x.ways) ∨ x.fit = false ∨ x.size ≠ size ∨ size - i - 1 < first then i
    else if (∃ y, p = some y ∧ x.num ≤ y) then i
    else reachFrom first size (i + 1) (b + (12 + x.len + 32 * x.ways)) (some x.num) l
/-- Does a number not rise behind the one ahead of it? -/
def low : Option Int → Int → Bool
  | none, _ => false
  | some y, x => decide (x ≤ y)
theorem low_iff (p : Option Int) (x : Int) : low p x = decide (∃ y, p = some y ∧ x ≤ y) := by
  cases p with
  | none => simp [low]
  | some y => simp [low]
/-- The document's round over the items: none is refused, and the bytes stay below the most. -/
def goodFrom (size : Int) : Nat → Option Int → List Item → Bool
  | _, _, [] => true
  | b, p, x :: l => (x.fit && decide (x.size = size)) && (!low p x.num && (decide (b + (12 + x.len + 32 * x.ways) ≤ 2097152) && goodFrom size (b + (12 + x.len + 32 * x.ways)) (some x.num) l))
/-- All items make a piece exactly where the document refuses none, they are few, and the first number lies low enough. -/
theorem reach_all (first size : Int) : ∀ (l : List Item) (i b : Nat) (p : Option Int), 0 < l.length → i ≤ 1000 → (reachFrom first size i b p l = i + l.length ↔ goodFrom size b p l = true ∧ i + l.length ≤ 1000 ∧ first ≤ size - (i + l.length : Nat)) := by
  intro l
  induction l with
  | nil => intro i b p h; cases h
  | cons x l ih =>
    intro i b p _ hi
    have hr : reachFrom first size i b p (x :: l) = if i = 1000 ∨ 2097152 < b + (12 + x.len + 32 * x.ways) ∨ x.fit = false ∨ x.size ≠ size ∨ size - i - 1 < first then i else if (∃ y, p = some y ∧ x.num ≤ y) then i else reachFrom first size (i + 1) (b + (12 + x.len + 32 * x.ways)) (some x.num) l := rfl
    have hg : goodFrom size b p (x :: l) = ((x.fit && decide (x.size = size)) && (!low p x.num && (decide (b + (12 + x.len + 32 * x.ways) ≤ 2097152) && goodFrom size (b + (12 + x.len + 32 * x.ways)) (some x.num) l))) := rfl
    rw [hr, hg, low_iff]
    clear hr hg
    simp only [List.length_cons]
    generalize b + (12 + x.len + 32 * x.ways) = b'
    by_cases h1 : i = 1000 ∨ 2097152 < b' ∨ x.fit = false ∨ x.size ≠ size ∨ size - i - 1 < first
    · rw [if_pos h1]
      constructor
      · intro h; omega
      · rintro ⟨h2, h3, h5⟩
        simp only [Bool.and_eq_true, decide_eq_true_eq] at h2
        obtain ⟨⟨h6, h7⟩, -, h8, -⟩ := h2
        rcases h1 with h | h | h | h | h
        · omega
        · omega
        · rw [h] at h6; cases h6
        · exact absurd h7 h
        · omega
    · rw [if_neg h1]
      simp only [not_or] at h1
      obtain ⟨a1, a2, a3, a4, a5⟩ := h1
      have a3 : x.fit = true := by cases hh : x.fit with | true => rfl | false => exact absurd hh a3
      have a4 : x.size = size := Classical.not_not.1 a4
      by_cases h2 : ∃ y, p = some y ∧ x.num ≤ y
      · rw [if_pos h2, decide_eq_true h2]
        constructor
        · intro h; omega
        · rintro ⟨h, -⟩
          simp at h
      · rw [if_neg h2, decide_eq_false h2, a3, decide_eq_true a4, decide_eq_true (show b' ≤ 2097152 by omega)]
        simp only [Bool.true_and, Bool.not_false]
        cases l with
        | nil =>
          simp only [List.length_nil, reachFrom, goodFrom]
          exact ⟨fun _ => ⟨by trivial, by omega, by omega⟩, fun _ => by first | rfl | trivial | omega⟩
        | cons z l =>
          have h := ih (i + 1) b' (some x.num) (by simp) (by omega)
          simp only [List.length_cons] at h ⊢
          constructor
          · intro hh
            have := h.1 (by omega)
            exact ⟨this.1, by omega, by omega⟩
          · rintro ⟨g1, g2, g4⟩
            have := h.2 ⟨g1, by omega, by omega⟩
            omega
/-- One round of the count: it ends here for one of five reasons, or for the number, or it goes on. -/
theorem reach_stop {first size : Int} {i b : Nat} {p : Option Int} {x : Item} {l : List Item} (h : i = 1000 ∨ 2097152 < b + (12 + x.len + 32 * x.ways) ∨ x.fit = false ∨ x.size ≠ size ∨ size - i - 1 < first) : reachFrom first size i b p (x :: l) = i := by
  rw [reachFrom, if_pos h]
theorem reach_low {first size : Int} {i b : Nat} {p : Option Int} {x : Item} {l : List Item} (h : low p x.num = true) : reachFrom first size i b p (x :: l) = i := by
  rw [low_iff] at h
  rw [reachFrom, if_pos (of_decide_eq_true h)]
  split <;> rfl
theorem reach_on {first size : Int} {i b : Nat} {p : Option Int} {x : Item} {l : List Item} (h : ¬ (i = 1000 ∨ 2097152 < b + (12 + x.len + 32 * x.ways) ∨ x.fit = false ∨ x.size ≠ size ∨ size - i - 1 < first)) (h2 : low p x.num = false) : reachFrom first size i b p (x :: l) = reachFrom first size (i + 1) (b + (12 + x.len + 32 * x.ways)) (some x.num) l := by
  rw [low_iff] at h2
  rw [reachFrom, if_neg h, if_neg (of_decide_eq_false h2)]
end Go.Proofs.Ytmdkfhfkdcbpgaa.PieceP
