/-
  Texts of the claim, put into one file: PieceP.
-/

/-
  Pieces of a history, in plain Lean: how many of the events make a piece, and when all of them do.
-/
namespace Go.Proofs.YthkdlaohaekilaaDoor.PieceP
/-- An event's length, its proof's size, number and how many digests it has, and whether the two may stand in a piece. -/
structure Item where
  len : Nat
  size : Int
  num : Int
  ways : Nat
  fit : Bool
/-- The program's count: how many items, from the first on, make a piece. -/
def reachFrom (first size : Int) : Nat → Nat → Option Int → List Item → Nat
  | i, _, _, [] => i
  | i, b, p, x :: l =>
    if i = 1000 ∨ 2097152 < b + (12 + x.len + 32 * x.ways) ∨ x.fit = false ∨ x.size ≠ size ∨ size - i - 1 < first then i
    else if (∃ y, p = some y ∧ x.num ≤ y) then i
    else reachFrom first size (i + 1) (b + (12 + x.len + 32 * x.ways)) (some x.num) l
/-- Does a number not rise behind the one ahead of it? -/
def low : Option Int → Int → Bool
  | none, _ => false
  | some y, x => decide (x ≤ y)
theorem low_iff (p : Option Int) (x : Int) : low p x = decide (∃ y, p = some y ∧ x ≤ y) := by
  cases p with
  | none => simp [low]
  | some y => simp [low]
/-- The document's round over the items: none is refused, and the bytes stay below the most. -/
def goodFrom (size : Int) : Nat → Option Int → List Item → Bool
  | _, _, [] => true
  | b, p, x :: l => (x.fit && decide (x.size = size)) && (!low p x.num && (decide (b + (12 + x.len + 32 * x.ways) ≤ 2097152) && goodFrom size (b + (12 + x.len + 32 * x.ways)) (some x.num) l))
theorem reach_le (first size : Int) : ∀ (l : List Item) (i b : Nat) (p : Option Int), reachFrom first size i b p l ≤ i + l.length := by
  intro l
  induction l with
  | nil => intro i b p; exact Nat.le_refl _
  | cons x l ih =>
    intro i b p
    unfold reachFrom
    split
    · omega
    · split
      · omega
      · have := ih (i + 1) (b + (12 + x.len + 32 * x.ways)) (some x.num)
        simp only [List.length_cons]
        omega
theorem reach_ge (first size : Int) : ∀ (l : List Item) (i b : Nat) (p : Option Int), i ≤ reachFrom first size i b p l := by
  intro l
  induction l with
  | nil => intro i b p; exact Nat.le_refl _
  | cons x l ih =>
    intro i b p
    unfold reachFrom
    split
    · exact Nat.le_refl _
    · split
      · exact Nat.le_refl _
      · have := ih (i + 1) (b + (12 + x.len + 32 * x.ways)) (some x.num)
        omega
/-- The document's count: how many items, from the first on, it cuts off. -/
def cutFrom (first : Int) : Nat → Int → List Item → Nat
  | n, _, [] => n
  | n, r, x :: l =>
    if n = 1000 then n
    else if r - (12 + x.len + 32 * x.ways : Nat) < 0 ∨ x.fit = false ∨ x.size - n - 1 < first then n
    else cutFrom first (n + 1) (r - (12 + x.len + 32 * x.ways : Nat)) l
/-- Do all items have one size, and rise from one to the next? -/
def rises (size : Int) : Option Int → List Item → Bool
  | _, [] => true
  | p, x :: l => decide (x.size = size) && (!low p x.num && rises size (some x.num) l)
theorem cut_reach (first size : Int) : ∀ (l : List Item) (i b : Nat) (p : Option Int) (r : Int), rises size p l = true → r = 2097152 - (b : Int) → reachFrom first size i b p l = cutFrom first i r l := by
  intro l
  induction l with
  | nil => intro i b p r _ _; rfl
  | cons x l ih =>
    intro i b p r hup hr
    have e1 : reachFrom first size i b p (x :: l) = if i = 1000 ∨ 2097152 < b + (12 + x.len + 32 * x.ways) ∨ x.fit = false ∨ x.size ≠ size ∨ size - i - 1 < first then i else if (∃ y, p = some y ∧ x.num ≤ y) then i else reachFrom first size (i + 1) (b + (12 + x.len + 32 * x.ways)) (some x.num) l := rfl
    have e2 : cutFrom first i r (x :: l) = if i = 1000 then i else if r - (12 + x.len + 32 * x.ways : Nat) < 0 ∨ x.fit = false ∨ x.size - i - 1 < first then i else cutFrom first (i + 1) (r - (12 + x.len + 32 * x.ways : Nat)) l := rfl
    have hup : (decide (x.size = size) && (!low p x.num && rises size (some x.num) l)) = true := hup
    simp only [Bool.and_eq_true, decide_eq_true_eq, low_iff, Bool.not_eq_true', decide_eq_false_iff_not] at hup
    obtain ⟨hs, hl, hu⟩ := hup
    rw [e1, e2, if_neg hl]
    clear e1 e2
    have ih := ih (i + 1) (b + (12 + x.len + 32 * x.ways)) (some x.num) (r - (12 + x.len + 32 * x.ways : Nat)) hu
    generalize 12 + x.len + 32 * x.ways = k at ih ⊢
    have ih := ih (by omega)
    by_cases h0 : i = 1000
    · rw [if_pos (.inl h0), if_pos h0]
    · rw [if_neg h0]
      by_cases h1 : r - (k : Int) < 0 ∨ x.fit = false ∨ x.size - i - 1 < first
      · rw [if_pos h1, if_pos (by
          rcases h1 with h | h | h
          · exact .inr (.inl (by omega))
          · exact .inr (.inr (.inl h))
          · exact .inr (.inr (.inr (.inr (by omega)))))]
      · rw [if_neg h1, if_neg (by
          rintro (h | h | h | h | h)
          · exact h0 h
          · exact h1 (.inl (by omega))
          · exact h1 (.inr (.inl h))
          · exact h hs
          · exact h1 (.inr (.inr (by omega))))]
        exact ih
/-- What is cut off somewhere rises too. -/
theorem rises_drop (size : Int) : ∀ (l : List Item) (p : Option Int) (n : Nat), rises size p l = true → rises size none (l.drop n) = true := by
  intro l
  induction l with
  | nil => intro p n _; simp [rises]
  | cons x l ih =>
    intro p n h
    have h : (decide (x.size = size) && (!low p x.num && rises size (some x.num) l)) = true := h
    simp only [Bool.and_eq_true] at h
    obtain ⟨h1, h2, h3⟩ := h
    cases n with
    | zero =>
      show (decide (x.size = size) && (!low none x.num && rises size (some x.num) l)) = true
      rw [h1, h3]
      rfl
    | succ n => exact ih (some x.num) n h3
/-- One round of the count: it ends here for one of five reasons, or for the number, or it goes on. -/
theorem reach_stop {first size : Int} {i b : Nat} {p : Option Int} {x : Item} {l : List Item} (h : i = 1000 ∨ 2097152 < b + (12 + x.len + 32 * x.ways) ∨ x.fit = false ∨ x.size ≠ size ∨ size - i - 1 < first) : reachFrom first size i b p (x :: l) = i := by
  rw [reachFrom, if_pos h]
theorem reach_low {first size : Int} {i b : Nat} {p : Option Int} {x : Item} {l : List Item} (h : low p x.num = true) : reachFrom first size i b p (x :: l) = i := by
  rw [low_iff] at h
  rw [reachFrom, if_pos (of_decide_eq_true h)]
  split <;> rfl
theorem reach_on {first size : Int} {i b : Nat} {p : Option Int} {x : Item} {l : List Item} (h : ¬ (i = 1000 ∨ 2097152 < b + (12 + x.len + 32 * x.ways) ∨ x.fit = false ∨ x.size ≠ size ∨ size - i - 1 < first)) (h2 : low p x.num = false) : reachFrom first size i b p (x :: l) = reachFrom first size (i + 1) (b + (12 + x.len + 32 * x.ways)) (some x.num) l := by
  rw [low_iff] at h2
  rw [reachFrom, if_neg h, if_neg (of_decide_eq_false h2)]
end Go.Proofs.YthkdlaohaekilaaDoor.PieceP
