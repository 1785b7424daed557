/-
  Texts of the claim, put into one file: PieceP, SpotsMath.
-/
import Derived.Lib.ItoaNum
import Derived.Lib.TrailingZeros

/-
  Pieces of a history, in plain Lean: how many of the events make a piece, and when all of them do.
-/
namespace Go.Proofs.YtgldkfaiofkhbaaDoor.PieceP
/-- An event's length, its proof's size, number and how many digests it has, and whether the two may stand in a piece. -/
structure Item where
  len : Nat
  size : Int
  num : Int
  ways : Nat
  fit : Bool
/-- The program's count: how many items, from the first on, make a piece. -/
def reachFrom (first size : Int) : Nat → Nat → Option Int → List Item → Nat
  | i, _, _, [] => i
  | i, b, p, x :: l =>
    if i = 1000 ∨ 2097152 < b + (12 + x.len + 32 * x.ways) ∨ x.fit = false ∨ x.size ≠ size ∨ size - i - 1 < first then i
    else if (∃ y, p = some y ∧ x.num ≤ y) then i
    else reachFrom first size (i + 1) (b + (12 + x.len + 32 * x.ways)) (some x.num) l
/-- Does a number not rise behind the one ahead of it? -/
def low : Option Int → Int → Bool
  | none, _ => false
  | some y, x => decide (x ≤ y)
theorem low_iff (p : Option Int) (x : Int) : low p x = decide (∃ y, p = some y ∧ x ≤ y) := by
  cases p with
  | none => simp [low]
  | some y => simp [low]
/-- The document's round over the items: none is refused, and the bytes stay below the most. -/
def goodFrom (size : Int) : Nat → Option Int → List Item → Bool
  | _, _, [] => true
  | b, p, x :: l => (x.fit && decide (x.size = size)) && (!low p x.num && (decide (b + (12 + x.len + 32 * x.ways) ≤ 2097152) && goodFrom size (b + (12 + x.len + 32 * x.ways)) (some x.num) l))
theorem reach_le (first size : Int) : ∀ (l : List Item) (i b : Nat) (p : Option Int), reachFrom first size i b p l ≤ i + l.length := by
  intro l
  induction l with
  | nil => intro i b p; exact Nat.le_refl _
  | cons x l ih =>
    intro i b p
    unfold reachFrom
    split
    · omega
    · split
      · omega
      · have := ih (i + 1) (b + (12 + x.len + 32 * x.ways)) (some x.num)
        simp only [List.length_cons]
        omega
theorem reach_ge (first size : Int) : ∀ (l : List Item) (i b : Nat) (p : Option Int), i ≤ reachFrom first size i b p l := by
  intro l
  induction l with
  | nil => intro i b p; exact Nat.le_refl _
  | cons x l ih =>
    intro i b p
    unfold reachFrom
    split
    · exact Nat.le_refl _
    · split
      · exact Nat.le_refl _
      · have := ih (i + 1) (b + (12 + x.len + 32 * x.ways)) (some x.num)
        omega
/-- All items make a piece exactly where the document refuses none, they are few, and the first number lies low enough. -/
theorem reach_all (first size : Int) : ∀ (l : List Item) (i b : Nat) (p : Option Int), 0 < l.length → i ≤ 1000 → (reachFrom first size i b p l = i + l.length ↔ goodFrom size b p l = true ∧ i + l.length ≤ 1000 ∧ first ≤ size - (i + l.length : Nat)) := by
  intro l
  induction l with
  | nil => intro i b p h; cases h
  | cons x l ih =>
    intro i b p _ hi
    have hr : reachFrom first size i b p (x :: l) = if i = 1000 ∨ 2097152 < b + (12 + x.len + 32 * x.ways) ∨ x.fit = false ∨ x.size ≠ size ∨ size - i - 1 < first then i else if (∃ y, p = some y ∧ x.num ≤ y) then i else reachFrom first size (i + 1) (b + (12 + x.len + 32 * x.ways)) (some x.num) l := rfl
    have hg : goodFrom size b p (x :: l) = ((x.fit && decide (x.size = size)) && (!low p x.num && (decide (b + (12 + x.len + 32 * x.ways) ≤ 2097152) && goodFrom size (b + (12 + x.len + 32 * x.ways)) (some x.num) l))) := rfl
    rw [hr, hg, low_iff]
    clear hr hg
    simp only [List.length_cons]
    generalize b + (12 + x.len + 32 * x.ways) = b'
    by_cases h1 : i = 1000 ∨ 2097152 < b' ∨ x.fit = false ∨ x.size ≠ size ∨ size - i - 1 < first
    · rw [if_pos h1]
      constructor
      · intro h; omega
      · rintro ⟨h2, h3, h5⟩
        simp only [Bool.and_eq_true, decide_eq_true_eq] at h2
        obtain ⟨⟨h6, h7⟩, -, h8, -⟩ := h2
        rcases h1 with h | h | h | h | h
        · omega
        · omega
        · rw [h] at h6; cases h6
        · exact absurd h7 h
        · omega
    · rw [if_neg h1]
      simp only [not_or] at h1
      obtain ⟨a1, a2, a3, a4, a5⟩ := h1
      have a3 : x.fit = true := by cases hh : x.fit with | true => rfl | false => exact absurd hh a3
      have a4 : x.size = size := Classical.not_not.1 a4
      by_cases h2 : ∃ y, p = some y ∧ x.num ≤ y
      · rw [if_pos h2, decide_eq_true h2]
        constructor
        · intro h; omega
        · rintro ⟨h, -⟩
          simp at h
      · rw [if_neg h2, decide_eq_false h2, a3, decide_eq_true a4, decide_eq_true (show b' ≤ 2097152 by omega)]
        simp only [Bool.true_and, Bool.not_false]
        cases l with
        | nil =>
          simp only [List.length_nil, reachFrom, goodFrom]
          exact ⟨fun _ => ⟨by trivial, by omega, by omega⟩, fun _ => by first | rfl | trivial | omega⟩
        | cons z l =>
          have h := ih (i + 1) b' (some x.num) (by simp) (by omega)
          simp only [List.length_cons] at h ⊢
          constructor
          · intro hh
            have := h.1 (by omega)
            exact ⟨this.1, by omega, by omega⟩
          · rintro ⟨g1, g2, g4⟩
            have := h.2 ⟨g1, by omega, by omega⟩
            omega
/-- Do all items have one size, and rise from one to the next? -/
def rises (size : Int) : Option Int → List Item → Bool
  | _, [] => true
  | p, x :: l => decide (x.size = size) && (!low p x.num && rises size (some x.num) l)
/-- What is cut off somewhere rises too. -/
theorem rises_drop (size : Int) : ∀ (l : List Item) (p : Option Int) (n : Nat), rises size p l = true → rises size none (l.drop n) = true := by
  intro l
  induction l with
  | nil => intro p n _; simp [rises]
  | cons x l ih =>
    intro p n h
    have h : (decide (x.size = size) && (!low p x.num && rises size (some x.num) l)) = true := h
    simp only [Bool.and_eq_true] at h
    obtain ⟨h1, h2, h3⟩ := h
    cases n with
    | zero =>
      show (decide (x.size = size) && (!low none x.num && rises size (some x.num) l)) = true
      rw [h1, h3]
      rfl
    | succ n => exact ih (some x.num) n h3
/-- One round of the count: it ends here for one of five reasons, or for the number, or it goes on. -/
theorem reach_stop {first size : Int} {i b : Nat} {p : Option Int} {x : Item} {l : List Item} (h : i = 1000 ∨ 2097152 < b + (12 + x.len + 32 * x.ways) ∨ x.fit = false ∨ x.size ≠ size ∨ size - i - 1 < first) : reachFrom first size i b p (x :: l) = i := by
  rw [reachFrom, if_pos h]
theorem reach_low {first size : Int} {i b : Nat} {p : Option Int} {x : Item} {l : List Item} (h : low p x.num = true) : reachFrom first size i b p (x :: l) = i := by
  rw [low_iff] at h
  rw [reachFrom, if_pos (of_decide_eq_true h)]
  split <;> rfl
theorem reach_on {first size : Int} {i b : Nat} {p : Option Int} {x : Item} {l : List Item} (h : ¬ (i = 1000 ∨ 2097152 < b + (12 + x.len + 32 * x.ways) ∨ x.fit = false ∨ x.size ≠ size ∨ size - i - 1 < first)) (h2 : low p x.num = false) : reachFrom first size i b p (x :: l) = reachFrom first size (i + 1) (b + (12 + x.len + 32 * x.ways)) (some x.num) l := by
  rw [low_iff] at h2
  rw [reachFrom, if_neg h, if_neg (of_decide_eq_false h2)]
end Go.Proofs.YtgldkfaiofkhbaaDoor.PieceP

namespace Go.Proofs.YtgldkfaiofkhbaaDoor.SpotsMath
open Go

/-- The spot of that level fits at a, below b. -/
def Fits (a b L : Nat) : Prop := a % 2 ^ L = 0 ∧ a + 2 ^ L ≤ b

instance (a b L : Nat) : Decidable (Fits a b L) := by unfold Fits; exact inferInstance

theorem Fits.down {a b L l : Nat} (h : Fits a b L) (hl : l ≤ L) : Fits a b l := by
  obtain ⟨h1, h2⟩ := h
  have hd : 2 ^ l ∣ 2 ^ L := Nat.pow_dvd_pow 2 hl
  have hp : 2 ^ l ≤ 2 ^ L := Nat.pow_le_pow_right (by decide) hl
  exact ⟨Nat.mod_eq_zero_of_dvd (Nat.dvd_trans hd (Nat.dvd_of_mod_eq_zero h1)), by omega⟩

/-- The document's search. -/
def lvGo (a b : Nat) : Nat → Nat → Nat
  | 0, l => l
  | f + 1, l => if Fits a b (l + 1) then lvGo a b f (l + 1) else l

def lev (a b : Nat) : Nat := lvGo a b 40 0

theorem lvGo_spec (a b : Nat) : ∀ f l, Fits a b l → Fits a b (lvGo a b f l) ∧ l ≤ lvGo a b f l ∧ lvGo a b f l ≤ l + f ∧ (lvGo a b f l = l + f ∨ ¬ Fits a b (lvGo a b f l + 1))
  | 0, l, h => ⟨h, Nat.le_refl _, Nat.le_refl _, .inl rfl⟩
  | f + 1, l, h => by
    unfold lvGo
    split
    · rename_i h1
      obtain ⟨q1, q2, q3, q4⟩ := lvGo_spec a b f (l + 1) h1
      exact ⟨q1, by omega, by omega, by rcases q4 with q | q; exact .inl (by omega); exact .inr q⟩
    · rename_i h1
      exact ⟨h, Nat.le_refl _, by omega, .inr h1⟩

theorem fits_zero {a b : Nat} (h : a < b) : Fits a b 0 := ⟨Nat.mod_one a, by simp; omega⟩

theorem lev_fits {a b : Nat} (h : a < b) : Fits a b (lev a b) := (lvGo_spec a b 40 0 (fits_zero h)).1
/-- The program's level. -/
def prog (a b : Nat) : Nat := if 0 < a then min (Lib.bitLen (b - a) - 1) (Lib.ctz 64 a) else Lib.bitLen (b - a) - 1

/-- The spots from a to b. -/
def spots : Nat → Nat → Nat → List (Nat × Nat)
  | 0, _, _ => []
  | f + 1, a, b => if a < b then (lev a b, a / 2 ^ lev a b) :: spots f (a + 2 ^ lev a b) b else []

theorem spots_step {f a b : Nat} (h : a < b) (hf : b - a ≤ f) : ∃ g, f = g + 1 ∧ b - (a + 2 ^ lev a b) ≤ g ∧ spots f a b = (lev a b, a / 2 ^ lev a b) :: spots g (a + 2 ^ lev a b) b := by
  obtain ⟨g, rfl⟩ : ∃ g, f = g + 1 := ⟨f - 1, by omega⟩
  have := Nat.two_pow_pos (lev a b)
  exact ⟨g, rfl, by omega, by rw [spots, if_pos h]⟩
theorem spots_done {f a b : Nat} (h : ¬ a < b) : spots f a b = [] := by
  cases f with
  | zero => rfl
  | succ f => rw [spots, if_neg h]

end Go.Proofs.YtgldkfaiofkhbaaDoor.SpotsMath
