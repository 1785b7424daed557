/-
  The Merkle tree of RFC 6962 as a plain function, and that summing neighbours in pairs leads to the same root. No program in sight.
-/
import Derived.Test.YtngieimjlkpkaaaDoorSha
namespace Go.Proofs.YtngieimjlkpkaaaDoor.TreeMath
open Go Go.Proofs.YtngieimjlkpkaaaDoor Go.Proofs.YtngieimjlkpkaaaDoor.Sha

/-- The left subtree's leaves, of n. -/
def half (n : Nat) : Nat := 2 ^ Nat.log2 (n - 1)
theorem half_lt {n : Nat} (h : 2 ≤ n) : half n < n := by
  have := Nat.log2_self_le (n := n - 1) (by omega)
  unfold half
  omega
theorem half_ge (n : Nat) : n ≤ 2 * half n := by
  have : n - 1 < 2 ^ (Nat.log2 (n - 1) + 1) := Nat.lt_log2_self
  unfold half
  rw [Nat.pow_succ] at this
  omega
theorem half_pos (n : Nat) : 0 < half n := Nat.two_pow_pos _
/-- The half of the row above. -/
theorem half_up {n : Nat} (h : 3 ≤ n) : half n = 2 * half ((n + 1) / 2) := by
  have e : (n + 1) / 2 - 1 = (n - 1) / 2 := by omega
  have hl : Nat.log2 (n - 1) = Nat.log2 ((n - 1) / 2) + 1 := by
    rw [Nat.log2_def (n - 1), if_pos (by omega)]
  unfold half
  rw [e, hl, Nat.pow_succ]
  omega

section
variable {α : Type} (nd : α → α → α) (e : α)
/-- The root, the first argument at least the number of leaves. -/
def rootN : Nat → List α → α
  | 0, _ => e
  | f + 1, l => match l with
    | [] => e
    | [x] => x
    | x :: y :: r => nd (rootN f ((x :: y :: r).take (half (x :: y :: r).length))) (rootN f ((x :: y :: r).drop (half (x :: y :: r).length)))
def root (l : List α) : α := rootN nd e l.length l
theorem rootN_eq : ∀ (f : Nat) (l : List α), l.length ≤ f → rootN nd e f l = root nd e l
  | f, l, h => by
    suffices hs : ∀ (n : Nat) (l : List α), l.length ≤ n → ∀ f g, l.length ≤ f → l.length ≤ g → rootN nd e f l = rootN nd e g l from hs l.length l (Nat.le_refl _) f l.length h (Nat.le_refl _)
    intro n
    induction n with
    | zero =>
      intro l hl f g _ _
      obtain rfl := List.eq_nil_of_length_eq_zero (Nat.le_zero.1 hl)
      cases f <;> cases g <;> rfl
    | succ n ih =>
      intro l hl f g hf hg
      match l, hl, hf, hg with
      | [], _, _, _ => cases f <;> cases g <;> rfl
      | [x], _, hf, hg =>
        obtain ⟨f, rfl⟩ : ∃ k, f = k + 1 := ⟨f - 1, by simp at hf; omega⟩
        obtain ⟨g, rfl⟩ : ∃ k, g = k + 1 := ⟨g - 1, by simp at hg; omega⟩
        rfl
      | x :: y :: r, hl, hf, hg =>
        obtain ⟨f, rfl⟩ : ∃ k, f = k + 1 := ⟨f - 1, by simp at hf; omega⟩
        obtain ⟨g, rfl⟩ : ∃ k, g = k + 1 := ⟨g - 1, by simp at hg; omega⟩
        have hh := half_lt (n := (x :: y :: r).length) (by simp)
        have hp := half_pos (x :: y :: r).length
        have a := ih ((x :: y :: r).take (half (x :: y :: r).length)) (by rw [List.length_take]; omega) f g (by rw [List.length_take]; omega) (by rw [List.length_take]; omega)
        have b := ih ((x :: y :: r).drop (half (x :: y :: r).length)) (by rw [List.length_drop]; omega) f g (by rw [List.length_drop]; omega) (by rw [List.length_drop]; omega)
        simp only [rootN]
        rw [a, b]
theorem root_nil : root nd e [] = e := rfl
theorem root_one (x : α) : root nd e [x] = x := rfl
theorem rootN_two (f : Nat) (l : List α) (h : 2 ≤ l.length) : rootN nd e (f + 1) l = nd (rootN nd e f (l.take (half l.length))) (rootN nd e f (l.drop (half l.length))) := by
  match l, h with
  | x :: y :: r, _ => rfl
theorem root_two (l : List α) (h : 2 ≤ l.length) : root nd e l = nd (root nd e (l.take (half l.length))) (root nd e (l.drop (half l.length))) := by
  have hh := half_lt h
  have hp := half_pos l.length
  obtain ⟨f, hf⟩ : ∃ f, l.length = f + 1 := ⟨l.length - 1, by omega⟩
  rw [← rootN_eq nd e (f + 1) l (by omega), rootN_two nd e f l h, rootN_eq _ _ _ _ (by rw [List.length_take]; omega), rootN_eq _ _ _ _ (by rw [List.length_drop]; omega)]

/-- Neighbours summed in pairs; a last one without a neighbour goes up as it is. -/
def up : List α → List α
  | [] => []
  | [x] => [x]
  | x :: y :: r => nd x y :: up r
theorem up_len : ∀ l : List α, (up nd l).length = (l.length + 1) / 2
  | [] => by simp [up]
  | [x] => by simp [up]
  | x :: y :: r => by
    have := up_len r
    simp only [up, List.length_cons] at this ⊢
    omega
theorem up_append : ∀ (k : Nat) (a b : List α), a.length = 2 * k → up nd (a ++ b) = up nd a ++ up nd b
  | 0, a, b, h => by
    obtain rfl := List.eq_nil_of_length_eq_zero h
    rfl
  | k + 1, a, b, h => by
    match a, h with
    | x :: y :: a, h =>
      have := up_append k a b (by simp at h; omega)
      simp only [List.cons_append, up, this]
    | [x], h => simp at h; omega
theorem root_up : ∀ (n : Nat) (l : List α), l.length = n → 2 ≤ n → root nd e (up nd l) = root nd e l := by
  intro n
  induction n using Nat.strongRecOn with
  | ind n ih =>
    intro l hl h2
    by_cases h3 : n = 2
    · subst h3
      match l, hl with
      | [a, b], _ => rfl
    · have hh := half_lt (n := n) h2
      have hg := half_ge n
      have hp := half_pos n
      have hu := half_up (n := n) (by omega)
      have hup := up_len nd l
      rw [hl] at hup
      have hp2 := half_pos ((n + 1) / 2)
      have hlt2 := half_lt (n := (n + 1) / 2) (by omega)
      rw [root_two nd e l (by omega), root_two nd e (up nd l) (by omega), hup, hl]
      have hs : up nd l = up nd (l.take (half n)) ++ up nd (l.drop (half n)) := by
        rw [← up_append nd (half ((n + 1) / 2)) _ _ (by rw [List.length_take]; omega), List.take_append_drop]
      have hta : (up nd (l.take (half n))).length = half ((n + 1) / 2) := by rw [up_len, List.length_take]; omega
      have e1 : (up nd l).take (half ((n + 1) / 2)) = up nd (l.take (half n)) := by rw [hs, List.take_append_of_le_length (by omega), List.take_of_length_le (by omega)]
      have e2 : (up nd l).drop (half ((n + 1) / 2)) = up nd (l.drop (half n)) := by rw [hs, List.drop_append_of_le_length (by omega), List.drop_of_length_le (by omega), List.nil_append]
      rw [e1, e2, ih (half n) hh (l.take (half n)) (by rw [List.length_take]; omega) (by omega)]
      congr 1
      by_cases h1 : n - half n = 1
      · have hd : (l.drop (half n)).length = 1 := by rw [List.length_drop]; omega
        match l.drop (half n), hd with
        | [x], _ => rfl
      · exact ih (n - half n) (by omega) (l.drop (half n)) (by rw [List.length_drop]; omega) (by omega)

/-- The fold from the right. -/
def fold : List α → α
  | [] => e
  | [x] => x
  | x :: y :: r => nd x (fold (y :: r))
theorem fold_cons (x : α) (l : List α) (h : 0 < l.length) : fold nd e (x :: l) = nd x (fold nd e l) := by
  match l, h with
  | y :: r, _ => rfl
end
end Go.Proofs.YtngieimjlkpkaaaDoor.TreeMath
