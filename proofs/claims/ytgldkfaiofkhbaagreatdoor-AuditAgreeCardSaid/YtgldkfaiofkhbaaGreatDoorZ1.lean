/-
  Texts of the claim, put into one file: SortP, SpotsMath.
-/
import Derived.Lib.ItoaNum
import Derived.Lib.TrailingZeros

/-
 Rows in the order of their keys' bytes, in plain Lean: one sorted row for the program's sort and the document's insertion; one laid into its place.
-/
namespace Go.Proofs.YtgldkfaiofkhbaaGreatDoor.SortP
def lex : List (BitVec 8) → List (BitVec 8) → Bool
 | [], [] => false
 | [], _ :: _ => true
 | _ :: _, [] => false
 | a :: as, b :: bs => if a.toNat < b.toNat then true else if b.toNat < a.toNat then false else lex as bs
theorem lex_irrefl : ∀ a, lex a a = false
 | [] => rfl
 | a :: as => by simp [lex, lex_irrefl as]
theorem lex_trans : ∀ a b c, lex a b = true → lex b c = true → lex a c = true
 | [], [], _, h, _ => by simp [lex] at h
 | [], _ :: _, [], _, h => by simp [lex] at h
 | [], _ :: _, _ :: _, _, _ => rfl
 | _ :: _, [], _, h, _ => by simp [lex] at h
 | _ :: _, _ :: _, [], _, h => by simp [lex] at h
 | a :: as, b :: bs, c :: cs, h1, h2 => by
  have ih := lex_trans as bs cs
  unfold lex at h1 h2 ⊢
  by_cases x1 : a.toNat < b.toNat
  ·by_cases x4 : c.toNat < b.toNat
   ·rw [if_neg (by omega), if_pos x4] at h2; cases h2
   ·rw [if_pos (by omega)]
  ·rw [if_neg x1] at h1
   by_cases x2 : b.toNat < a.toNat
   ·rw [if_pos x2] at h1; cases h1
   ·rw [if_neg x2] at h1
    by_cases x3 : b.toNat < c.toNat
    ·rw [if_pos (by omega)]
    ·rw [if_neg x3] at h2
     by_cases x4 : c.toNat < b.toNat
     ·rw [if_pos x4] at h2; cases h2
     ·rw [if_neg x4] at h2
      rw [if_neg (by omega), if_neg (by omega)]
      exact ih h1 h2
theorem lex_total : ∀ a b, lex a b = false → lex b a = false → a = b
 | [], [], _, _ => rfl
 | [], _ :: _, h, _ => by simp [lex] at h
 | _ :: _, [], _, h => by simp [lex] at h
 | a :: as, b :: bs, h1, h2 => by
  unfold lex at h1 h2
  by_cases x1 : a.toNat < b.toNat
  ·rw [if_pos x1] at h1; cases h1
  ·by_cases x2 : b.toNat < a.toNat
   ·rw [if_pos x2] at h2; cases h2
   ·rw [if_neg x1, if_neg x2] at h1
    rw [if_neg x2, if_neg x1] at h2
    rw [lex_total as bs h1 h2, BitVec.eq_of_toNat_eq (show a.toNat = b.toNat by omega)]
theorem lex_asym {a b : List (BitVec 8)} (h : lex a b = true) : lex b a = false := by
 cases hb : lex b a with
 | false => rfl
 | true => have := lex_trans a b a h hb; rw [lex_irrefl] at this; cases this
theorem lex_ne {a b : List (BitVec 8)} (h : lex a b = true) : a ≠ b := fun e => by rw [e, lex_irrefl] at h; cases h
theorem lex_ntrans (a b c : List (BitVec 8)) (h1 : lex a b = false) (h2 : lex b c = false) : lex a c = false := by
 cases h : lex a c with
 | false => rfl
 | true =>
  exfalso
  cases hb : lex b a with
  | true => have := lex_trans b a c hb h; rw [h2] at this; cases this
  | false =>
   have := lex_total a b h1 hb
   subst this
   rw [h] at h2; cases h2
section
variable {α : Type} (ky : α → List (BitVec 8))
def ins (x : α) : List α → Option (List α)
 | [] => some [x]
 | y :: l => if lex (ky y) (ky x) = true then (ins x l).map (y :: ·) else if ky y = ky x then none else some (x :: y :: l)
def rising (l : List α) : Option (List α) := l.foldl (fun o x => o.bind (ins ky x)) (some [])
def Strict (l : List α) : Prop := l.Pairwise fun a b => lex (ky a) (ky b) = true
variable {ky}
theorem ins_some {x : α} : ∀ {l r : List α}, Strict ky l → ins ky x l = some r → Strict ky r ∧ r.Perm (x :: l)
 | [], r, _, h => by
  obtain rfl : [x] = r := Option.some.inj h
  exact ⟨List.pairwise_singleton _ _, List.Perm.refl _⟩
 | y :: l, r, hs, h => by
  unfold ins at h
  obtain ⟨h1, h2⟩ := List.pairwise_cons.1 hs
  by_cases c1 : lex (ky y) (ky x) = true
  ·rw [if_pos c1] at h
   cases hi : ins ky x l with
   | none => rw [hi] at h; cases h
   | some r' =>
    rw [hi] at h
    obtain rfl : y :: r' = r := Option.some.inj h
    obtain ⟨i1, i2⟩ := ins_some h2 hi
    refine ⟨List.pairwise_cons.2 ⟨fun z hz => ?_, i1⟩, (i2.cons y).trans (List.Perm.swap x y l)⟩
    rcases List.mem_cons.1 (i2.mem_iff.1 hz) with rfl | hz
    ·exact c1
    ·exact h1 z hz
  ·rw [if_neg c1] at h
   by_cases c2 : ky y = ky x
   ·rw [if_pos c2] at h; cases h
   ·rw [if_neg c2] at h
    obtain rfl : x :: y :: l = r := Option.some.inj h
    have hxy : lex (ky x) (ky y) = true := by
     cases hh : lex (ky x) (ky y) with
     | true => rfl
     | false => exact absurd (lex_total _ _ (by simpa using c1) hh) c2
    refine ⟨List.pairwise_cons.2 ⟨fun z hz => ?_, hs⟩, List.Perm.refl _⟩
    rcases List.mem_cons.1 hz with rfl | hz
    ·exact hxy
    ·exact lex_trans _ _ _ hxy (h1 z hz)
theorem ins_none {x : α} : ∀ {l : List α}, ins ky x l = none → ∃ y ∈ l, ky y = ky x
 | [], h => by cases h
 | y :: l, h => by
  unfold ins at h
  by_cases c1 : lex (ky y) (ky x) = true
  ·rw [if_pos c1] at h
   cases hi : ins ky x l with
   | none =>
    obtain ⟨z, hz, e⟩ := ins_none hi
    exact ⟨z, List.mem_cons_of_mem _ hz, e⟩
   | some r' => rw [hi] at h; cases h
  ·rw [if_neg c1] at h
   by_cases c2 : ky y = ky x
   ·exact ⟨y, List.mem_cons_self, c2⟩
   ·rw [if_neg c2] at h; cases h
theorem fold_none : ∀ l : List α, l.foldl (fun o x => o.bind (ins ky x)) none = none
 | [] => rfl
 | _ :: l => fold_none l
theorem fold_some : ∀ (l acc : List α) {r : List α}, Strict ky acc → l.foldl (fun o x => o.bind (ins ky x)) (some acc) = some r → Strict ky r ∧ r.Perm (acc ++ l)
 | [], acc, r, hs, h => by
  obtain rfl : acc = r := Option.some.inj h
  exact ⟨hs, by rw [List.append_nil]⟩
 | x :: l, acc, r, hs, h => by
  have h : l.foldl (fun o x => o.bind (ins ky x)) (ins ky x acc) = some r := h
  cases hi : ins ky x acc with
  | none => rw [hi, fold_none] at h; cases h
  | some a =>
   rw [hi] at h
   obtain ⟨i1, i2⟩ := ins_some hs hi
   obtain ⟨j1, j2⟩ := fold_some l a i1 h
   refine ⟨j1, j2.trans ((i2.append_right l).trans ?_)⟩
   exact (List.perm_middle (a := x) (l₁ := acc) (l₂ := l)).symm
theorem fold_nodup : ∀ (l acc : List α), Strict ky acc → (acc ++ l).Pairwise (fun a b => ky a ≠ ky b) → ∃ r, l.foldl (fun o x => o.bind (ins ky x)) (some acc) = some r
 | [], acc, _, _ => ⟨acc, rfl⟩
 | x :: l, acc, hs, hd => by
  show ∃ r, l.foldl (fun o x => o.bind (ins ky x)) (ins ky x acc) = some r
  cases hi : ins ky x acc with
  | none =>
   obtain ⟨y, hy, e⟩ := ins_none hi
   exact absurd e ((List.pairwise_append.1 hd).2.2 y hy x List.mem_cons_self)
  | some a =>
   obtain ⟨i1, i2⟩ := ins_some hs hi
   refine fold_nodup l a i1 ?_
   have hp : (a ++ l).Perm (acc ++ x :: l) := (i2.append_right l).trans (List.perm_middle (a := x) (l₁ := acc) (l₂ := l)).symm
   exact (hp.pairwise_iff (R := fun a b => ky a ≠ ky b) (fun hab => fun e => hab e.symm)).2 hd
theorem rising_some {l r : List α} (h : rising ky l = some r) : Strict ky r ∧ r.Perm l := by
 have := fold_some l [] List.Pairwise.nil h
 simpa using this
theorem rising_none {l : List α} (h : rising ky l = none) : ¬ l.Pairwise (fun a b => ky a ≠ ky b) := fun hd => by
 obtain ⟨r, hr⟩ := fold_nodup l [] List.Pairwise.nil (by simpa using hd)
 unfold rising at h
 rw [hr] at h; cases h
theorem strict_eq : ∀ {l r : List α}, Strict ky l → Strict ky r → l.Perm r → l = r
 | [], r, _, _, h => by rw [List.nil_perm.1 h]
 | x :: l, [], _, _, h => by have := h.length_eq; simp at this
 | x :: l, y :: r, h1, h2, h => by
  obtain ⟨a1, a2⟩ := List.pairwise_cons.1 h1
  obtain ⟨b1, b2⟩ := List.pairwise_cons.1 h2
  obtain rfl : x = y := by
   rcases List.mem_cons.1 (h.mem_iff.1 List.mem_cons_self) with e | hx
   ·exact e
   ·rcases List.mem_cons.1 (h.mem_iff.2 List.mem_cons_self) with e | hy
    ·exact e.symm
    ·have := lex_asym (a1 y hy)
     rw [b1 x hx] at this; cases this
  rw [strict_eq a2 b2 (List.Perm.cons_inv h)]
theorem sorted_rising {l d : List α} (hp : d.Perm l) (hs : d.Pairwise fun a b => lex (ky b) (ky a) = false) : rising ky l = (if l.Pairwise (fun a b => ky a ≠ ky b) then some d else none) := by
 by_cases hd : l.Pairwise (fun a b => ky a ≠ ky b)
 ·rw [if_pos hd]
  have hdd : d.Pairwise (fun a b => ky a ≠ ky b) := (hp.pairwise_iff (R := fun a b => ky a ≠ ky b) (fun hab => fun e => hab e.symm)).2 hd
  have hst : Strict ky d := (List.pairwise_and_iff.2 ⟨hs, hdd⟩).imp (fun {a b} ⟨h1, h2⟩ => by
   cases hh : lex (ky a) (ky b) with
   | true => rfl
   | false => exact absurd (lex_total _ _ hh h1) h2)
  cases hr : rising ky l with
  | none => exact absurd hd (rising_none hr)
  | some r =>
   obtain ⟨h1, h2⟩ := rising_some hr
   rw [strict_eq h1 hst (h2.trans hp.symm)]
 ·rw [if_neg hd]
  cases hr : rising ky l with
  | none => rfl
  | some r =>
   obtain ⟨h1, h2⟩ := rising_some hr
   exact absurd ((h2.pairwise_iff (R := fun a b => ky a ≠ ky b) (fun hab => fun e => hab e.symm)).1 (h1.imp fun hab => lex_ne hab)) hd
def riseB (l : List α) : Bool := match l with
 | [] => true
 | [_] => true
 | a :: b :: r => lex (ky a) (ky b) && riseB (b :: r)
theorem riseB_iff : ∀ {l : List α}, riseB (ky := ky) l = true ↔ Strict ky l
 | [] => ⟨fun _ => List.Pairwise.nil, fun _ => rfl⟩
 | [a] => ⟨fun _ => List.pairwise_singleton _ _, fun _ => rfl⟩
 | a :: b :: r => by
  have ih := riseB_iff (l := b :: r)
  rw [riseB, Bool.and_eq_true, ih]
  constructor
  ·rintro ⟨h1, h2⟩
   refine List.pairwise_cons.2 ⟨fun z hz => ?_, h2⟩
   rcases List.mem_cons.1 hz with rfl | hz
   ·exact h1
   ·exact lex_trans _ _ _ h1 ((List.pairwise_cons.1 h2).1 z hz)
  ·intro h
   obtain ⟨h1, h2⟩ := List.pairwise_cons.1 h
   exact ⟨h1 b List.mem_cons_self, h2⟩

def place (x : α) (n : Nat) (r : List α) : List α := r.take n ++ x :: r.drop (if (r[n]?).map ky = some (ky x) then n + 1 else n)
theorem strict_get {r : List α} (hs : Strict ky r) {i j : Nat} (hij : i < j) (hj : j < r.length) : lex (ky (r[i]'(by omega))) (ky r[j]) = true := List.pairwise_iff_getElem.1 hs i j (by omega) hj hij
end
end Go.Proofs.YtgldkfaiofkhbaaGreatDoor.SortP

namespace Go.Proofs.YtgldkfaiofkhbaaGreatDoor.SpotsMath
open Go

def Fits (a b L : Nat) : Prop := a % 2 ^ L = 0 ∧ a + 2 ^ L ≤ b

instance (a b L : Nat) : Decidable (Fits a b L) := by unfold Fits; exact inferInstance

theorem Fits.down {a b L l : Nat} (h : Fits a b L) (hl : l ≤ L) : Fits a b l := by
 obtain ⟨h1, h2⟩ := h
 have hd : 2 ^ l ∣ 2 ^ L := Nat.pow_dvd_pow 2 hl
 have hp : 2 ^ l ≤ 2 ^ L := Nat.pow_le_pow_right (by decide) hl
 exact ⟨Nat.mod_eq_zero_of_dvd (Nat.dvd_trans hd (Nat.dvd_of_mod_eq_zero h1)), by omega⟩

def lvGo (a b : Nat) : Nat → Nat → Nat
 | 0, l => l
 | f + 1, l => if Fits a b (l + 1) then lvGo a b f (l + 1) else l

def lev (a b : Nat) : Nat := lvGo a b 40 0

def prog (a b : Nat) : Nat := if 0 < a then min (Lib.bitLen (b - a) - 1) (Lib.ctz 64 a) else Lib.bitLen (b - a) - 1

theorem bitLen_bounds {n : Nat} (h0 : 0 < n) (h : n < 2 ^ 64) : 1 ≤ Lib.bitLen n ∧ 2 ^ (Lib.bitLen n - 1) ≤ n ∧ n < 2 ^ Lib.bitLen n :=
 Lib.bitLenAux_bounds 64 n h (by omega)

def spots : Nat → Nat → Nat → List (Nat × Nat)
 | 0, _, _ => []
 | f + 1, a, b => if a < b then (lev a b, a / 2 ^ lev a b) :: spots f (a + 2 ^ lev a b) b else []

end Go.Proofs.YtgldkfaiofkhbaaGreatDoor.SpotsMath
