/-
  Texts of the claim, put into one file: SpotsMath.
-/
import Derived.Lib.ItoaNum
import Derived.Lib.TrailingZeros

namespace Go.Proofs.YtmdkfhfkdcbpgaaDoorR.SpotsMath
open Go

def Fits (a b L : Nat) : Prop := a % 2 ^ L = 0 ∧ a + 2 ^ L ≤ b

instance (a b L : Nat) : Decidable (Fits a b L) := by unfold Fits; exact inferInstance

theorem Fits.down {a b L l : Nat} (h : Fits a b L) (hl : l ≤ L) : Fits a b l := by
 obtain ⟨h1, h2⟩ := h
 have hd : 2 ^ l ∣ 2 ^ L := Nat.pow_dvd_pow 2 hl
 have hp : 2 ^ l ≤ 2 ^ L := Nat.pow_le_pow_right (by decide) hl
 exact ⟨Nat.mod_eq_zero_of_dvd (Nat.dvd_trans hd (Nat.dvd_of_mod_eq_zero h1)), by omega⟩

def lvGo (a b : Nat) : Nat → Nat → Nat
 | 0, l => l
 | f + 1, l => if Fits a b (l + 1) then lvGo a b f (l + 1) else l

def lev (a b : Nat) : Nat := lvGo a b 40 0

def prog (a b : Nat) : Nat := if 0 < a then min (Lib.bitLen (b - a) - 1) (Lib.ctz 64 a) else Lib.bitLen (b - a) - 1

theorem bitLen_bounds {n : Nat} (h0 : 0 < n) (h : n < 2 ^ 64) : 1 ≤ Lib.bitLen n ∧ 2 ^ (Lib.bitLen n - 1) ≤ n ∧ n < 2 ^ Lib.bitLen n :=
 Lib.bitLenAux_bounds 64 n h (by omega)

def spots : Nat → Nat → Nat → List (Nat × Nat)
 | 0, _, _ => []
 | f + 1, a, b => if a < b then (lev a b, a / 2 ^ lev a b) :: spots f (a + 2 ^ lev a b) b else []

end Go.Proofs.YtmdkfhfkdcbpgaaDoorR.SpotsMath
