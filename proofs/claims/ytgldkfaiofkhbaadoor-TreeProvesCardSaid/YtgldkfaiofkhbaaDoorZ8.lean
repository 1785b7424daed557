/-
  Texts of the claim, put into one file: Octet2, HeadMem0, ProofBeside, Beside17, ProofEnc.
-/
import Derived.Test.YtgldkfaiofkhbaaDoorZ7
import Derived.Test.YtgldkfaiofkhbaaDoorZ4
import Derived.Outline
import Derived.Test.YtgldkfaiofkhbaaDoorZ0

namespace Go.Proofs.YtgldkfaiofkhbaaDoor.Octet2
open Go Go.RowKit Go.Proofs.YtgldkfaiofkhbaaDoor Go.Proofs.YtgldkfaiofkhbaaDoor.Mem Go.Proofs.YtgldkfaiofkhbaaDoor.Sha Go.Proofs.YtgldkfaiofkhbaaDoor.Bytes Go.Proofs.YtgldkfaiofkhbaaDoor.Append Go.Proofs.YtgldkfaiofkhbaaDoor.Octet

/-- What an append (its source nil or not) and the store of the field leave. -/
theorem Wrote.append {wr W : World} {g : Nat} {r : Option Nat} {l q : Text} {v v1 : Value} (hw : WrAt wr g r l) (hv : ∀ u, Blk wr g 171 #[u] → u = v) (hG : Grew wr 0 5 1 v l.length q.length (cells8 l) (cells8 q) v1 W) :
    Wrote wr g r (l ++ q) (W.setCell ⟨g, 0, none⟩ v1) := by
  obtain ⟨v', hb, ho, hvr, hr1⟩ := hw
  obtain rfl := hv v' hb
  have hk0 : Kept (fun k => k = g ∨ some k = r) wr W := (Kept.refl _ wr).grown hG.grow (fun k hk => .inl (.inr (by rw [← hvr]; exact hk.symm)))
  have hbW : Blk W g 171 #[v'] := (hG.grow.block g hb.lt (fun e => by
    have := (hr1 g (by rw [← hvr]; exact e.symm)).1
    omega)).trans hb
  have hat : ∀ k, v1.ownBlock = some k → g < k ∧ k < W.heap.size := by
    intro k hk
    have hlt : k < W.heap.size := by
      rcases hG.own.2 with ⟨rfl, _⟩ | ⟨g', cap, cur, rfl, _, h2, _⟩
      · cases hk
      · obtain rfl : g' = k := by simpa [Value.ownBlock] using hk
        exact (Array.getElem?_eq_some_iff.1 h2).1
    refine ⟨?_, hlt⟩
    rcases hG.at_ with h | h
    · exact (hr1 k (by rw [← hvr, ← h, hk])).1
    · rw [h] at hk
      injection hk with hk
      have := hb.lt
      omega
  refine ⟨v1.ownBlock, ⟨v1, hbW.set_ 0 _, ?_, rfl, fun k e => ⟨(hat k e).1, by have := (hat k e).2; simpa [World.setCell] using this⟩⟩, hk0.setCell (.inl (.inl rfl)) _, ?_⟩
  · have hown := hG.own
    refine ⟨by simp [cells8_len], ?_⟩
    have hl2 : (l ++ q).length = l.length + q.length := List.length_append
    have hc2 : cells8 (l ++ q) = cells8 l ++ cells8 q := by simp [cells8]
    rw [hl2, hc2]
    rcases hown.2 with h | ⟨g', cap, cur, rfl, h1, h2, h3⟩
    · exact .inl h
    · refine .inr ⟨g', cap, cur, rfl, h1, ?_, h3⟩
      have := (hat g' rfl).1
      exact (Below.heap_setCell W ⟨g, 0, none⟩ _ g' (fun e => by simp at e; omega)).trans h2
  · rcases hG.at_ with h | h
    · exact .inl (by rw [h, hvr])
    · exact .inr ⟨_, h, Nat.le_refl _⟩

/-- New: a writer that holds nothing. -/
theorem new_any (w : World) : Calls Tryd.prog 57 #[] w fun e w' => e = .returned (.pointer (some ⟨w.heap.size, 0, none⟩)) ∧ w' = w.alloc (.cells #[.slice none 0 0] 171) := by
  go_enter Tryd.func57, Tryd.ntmps57
  go_wp2_with fail
  go_ret
  exact ⟨rfl, rfl⟩
theorem WrAt.new (w : World) : WrAt (w.alloc (.cells #[.slice none 0 0] 171)) w.heap.size none [] :=
  ⟨_, Blk.new w _ _, World.ownsRow_nil _ _ _ _, rfl, fun _ e => by cases e⟩

/-! ### The same, said of what was written since a world w0 -/
section
variable {w0 w w' wi : World} {g : Nat} {r r1 : Option Nat} {l l2 : Text}
end
end Go.Proofs.YtgldkfaiofkhbaaDoor.Octet2

namespace Go.Proofs.YtgldkfaiofkhbaaDoor.HeadMem
open Go Go.RowKit Go.Proofs.YtgldkfaiofkhbaaDoor Go.Proofs.YtgldkfaiofkhbaaDoor.Mem Go.Proofs.YtgldkfaiofkhbaaDoor.Sha Go.Proofs.YtgldkfaiofkhbaaDoor.Bytes Go.Proofs.YtgldkfaiofkhbaaDoor.Append Go.Proofs.YtgldkfaiofkhbaaDoor.Octet Go.Proofs.YtgldkfaiofkhbaaDoor.Octet2

end Go.Proofs.YtgldkfaiofkhbaaDoor.HeadMem

namespace Go.Proofs.YtgldkfaiofkhbaaDoor.ProofBeside
open Go Go.RowKit Go.Proofs.YtgldkfaiofkhbaaDoor Go.Proofs.YtgldkfaiofkhbaaDoor.Mem Go.Proofs.YtgldkfaiofkhbaaDoor.Sha Go.Proofs.YtgldkfaiofkhbaaDoor.Bytes Go.Proofs.YtgldkfaiofkhbaaDoor.Append Go.Proofs.YtgldkfaiofkhbaaDoor.Octet Go.Proofs.YtgldkfaiofkhbaaDoor.Octet2 Go.Proofs.YtgldkfaiofkhbaaDoor.HeadMem

/-- The neighbour's first leaf at level l. -/
def nbAt (i l : Nat) : Nat := (i / 2 ^ l ^^^ 1) * 2 ^ l
/-- How many levels below k have a neighbour. -/
def cnt (size i : Nat) : Nat → Nat
  | 0 => 0
  | k + 1 => cnt size i k + if nbAt i k < size then 1 else 0
/-- How many levels a tree of that size has. -/
def levels (size : Nat) : Nat := if size ≤ 1 then 0 else Nat.log2 (size - 1) + 1
def insideB (size i : Int) : Bool := decide (1 ≤ size) && decide (size ≤ 1099511627776) && decide (0 ≤ i) && decide (i < size)
theorem xor1 (a : Nat) : a ^^^ 1 ≤ a + 1 := by
  have h1 : (a ^^^ 1) / 2 = a / 2 := by
    have h := Nat.shiftRight_xor_distrib (a := a) (b := 1) (i := 1)
    simpa [Nat.shiftRight_succ] using h
  omega
theorem nbAt_le (i k : Nat) : nbAt i k ≤ i + 2 ^ k := by
  unfold nbAt
  have h1 := Nat.mul_le_mul_right (2 ^ k) (xor1 (i / 2 ^ k))
  have h2 := Nat.div_mul_le_self i (2 ^ k)
  rw [Nat.succ_mul] at h1
  omega
theorem xor_i64 (a : Nat) (h : a < 9223372036854775806) : bits .xor .i64 (a : Int) 1 = ((a ^^^ 1 : Nat) : Int) := by
  show IntKind.i64.wrap (((BitVec.ofInt 64 (a : Int) ^^^ BitVec.ofInt 64 1).toNat : Nat) : Int) = _
  have e : (BitVec.ofInt 64 (a : Int) ^^^ BitVec.ofInt 64 1).toNat = a ^^^ 1 := by
    rw [BitVec.toNat_xor, BitVec.ofInt_natCast, BitVec.toNat_ofNat, Nat.mod_eq_of_lt (by omega)]
    rfl
  rw [e]
  have := xor1 a
  exact IntWalk.i64_in _ (by omega)
theorem levels_lt {size k : Nat} (h : 2 ^ k < size) : k < levels size := by
  unfold levels
  have hp := Nat.two_pow_pos k
  rw [if_neg (by omega)]
  have : k ≤ Nat.log2 (size - 1) := (Nat.le_log2 (by omega)).2 (by omega)
  omega
theorem levels_ge {size k : Nat} (h : ¬ 2 ^ k < size) : levels size ≤ k := by
  unfold levels
  split
  · omega
  · rename_i h1
    have : Nat.log2 (size - 1) < k := (Nat.log2_lt (by omega)).2 (by omega)
    omega

end Go.Proofs.YtgldkfaiofkhbaaDoor.ProofBeside

namespace Go.Proofs.YtgldkfaiofkhbaaDoor.Beside17
open Go Go.RowKit Go.Proofs.YtgldkfaiofkhbaaDoor Go.Proofs.YtgldkfaiofkhbaaDoor.Mem Go.Proofs.YtgldkfaiofkhbaaDoor.Sha Go.Proofs.YtgldkfaiofkhbaaDoor.Bytes Go.Proofs.YtgldkfaiofkhbaaDoor.TreeMath Go.Proofs.YtgldkfaiofkhbaaDoor.Sides Go.Proofs.YtgldkfaiofkhbaaDoor.RefSides Go.Proofs.YtgldkfaiofkhbaaDoor.ProofBeside

theorem xor1_eq (a : Nat) : a ^^^ 1 = if a % 2 = 1 then a - 1 else a + 1 := by
  have h1 : (a ^^^ 1) / 2 = a / 2 := by
    have h := Nat.shiftRight_xor_distrib (a := a) (b := 1) (i := 1)
    simpa [Nat.shiftRight_succ] using h
  have h2 : ((a ^^^ 1) % 2 = 1) ↔ ¬ ((a % 2 = 1) ↔ (1 % 2 = 1)) := Nat.xor_mod_two_eq_one
  split <;> omega
theorem levels_pow (size : Nat) : size ≤ 2 ^ levels size := by
  rcases Nat.lt_or_ge (2 ^ levels size) size with h | h
  · have := levels_lt h; omega
  · exact h
theorem half_pow (n : Nat) : ∃ m, half n = 2 ^ m := ⟨_, rfl⟩
theorem pow_le_half {m n : Nat} (h2 : 2 ≤ n) (h : 2 ^ m < n) : 2 ^ m ≤ half n := by
  unfold half
  exact Nat.pow_le_pow_right (by omega) ((Nat.le_log2 (by omega)).2 (by omega))

end Go.Proofs.YtgldkfaiofkhbaaDoor.Beside17

namespace Go.Proofs.YtgldkfaiofkhbaaDoor.ProofEnc
open Go Go.RowKit Go.Proofs.YtgldkfaiofkhbaaDoor Go.Proofs.YtgldkfaiofkhbaaDoor.Mem Go.Proofs.YtgldkfaiofkhbaaDoor.Sha Go.Proofs.YtgldkfaiofkhbaaDoor.Bytes Go.Proofs.YtgldkfaiofkhbaaDoor.Append Go.Proofs.YtgldkfaiofkhbaaDoor.Octet Go.Proofs.YtgldkfaiofkhbaaDoor.Octet2 Go.Proofs.YtgldkfaiofkhbaaDoor.HeadMem Go.Proofs.YtgldkfaiofkhbaaDoor.ProofBeside

section
variable {w0 w : World} {g : Nat} {r : Option Nat} {l : Text}
end

end Go.Proofs.YtgldkfaiofkhbaaDoor.ProofEnc
