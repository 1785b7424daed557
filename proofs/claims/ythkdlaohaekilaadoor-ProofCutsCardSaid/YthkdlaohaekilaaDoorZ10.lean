/-
  Texts of the claim, put into one file: Octet2, HeadMem0, ProofBeside, Beside17, ProofEnc, Octet4, NumberNew, HeadMem.
-/
import Derived.Test.YthkdlaohaekilaaDoorZ9
import Derived.Test.YthkdlaohaekilaaDoorZ6
import Derived.Outline
import Derived.Test.YthkdlaohaekilaaDoorZ0

namespace Go.Proofs.YthkdlaohaekilaaDoor.Octet2
open Go Go.RowKit Go.Proofs.YthkdlaohaekilaaDoor Go.Proofs.YthkdlaohaekilaaDoor.Mem Go.Proofs.YthkdlaohaekilaaDoor.Sha Go.Proofs.YthkdlaohaekilaaDoor.Bytes Go.Proofs.YthkdlaohaekilaaDoor.Append Go.Proofs.YthkdlaohaekilaaDoor.Octet

/-- What an append (its source nil or not) and the store of the field leave. -/
theorem Wrote.append {wr W : World} {g : Nat} {r : Option Nat} {l q : Text} {v v1 : Value} (hw : WrAt wr g r l) (hv : ∀ u, Blk wr g 158 #[u] → u = v) (hG : Grew wr 0 5 1 v l.length q.length (cells8 l) (cells8 q) v1 W) :
    Wrote wr g r (l ++ q) (W.setCell ⟨g, 0, none⟩ v1) := by
  obtain ⟨v', hb, ho, hvr, hr1⟩ := hw
  obtain rfl := hv v' hb
  have hk0 : Kept (fun k => k = g ∨ some k = r) wr W := (Kept.refl _ wr).grown hG.grow (fun k hk => .inl (.inr (by rw [← hvr]; exact hk.symm)))
  have hbW : Blk W g 158 #[v'] := (hG.grow.block g hb.lt (fun e => by
    have := (hr1 g (by rw [← hvr]; exact e.symm)).1
    omega)).trans hb
  have hat : ∀ k, v1.ownBlock = some k → g < k ∧ k < W.heap.size := by
    intro k hk
    have hlt : k < W.heap.size := by
      rcases hG.own.2 with ⟨rfl, _⟩ | ⟨g', cap, cur, rfl, _, h2, _⟩
      · cases hk
      · obtain rfl : g' = k := by simpa [Value.ownBlock] using hk
        exact (Array.getElem?_eq_some_iff.1 h2).1
    refine ⟨?_, hlt⟩
    rcases hG.at_ with h | h
    · exact (hr1 k (by rw [← hvr, ← h, hk])).1
    · rw [h] at hk
      injection hk with hk
      have := hb.lt
      omega
  refine ⟨v1.ownBlock, ⟨v1, hbW.set_ 0 _, ?_, rfl, fun k e => ⟨(hat k e).1, by have := (hat k e).2; simpa [World.setCell] using this⟩⟩, hk0.setCell (.inl (.inl rfl)) _, ?_⟩
  · have hown := hG.own
    refine ⟨by simp [cells8_len], ?_⟩
    have hl2 : (l ++ q).length = l.length + q.length := List.length_append
    have hc2 : cells8 (l ++ q) = cells8 l ++ cells8 q := by simp [cells8]
    rw [hl2, hc2]
    rcases hown.2 with h | ⟨g', cap, cur, rfl, h1, h2, h3⟩
    · exact .inl h
    · refine .inr ⟨g', cap, cur, rfl, h1, ?_, h3⟩
      have := (hat g' rfl).1
      exact (Below.heap_setCell W ⟨g, 0, none⟩ _ g' (fun e => by simp at e; omega)).trans h2
  · rcases hG.at_ with h | h
    · exact .inl (by rw [h, hvr])
    · exact .inr ⟨_, h, Nat.le_refl _⟩

theorem z32 : Z32.size = 32 := rfl

/-- New: a writer that holds nothing. -/
theorem new_any (w : World) : Calls Tryd.prog 61 #[] w fun e w' => e = .returned (.pointer (some ⟨w.heap.size, 0, none⟩)) ∧ w' = w.alloc (.cells #[.slice none 0 0] 158) := by
  go_enter Tryd.func61, Tryd.ntmps61
  go_wp2_with fail
  go_ret
  exact ⟨rfl, rfl⟩
theorem WrAt.new (w : World) : WrAt (w.alloc (.cells #[.slice none 0 0] 158)) w.heap.size none [] :=
  ⟨_, Blk.new w _ _, World.ownsRow_nil _ _ _ _, rfl, fun _ e => by cases e⟩

/-! ### The same, said of what was written since a world w0 -/
section
variable {w0 w w' wi : World} {g : Nat} {r r1 : Option Nat} {l l2 : Text}
end
end Go.Proofs.YthkdlaohaekilaaDoor.Octet2

namespace Go.Proofs.YthkdlaohaekilaaDoor.HeadMem
open Go Go.RowKit Go.Proofs.YthkdlaohaekilaaDoor Go.Proofs.YthkdlaohaekilaaDoor.Mem Go.Proofs.YthkdlaohaekilaaDoor.Sha Go.Proofs.YthkdlaohaekilaaDoor.Bytes Go.Proofs.YthkdlaohaekilaaDoor.Append Go.Proofs.YthkdlaohaekilaaDoor.Octet Go.Proofs.YthkdlaohaekilaaDoor.Octet2

theorem agg_hi {T : TypeId} {cs : List Value} {n : Nat} (h : (Tryd.prog.info? T).map (·.size) = some n) (hl : cs.length = n) : (Tryd.prog.info? T).map (·.size) = some cs.length := by rw [hl]; exact h
theorem size32 : (Tryd.prog.info? 23).map (·.size) = some 32 := by kernel_rfl
end Go.Proofs.YthkdlaohaekilaaDoor.HeadMem

namespace Go.Proofs.YthkdlaohaekilaaDoor.ProofBeside
open Go Go.RowKit Go.Proofs.YthkdlaohaekilaaDoor Go.Proofs.YthkdlaohaekilaaDoor.Mem Go.Proofs.YthkdlaohaekilaaDoor.Sha Go.Proofs.YthkdlaohaekilaaDoor.Bytes Go.Proofs.YthkdlaohaekilaaDoor.Append Go.Proofs.YthkdlaohaekilaaDoor.Octet Go.Proofs.YthkdlaohaekilaaDoor.Octet2 Go.Proofs.YthkdlaohaekilaaDoor.HeadMem

/-- The neighbour's first leaf at level l. -/
def nbAt (i l : Nat) : Nat := (i / 2 ^ l ^^^ 1) * 2 ^ l
/-- How many levels below k have a neighbour. -/
def cnt (size i : Nat) : Nat → Nat
  | 0 => 0
  | k + 1 => cnt size i k + if nbAt i k < size then 1 else 0
theorem cnt_le (size i : Nat) : ∀ k, cnt size i k ≤ k
  | 0 => Nat.le_refl _
  | k + 1 => by have := cnt_le size i k; unfold cnt; split <;> omega
/-- How many levels a tree of that size has. -/
def levels (size : Nat) : Nat := if size ≤ 1 then 0 else Nat.log2 (size - 1) + 1
def insideB (size i : Int) : Bool := decide (1 ≤ size) && decide (size ≤ 1099511627776) && decide (0 ≤ i) && decide (i < size)
def besideOf (size i : Nat) : Nat := cnt size i (levels size)

theorem xor1 (a : Nat) : a ^^^ 1 ≤ a + 1 := by
  have h1 : (a ^^^ 1) / 2 = a / 2 := by
    have h := Nat.shiftRight_xor_distrib (a := a) (b := 1) (i := 1)
    simpa [Nat.shiftRight_succ] using h
  omega
theorem nbAt_le (i k : Nat) : nbAt i k ≤ i + 2 ^ k := by
  unfold nbAt
  have h1 := Nat.mul_le_mul_right (2 ^ k) (xor1 (i / 2 ^ k))
  have h2 := Nat.div_mul_le_self i (2 ^ k)
  rw [Nat.succ_mul] at h1
  omega
theorem xor_i64 (a : Nat) (h : a < 9223372036854775806) : bits .xor .i64 (a : Int) 1 = ((a ^^^ 1 : Nat) : Int) := by
  show IntKind.i64.wrap (((BitVec.ofInt 64 (a : Int) ^^^ BitVec.ofInt 64 1).toNat : Nat) : Int) = _
  have e : (BitVec.ofInt 64 (a : Int) ^^^ BitVec.ofInt 64 1).toNat = a ^^^ 1 := by
    rw [BitVec.toNat_xor, BitVec.ofInt_natCast, BitVec.toNat_ofNat, Nat.mod_eq_of_lt (by omega)]
    rfl
  rw [e]
  have := xor1 a
  exact IntWalk.i64_in _ (by omega)
theorem levels_lt {size k : Nat} (h : 2 ^ k < size) : k < levels size := by
  unfold levels
  have hp := Nat.two_pow_pos k
  rw [if_neg (by omega)]
  have : k ≤ Nat.log2 (size - 1) := (Nat.le_log2 (by omega)).2 (by omega)
  omega
theorem levels_ge {size k : Nat} (h : ¬ 2 ^ k < size) : levels size ≤ k := by
  unfold levels
  split
  · omega
  · rename_i h1
    have : Nat.log2 (size - 1) < k := (Nat.log2_lt (by omega)).2 (by omega)
    omega

set_option maxRecDepth 100000 in
set_option maxHeartbeats 1000000 in
theorem beside_no (size i : Int) (h : insideB size i = false) (w : World) :
    Calls Tryd.prog 141 #[.int .i64 size, .int .i64 i] w fun e w' => e = .returned (.tuple #[.int .i64 0, .bool false]) ∧ w = w' := by
  have hc : size < 1 ∨ (1 ≤ size ∧ 1099511627776 < size) ∨ (1 ≤ size ∧ size ≤ 1099511627776 ∧ i < 0) ∨ (1 ≤ size ∧ size ≤ 1099511627776 ∧ 0 ≤ i ∧ size ≤ i) := by
    simp only [insideB, Bool.and_eq_false_iff, decide_eq_false_iff_not] at h
    omega
  clear h
  rcases hc with h1 | ⟨h1, h2⟩ | ⟨h1, h2, h3⟩ | ⟨h1, h2, h3, h4⟩
  · have y1 : decide (size < 1) = true := decide_eq_true h1
    clear h1
    go_enter Tryd.func141, Tryd.ntmps141
    go_wp2_with fail
    go_ret2
    exact ⟨rfl, rfl⟩
  · have y1 : decide (size < 1) = false := decide_eq_false (by omega)
    have y2 : decide (1099511627776 < size) = true := decide_eq_true h2
    clear h1 h2
    go_enter Tryd.func141, Tryd.ntmps141
    go_wp2_with fail
    go_ret2
    exact ⟨rfl, rfl⟩
  · have y1 : decide (size < 1) = false := decide_eq_false (by omega)
    have y2 : decide (1099511627776 < size) = false := decide_eq_false (by omega)
    have y3 : decide (i < 0) = true := decide_eq_true h3
    clear h1 h2 h3
    go_enter Tryd.func141, Tryd.ntmps141
    go_wp2_with fail
    go_ret2
    exact ⟨rfl, rfl⟩
  · have y1 : decide (size < 1) = false := decide_eq_false (by omega)
    have y2 : decide (1099511627776 < size) = false := decide_eq_false (by omega)
    have y3 : decide (i < 0) = false := decide_eq_false (by omega)
    have y4 : decide (size ≤ i) = true := decide_eq_true h4
    clear h1 h2 h3 h4
    go_enter Tryd.func141, Tryd.ntmps141
    go_wp2_with fail
    go_ret2
    exact ⟨rfl, rfl⟩

set_option maxRecDepth 100000 in
set_option maxHeartbeats 1000000 in
theorem beside_yes (size i : Nat) (hs : size ≤ 1099511627776) (hi : i < size) (w : World) :
    Calls Tryd.prog 141 #[.int .i64 size, .int .i64 i] w fun e w' => e = .returned (.tuple #[.int .i64 (besideOf size i), .bool true]) ∧ w = w' := by
  have y1 : decide ((size : Int) < 1) = false := decide_eq_false (by omega)
  have y2 : decide (1099511627776 < (size : Int)) = false := decide_eq_false (by omega)
  have y3 : decide ((i : Int) < 0) = false := decide_eq_false (by omega)
  have y4 : decide ((size : Int) ≤ (i : Int)) = false := decide_eq_false (by omega)
  go_enter Tryd.func141, Tryd.ntmps141
  go_wp2_with fail
  clear y1 y2 y3 y4
  go_loop [6, 7] (fun n v => ∃ k : Nat, v = .int .i64 (k : Int) ∧ n = .int .i64 (cnt size i k : Nat) ∧ Hid (k ≤ levels size)) (fun _ v => 41 - (intOf v).toNat)
  case atStart => exact ⟨0, rfl, rfl, Nat.zero_le _⟩
  case round =>
    obtain ⟨k, rfl, rfl, hkl⟩ := hrel
    have hc := cnt_le size i k
    have hk0 : (0 : Int) ≤ (k : Int) := by omega
    have hk41 : (k : Int) < 64 := by
      rcases Nat.lt_or_ge k 41 with h | h
      · omega
      · have h1 := hkl.out
        have h2 : levels size ≤ 40 := levels_ge (by have h40 : (2 : Nat) ^ 40 = 1099511627776 := by decide
                                                    omega)
        omega
    obtain ⟨p, hp⟩ : ∃ p, Hid (2 ^ k = p) := ⟨_, Lib.hid rfl⟩
    have hk40' : k ≤ 40 := by
      have h1 := hkl.out
      have h2 : levels size ≤ 40 := levels_ge (by have h40 : (2 : Nat) ^ 40 = 1099511627776 := by decide
                                                  omega)
      omega
    have hp40 : Hid (p ≤ 1099511627776) := by
      show p ≤ _
      rw [← hp.out]
      have h40 : (2 : Nat) ^ 40 = 1099511627776 := by decide
      rw [← h40]
      exact Nat.pow_le_pow_right (by omega) hk40'
    have z1 : wrap64 ((2 : Int) ^ k) = (p : Int) := by
      have h1 : ((2 : Int) ^ k) = (p : Int) := by rw [← hp.out]; simp
      rw [h1]
      have := hp40.out
      exact IntWalk.wrap64_in _ (by omega)
    have z2 : bits .xor .i64 ((i : Int) / 2 ^ k) 1 = ((i / 2 ^ k ^^^ 1 : Nat) : Int) := by
      have h1 : (i : Int) / 2 ^ k = ((i / 2 ^ k : Nat) : Int) := by simp
      rw [h1]
      have := Nat.div_le_self i (2 ^ k)
      exact xor_i64 _ (by omega)
    obtain ⟨x, hx⟩ : ∃ x, Hid (i / 2 ^ k ^^^ 1 = x) := ⟨_, Lib.hid rfl⟩
    rw [hx.out] at z2
    obtain ⟨q, hq⟩ : ∃ q, Hid (nbAt i k = q) := ⟨_, Lib.hid rfl⟩
    have z3 : wrap64 ((x : Int) * 2 ^ k) = (q : Int) := by
      have h1 : ((x : Int) * 2 ^ k) = (q : Int) := by rw [← hq.out, ← hx.out]; unfold nbAt; simp
      rw [h1]
      have := nbAt_le i k
      have h2 := hq.out
      have h3 := hp.out
      have h4 := hp40.out
      exact IntWalk.wrap64_in _ (by omega)
    by_cases hlt : p < size
    · have hs2 : Hid (k + 1 ≤ levels size) := levels_lt (by rw [hp.out]; exact hlt)
      by_cases hq2 : q < size
      · have hz1 : (p : Int) < (size : Int) := by omega
        have hz2 : (q : Int) < (size : Int) := by omega
        have hst : Hid (cnt size i (k + 1) = cnt size i k + 1) := by show _ = _; simp only [cnt]; rw [hq.out, if_pos hq2]
        clear hlt hq2
        go_wp2_with fail
        go_round
        case rel => exact ⟨k + 1, by go_num, by rw [hst.out]; go_num, hs2.out⟩
        case measure => simp [intOf]; omega
      · have hz1 : (p : Int) < (size : Int) := by omega
        have hz2 : decide (q < size) = false := decide_eq_false (by omega)
        have hst : Hid (cnt size i (k + 1) = cnt size i k) := by show _ = _; simp only [cnt]; rw [hq.out, if_neg hq2]; rfl
        clear hlt hq2
        go_wp2_with fail
        go_round
        case rel => exact ⟨k + 1, by go_num, by rw [hst.out], hs2.out⟩
        case measure => simp [intOf]; omega
    · have hz1 : decide (p < size) = false := decide_eq_false (by omega)
      have hst : Hid (besideOf size i = cnt size i k) := by
        have h1 := levels_ge (size := size) (k := k) (by rw [hp.out]; exact hlt)
        have h2 := hkl.out
        obtain rfl : k = levels size := by omega
        rfl
      clear hlt
      go_wp2_with fail
      go_ret2
      refine ⟨?_, rfl⟩
      show Ending.returned (.tuple #[.int .i64 ((cnt size i k : Nat) : Int), .bool true]) = _
      rw [hst.out]
end Go.Proofs.YthkdlaohaekilaaDoor.ProofBeside

namespace Go.Proofs.YthkdlaohaekilaaDoor.Beside17
open Go Go.RowKit Go.Proofs.YthkdlaohaekilaaDoor Go.Proofs.YthkdlaohaekilaaDoor.Mem Go.Proofs.YthkdlaohaekilaaDoor.Sha Go.Proofs.YthkdlaohaekilaaDoor.Bytes Go.Proofs.YthkdlaohaekilaaDoor.TreeMath Go.Proofs.YthkdlaohaekilaaDoor.Sides Go.Proofs.YthkdlaohaekilaaDoor.RefSides Go.Proofs.YthkdlaohaekilaaDoor.ProofBeside

theorem xor1_eq (a : Nat) : a ^^^ 1 = if a % 2 = 1 then a - 1 else a + 1 := by
  have h1 : (a ^^^ 1) / 2 = a / 2 := by
    have h := Nat.shiftRight_xor_distrib (a := a) (b := 1) (i := 1)
    simpa [Nat.shiftRight_succ] using h
  have h2 : ((a ^^^ 1) % 2 = 1) ↔ ¬ ((a % 2 = 1) ↔ (1 % 2 = 1)) := Nat.xor_mod_two_eq_one
  split <;> omega
theorem nb_lvl {n i l : Nat} (hi : i < n) : (lvl n i l).length = if nbAt i l < n then 1 else 0 := by
  unfold lvl nbAt
  rw [xor1_eq]
  by_cases h1 : i / 2 ^ l % 2 = 1
  · rw [if_pos h1, if_pos h1, if_pos]
    · rfl
    · have h2 := Nat.div_mul_le_self i (2 ^ l)
      have h3 := Nat.mul_le_mul_right (2 ^ l) (Nat.sub_le (i / 2 ^ l) 1)
      omega
  · rw [if_neg h1, if_neg h1]
    split <;> rfl
theorem cnt_lv {n i : Nat} (hi : i < n) : ∀ k, cnt n i k = (lv n i k).length
  | 0 => rfl
  | k + 1 => by rw [lv_succ, List.length_append, nb_lvl hi, ← cnt_lv hi k]; rfl
theorem levels_pow (size : Nat) : size ≤ 2 ^ levels size := by
  rcases Nat.lt_or_ge (2 ^ levels size) size with h | h
  · have := levels_lt h; omega
  · exact h
theorem beside_sides {n i : Nat} (hi : i < n) : besideOf n i = (sides n i).length := by
  unfold besideOf
  rw [cnt_lv hi, sides_eq hi (levels_pow n)]
theorem half_pow (n : Nat) : ∃ m, half n = 2 ^ m := ⟨_, rfl⟩
theorem pow_le_half {m n : Nat} (h2 : 2 ≤ n) (h : 2 ^ m < n) : 2 ^ m ≤ half n := by
  unfold half
  exact Nat.pow_le_pow_right (by omega) ((Nat.le_log2 (by omega)).2 (by omega))

set_option maxRecDepth 100000 in
set_option maxHeartbeats 1000000 in
theorem half17_any (n : Nat) (h2 : 2 ≤ n) (hn : n ≤ 1099511627776) (w : World) :
    Calls Tryd.prog 103 #[.int .i64 n] w fun e w' => e = .returned (.int .i64 (half n : Nat)) ∧ w = w' := by
  have hlt := half_lt h2
  obtain ⟨H, hH⟩ : ∃ H, Hid (half n = H) := ⟨_, Lib.hid rfl⟩
  rw [hH.out] at hlt ⊢
  go_enter Tryd.func103, Tryd.ntmps103
  go_wp2_with fail
  go_loop [3] (fun v => ∃ k m : Nat, v = .int .i64 (k : Int) ∧ Hid (k = 2 ^ m) ∧ 1 ≤ k ∧ k ≤ H) (fun v => H - (intOf v).toNat)
  case atStart => exact ⟨1, 0, rfl, rfl, Nat.le_refl _, by have := half_pos n; rw [hH.out] at this; exact this⟩
  case round =>
    obtain ⟨k, m, rfl, hm, hk1, hk⟩ := hrel
    have z1 : IntKind.i64.wrap (2 * (k : Int)) = 2 * (k : Int) := IntWalk.i64_in _ (by omega)
    have z2 : wrap64 (2 * (k : Int)) = 2 * (k : Int) := IntWalk.wrap64_in _ (by omega)
    have hk0 : (0 : Int) ≤ (k : Int) := by omega
    have hkb : (k : Int) ≤ 1099511627776 := by omega
    by_cases hc : 2 * k < n
    · have hz : 2 * (k : Int) < (n : Int) := by omega
      have hm2 : Hid (2 * k = 2 ^ (m + 1)) := by show _ = _; rw [hm.out, Nat.pow_succ, Nat.mul_comm]
      have hle : Hid (2 * k ≤ H) := (by show _ ≤ _; rw [hm2.out, ← hH.out]; exact pow_le_half h2 (by rw [← hm2.out]; exact hc))
      clear hc
      go_wp2_with fail
      go_round
      case rel => exact ⟨2 * k, m + 1, by go_num, hm2.out, by omega, hle.out⟩
      case measure => (have := hle.out; simp [intOf]; omega)
    · have hz : ¬ (2 * (k : Int) < (n : Int)) := by omega
      have he : Hid (k = H) := by
        show k = H
        have h3 := half_ge n
        have h4 := hH.out
        obtain ⟨a, ha⟩ := half_pow n
        have h5 : 2 ^ m ≤ 2 ^ a := by have := hm.out; omega
        have h6 : m = a := by
          rcases Nat.lt_or_ge m a with h | h
          · have := Nat.pow_le_pow_right (show 0 < 2 by omega) (show m + 1 ≤ a from h)
            rw [Nat.pow_succ] at this
            have := hm.out
            omega
          · rcases Nat.lt_or_ge a m with h' | h'
            · have := Nat.pow_lt_pow_right (show 1 < 2 by omega) h'
              omega
            · omega
        have := hm.out
        rw [h6] at this
        omega
      clear hc
      go_wp2_with fail
      go_ret
      exact ⟨by rw [he.out]; rfl, rfl⟩

set_option maxRecDepth 100000 in
set_option maxHeartbeats 1000000 in
theorem beside17_no (size i : Int) (h : insideB size i = false) (w : World) :
    Calls Tryd.prog 55 #[.int .i64 size, .int .i64 i] w fun e w' => e = .returned (.int .i64 (-1)) ∧ w = w' := by
  have hc : size < 1 ∨ (1 ≤ size ∧ 1099511627776 < size) ∨ (1 ≤ size ∧ size ≤ 1099511627776 ∧ i < 0) ∨ (1 ≤ size ∧ size ≤ 1099511627776 ∧ 0 ≤ i ∧ size ≤ i) := by
    simp only [insideB, Bool.and_eq_false_iff, decide_eq_false_iff_not] at h
    omega
  clear h
  rcases hc with h1 | ⟨h1, h2⟩ | ⟨h1, h2, h3⟩ | ⟨h1, h2, h3, h4⟩
  · have y1 : decide (size < 1) = true := decide_eq_true h1
    clear h1
    go_enter Tryd.func55, Tryd.ntmps55
    go_wp2_with fail
    go_ret
    exact ⟨rfl, rfl⟩
  · have y1 : decide (size < 1) = false := decide_eq_false (by omega)
    have y2 : decide (1099511627776 < size) = true := decide_eq_true h2
    clear h1 h2
    go_enter Tryd.func55, Tryd.ntmps55
    go_wp2_with fail
    go_ret
    exact ⟨rfl, rfl⟩
  · have y1 : decide (size < 1) = false := decide_eq_false (by omega)
    have y2 : decide (1099511627776 < size) = false := decide_eq_false (by omega)
    have y3 : decide (i < 0) = true := decide_eq_true h3
    clear h1 h2 h3
    go_enter Tryd.func55, Tryd.ntmps55
    go_wp2_with fail
    go_ret
    exact ⟨rfl, rfl⟩
  · have y1 : decide (size < 1) = false := decide_eq_false (by omega)
    have y2 : decide (1099511627776 < size) = false := decide_eq_false (by omega)
    have y3 : decide (i < 0) = false := decide_eq_false (by omega)
    have y4 : decide (size ≤ i) = true := decide_eq_true h4
    clear h1 h2 h3 h4
    go_enter Tryd.func55, Tryd.ntmps55
    go_wp2_with fail
    go_ret
    exact ⟨rfl, rfl⟩

set_option maxRecDepth 100000 in
set_option maxHeartbeats 1000000 in
theorem beside17_yes (size i : Nat) (hs : size ≤ 1099511627776) (hi : i < size) (w : World) :
    Calls Tryd.prog 55 #[.int .i64 size, .int .i64 i] w fun e w' => e = .returned (.int .i64 ((sides size i).length : Nat)) ∧ w = w' := by
  have y1 : decide ((size : Int) < 1) = false := decide_eq_false (by omega)
  have y2 : decide (1099511627776 < (size : Int)) = false := decide_eq_false (by omega)
  have y3 : decide ((i : Int) < 0) = false := decide_eq_false (by omega)
  have y4 : decide (size ≤ i) = false := decide_eq_false (by omega)
  have h40 : Hid ((sides size i).length ≤ 40) := sides_len hi (by rw [show (2 : Nat) ^ 40 = 1099511627776 by decide]; omega)
  obtain ⟨N, hN⟩ : ∃ N, Hid ((sides size i).length = N) := ⟨_, Lib.hid rfl⟩
  rw [hN.out] at h40 ⊢
  go_enter Tryd.func55, Tryd.ntmps55
  go_wp2_with fail
  clear y1 y2 y3 y4
  go_loop [0, 1, 5] (fun a b c => ∃ s j m : Nat, a = .int .i64 (s : Int) ∧ b = .int .i64 (j : Int) ∧ c = .int .i64 (m : Int) ∧ s ≤ size ∧ j < s ∧ Hid (m + (sides s j).length = N)) (fun a _ _ => (intOf a).toNat)
  case atStart => exact ⟨size, i, 0, rfl, rfl, rfl, Nat.le_refl _, hi, by show _ = _; rw [Nat.zero_add, hN.out]⟩
  case round =>
    obtain ⟨s, j, m, rfl, rfl, rfl, hss, hj, hm⟩ := hrel
    have hs0 : (0 : Int) ≤ (s : Int) := by omega
    have hj0 : (0 : Int) ≤ (j : Int) := by omega
    have hm0 : (0 : Int) ≤ (m : Int) := by omega
    have hm40 : (m : Int) ≤ 40 := by have := hm.out; have := h40.out; omega
    by_cases h1 : 1 < s
    · have hz : (1 : Int) < (s : Int) := by omega
      have hlt := half_lt (n := s) (by omega)
      have hpos := half_pos s
      have hT := Lib.hid (fun w' => half17_any s (by omega) (by omega) w')
      have hL := Lib.hid (fun h => sides_left (n := s) (j := j) (by omega) h)
      have hR := Lib.hid (fun h => sides_right (n := s) (j := j) (by omega) h hj)
      obtain ⟨k, hk⟩ : ∃ k, half s = k := ⟨_, rfl⟩
      rw [hk] at hlt hpos hT hL hR
      clear hk
      by_cases hc : j < k
      · have hz2 : (j : Int) < (k : Int) := by omega
        have hm2 : Hid (m + 1 + (sides k j).length = N) := by
          have := hm.out
          rw [hL.out hc, List.length_append] at this
          show _ = _
          simp at this
          omega
        have hc2 : Hid (j < k) := hc
        clear hc hL hR
        go_wp2_with (go_at_call 103; refine (hT.out _).mono ?_; rintro e w' ⟨rfl, rfl⟩)
        go_round
        case rel => exact ⟨k, j, m + 1, rfl, rfl, by go_num, by omega, hc2.out, hm2.out⟩
        case measure => simp [intOf]; omega
      · have hz2 : ¬ ((j : Int) < (k : Int)) := by omega
        have hm2 : Hid (m + 1 + (sides (s - k) (j - k)).length = N) := by
          have := hm.out
          rw [hR.out (by omega), List.length_append] at this
          show _ = _
          simp at this
          omega
        have z1 : ((s : Int) - (k : Int)) = ((s - k : Nat) : Int) := by omega
        have z2 : ((j : Int) - (k : Int)) = ((j - k : Nat) : Int) := by omega
        have hc2 : Hid (k ≤ j) := by show _ ≤ _; omega
        clear hc hL hR
        go_wp2_with (go_at_call 103; refine (hT.out _).mono ?_; rintro e w' ⟨rfl, rfl⟩)
        go_round
        case rel => exact ⟨s - k, j - k, m + 1, (by first | rfl | (congr 1; omega)), (by first | rfl | (have := hc2.out; congr 1; omega)), by go_num, by omega, by have := hc2.out; omega, hm2.out⟩
        case measure => (have := hc2.out; simp [intOf]; omega)
    · have hz : ¬ ((1 : Int) < (s : Int)) := by omega
      have he : Hid (m = N) := by
        have := hm.out
        rw [sides_small (by omega)] at this
        exact this
      clear h1
      go_wp2_with fail
      go_ret
      exact ⟨by rw [he.out]; rfl, rfl⟩
end Go.Proofs.YthkdlaohaekilaaDoor.Beside17

namespace Go.Proofs.YthkdlaohaekilaaDoor.ProofEnc
open Go Go.RowKit Go.Proofs.YthkdlaohaekilaaDoor Go.Proofs.YthkdlaohaekilaaDoor.Mem Go.Proofs.YthkdlaohaekilaaDoor.Sha Go.Proofs.YthkdlaohaekilaaDoor.Bytes Go.Proofs.YthkdlaohaekilaaDoor.Append Go.Proofs.YthkdlaohaekilaaDoor.Octet Go.Proofs.YthkdlaohaekilaaDoor.Octet2 Go.Proofs.YthkdlaohaekilaaDoor.HeadMem Go.Proofs.YthkdlaohaekilaaDoor.ProofBeside

section
variable {w0 w : World} {g : Nat} {r : Option Nat} {l : Text}
end

theorem levels_le {size : Nat} (hs : size ≤ 1099511627776) : levels size ≤ 40 := by
  have h40 : (2 : Nat) ^ 40 = 1099511627776 := by decide
  exact levels_ge (by omega)
theorem besideOf_le {size i : Nat} (hs : size ≤ 1099511627776) : besideOf size i ≤ 40 := Nat.le_trans (cnt_le _ _ _) (levels_le hs)

end Go.Proofs.YthkdlaohaekilaaDoor.ProofEnc

namespace Go.Proofs.YthkdlaohaekilaaDoor.Octet4
open Go Go.RowKit Go.Proofs.YthkdlaohaekilaaDoor Go.Proofs.YthkdlaohaekilaaDoor.Mem Go.Proofs.YthkdlaohaekilaaDoor.Sha Go.Proofs.YthkdlaohaekilaaDoor.Bytes Go.Proofs.YthkdlaohaekilaaDoor.Octet

end Go.Proofs.YthkdlaohaekilaaDoor.Octet4

namespace Go.Proofs.YthkdlaohaekilaaDoor.NumberNew
open Go Go.RowKit Go.Proofs.YthkdlaohaekilaaDoor Go.Proofs.YthkdlaohaekilaaDoor.Mem Go.Proofs.YthkdlaohaekilaaDoor.Sha Go.Proofs.YthkdlaohaekilaaDoor.Bytes Go.Proofs.YthkdlaohaekilaaDoor.Octet Go.Proofs.YthkdlaohaekilaaDoor.Octet2 Go.Proofs.YthkdlaohaekilaaDoor.HeadMem Go.Proofs.YthkdlaohaekilaaDoor.ProofEnc

section
variable {w0 wi : World} {g : Nat} {r : Option Nat} {l : Text}
end
end Go.Proofs.YthkdlaohaekilaaDoor.NumberNew

namespace Go.Proofs.YthkdlaohaekilaaDoor.HeadMem
open Go Go.RowKit Go.Proofs.YthkdlaohaekilaaDoor Go.Proofs.YthkdlaohaekilaaDoor.Mem Go.Proofs.YthkdlaohaekilaaDoor.Sha Go.Proofs.YthkdlaohaekilaaDoor.Bytes Go.Proofs.YthkdlaohaekilaaDoor.Append Go.Proofs.YthkdlaohaekilaaDoor.Octet Go.Proofs.YthkdlaohaekilaaDoor.Octet2

structure HeadD where
  log : Text
  size : Int
  root : Text
  index : Text
  clock : Int
structure HeadD.Ok (h : HeadD) : Prop where
  log : h.log.length = 32
  root : h.root.length = 32
  index : h.index.length = 32
  size : -9223372036854775808 ≤ h.size ∧ h.size ≤ 9223372036854775807
  clock : -9223372036854775808 ≤ h.clock ∧ h.clock ≤ 9223372036854775807
def headCells (h : HeadD) : List Value := cells8 h.log ++ ([.int .i64 h.size] ++ (cells8 h.root ++ (cells8 h.index ++ [.int .i64 h.clock])))
theorem headCells_size {h : HeadD} (ok : h.Ok) : (headCells h)[32]? = some (.int .i64 h.size) := by
  rw [headCells, List.getElem?_append_right (by rw [cells8_len, ok.log]; omega), cells8_len, ok.log]
  rfl
theorem headCells_clock {h : HeadD} (ok : h.Ok) : (headCells h)[97]? = some (.int .i64 h.clock) := by
  rw [headCells, List.getElem?_append_right (by rw [cells8_len, ok.log]; omega), cells8_len, ok.log, List.getElem?_append_right (by simp)]
  rw [List.length_singleton, List.getElem?_append_right (by rw [cells8_len, ok.root]; omega), cells8_len, ok.root, List.getElem?_append_right (by rw [cells8_len, ok.index]; omega), cells8_len, ok.index]
  rfl
/-- Whether a head's numbers may be. -/
def rightB (h : HeadD) : Bool := decide (0 ≤ h.size) && decide (h.size ≤ 1099511627776) && decide (0 ≤ h.clock) && decide (h.clock ≤ 4611686018427387904)
/-- A head's bytes. -/
def headBytes (h : HeadD) : Text := [32] ++ h.log ++ be8 h.size.toNat ++ (h.root ++ h.index) ++ be8 h.clock.toNat
set_option maxRecDepth 100000 in
set_option maxHeartbeats 1000000 in
theorem right_any (h : HeadD) (ok : h.Ok) (w : World) :
    Calls Tryd.prog 90 #[.agg (headCells h).toArray] w fun e w' => e = .returned (.bool (rightB h)) ∧ Below w.heap.size w w' := by
  have e1 : (headCells h).toArray[32]? = some (.int .i64 h.size) := by rw [List.getElem?_toArray]; exact headCells_size ok
  have e2 : (headCells h).toArray[97]? = some (.int .i64 h.clock) := by rw [List.getElem?_toArray]; exact headCells_clock ok
  have f1 := headCells_size ok
  have f2 := headCells_clock ok
  have hb : Below w.heap.size w (w.alloc (.cells (headCells h).toArray 68)) := Below.heap_below w _
  replace hb := Lib.hid hb
  have hk : Hid (rightB h = (decide (0 ≤ h.size) && decide (h.size ≤ 1099511627776) && decide (0 ≤ h.clock) && decide (h.clock ≤ 4611686018427387904))) := rfl
  generalize rightB h = b at *
  generalize headCells h = cs at *
  generalize h.size = n at *
  generalize h.clock = m at *
  rcases Bool.eq_false_or_eq_true (decide (0 ≤ n)) with b1 | b1 <;> rcases Bool.eq_false_or_eq_true (decide (n ≤ 1099511627776)) with b2 | b2 <;> rcases Bool.eq_false_or_eq_true (decide (0 ≤ m)) with b3 | b3 <;> rcases Bool.eq_false_or_eq_true (decide (m ≤ 4611686018427387904)) with b4 | b4
  all_goals
    have k1 := Lib.hid b1
    have k2 := Lib.hid b2
    have k3 := Lib.hid b3
    have k4 := Lib.hid b4
    go_enter Tryd.func90, Tryd.ntmps90
    go_wp2_with fail
    go_ret
    refine ⟨?_, hb.out⟩
    rw [hk.out, k1.out, k2.out, k3.out, k4.out]
    rfl

end Go.Proofs.YthkdlaohaekilaaDoor.HeadMem
