/-
  Texts of the claim, put into one file: SpotsWalk, SpotsRef.
-/
import Derived.Test.YtgldkfaiofkhbaaDoorZ4
import Derived.Test.YtgldkfaiofkhbaaDoorZ1
import Derived.Test.YtgldkfaiofkhbaaDoorShelf
import Derived.Test.YtgldkfaiofkhbaaDoorRows
import Derived.Lib.Hide
import Derived.Shelf.Spec.TrailingZeros
import Derived.Outline
import Derived.WalkLawsBesides

namespace Go.Proofs.YtgldkfaiofkhbaaDoor.SpotsWalk
open Go Go.RowKit Go.Proofs.YtgldkfaiofkhbaaDoor Go.Proofs.YtgldkfaiofkhbaaDoor.Mem Go.Proofs.YtgldkfaiofkhbaaDoor.SpotsMath

/-- A spot as cells. -/
def flat (l : List (Nat × Nat)) : List Value := l.flatMap fun p => [.int .i64 (p.1 : Int), .int .i64 (p.2 : Int)]
theorem flat_len : ∀ l, (flat l).length = l.length * 2
  | [] => rfl
  | p :: l => by have := flat_len l; simp only [flat, List.flatMap_cons, List.length_append, List.length_cons, List.length_nil] at this ⊢; omega
theorem flat_snoc (l : List (Nat × Nat)) (p : Nat × Nat) : flat (l ++ [p]) = flat l ++ [.int .i64 (p.1 : Int), .int .i64 (p.2 : Int)] := by simp [flat]

/-- What both answer. -/
def spotsZ (a b : Int) : List (Nat × Nat) := if a < 0 ∨ 1099511627776 < b then [] else spots (b.toNat - a.toNat) a.toNat b.toNat

theorem infoSpot : (Tryd.prog.info? 129).map (fun i => (i.zero, i.size, i.bytes)) = some (some (.agg #[.int .i64 0, .int .i64 0]), 2, 16) := by kernel_rfl

/-- The lengths of numbers, behind names. -/
def LB (x : Int) : Int := Lib.bitLen x.toNat
def TZ (x : Int) : Int := Lib.ctz 64 x.toNat

theorem len_any (x : Int) (w : World) (h0 : 0 ≤ x) (h1 : x ≤ 18446744073709551615) :
    Calls Tryd.prog 96 #[.int .u64 x] w fun e w' => e = .returned (.int .i64 (LB x)) ∧ w = w' :=
  (Tryd.bits_Len x w h0 h1).mono fun _ _ ⟨h, k⟩ => ⟨h, k.symm⟩
theorem tz_any (x : Int) (w : World) (h0 : 0 ≤ x) (h1 : x < 18446744073709551616) (hT : TabAt 3 Lib.deBruijn64tab w) :
    Calls Tryd.prog 160 #[.int .u64 x] w fun e w' => e = .returned (.int .i64 (TZ x)) ∧ w = w' := by
  obtain ⟨n, rfl⟩ := Int.eq_ofNat_of_zero_le h0
  exact (Tryd.bits_TrailingZeros n (by omega) w (fun _ => hT)).mono fun _ _ ⟨h, k⟩ => ⟨by rw [h]; simp [TZ], k.symm⟩

theorem tab_below {g B : Nat} {tab : List Nat} {w w' : World} (h : TabAt g tab w) (hg : g < B) (hb : Below B w w') : TabAt g tab w' :=
  fun j hj => (hb.cell (p := ⟨g, j, none⟩) hg).trans (h j hj)

theorem LB_bounds (a b : Nat) (h : a < b) (hb : b ≤ 1099511627776) : 1 ≤ LB ((b : Int) - a) ∧ LB ((b : Int) - a) ≤ 41 := by
  have e : ((b : Int) - a).toNat = b - a := by omega
  unfold LB
  rw [e]
  have h64 : (2 : Nat) ^ 64 = 18446744073709551616 := by decide
  obtain ⟨q1, q2, q3⟩ := bitLen_bounds (n := b - a) (by omega) (by omega)
  have h41 : (2 : Nat) ^ 41 = 2199023255552 := by decide
  have q4 := Lib.bitLen_le (b - a) 41 (by decide) (by omega)
  omega
theorem TZ_bounds (a : Nat) (h0 : 0 < a) (h : a < 18446744073709551616) : 0 ≤ TZ (a : Int) ∧ TZ (a : Int) ≤ 63 := by
  unfold TZ
  have h64 : (2 : Nat) ^ 64 = 18446744073709551616 := by decide
  obtain ⟨m, hm, hc⟩ := Lib.ctzFrom_spec 64 a h0 (by omega)
  have hctz : Lib.ctz 64 a = Lib.ctzFrom 64 a := by unfold Lib.ctz; rw [if_neg (by omega)]
  simp only [Int.toNat_natCast]
  rw [hctz]
  omega
theorem level_zero (b : Nat) (h : 0 < b) (hb : b ≤ 1099511627776) : LB ((b : Int) - (0 : Nat)) - 1 = lev 0 b := by
  have q := LB_bounds 0 b h hb
  have p := prog_eq h hb
  unfold prog at p
  rw [if_neg (by omega)] at p
  unfold LB at q ⊢
  have e : ((b : Int) - (0 : Nat)).toNat = b - 0 := by omega
  rw [e] at q ⊢
  omega
theorem level_some (a b : Nat) (h0 : 0 < a) (h : a < b) (hb : b ≤ 1099511627776) : min (LB ((b : Int) - a) - 1) (TZ (a : Int)) = lev a b := by
  have q := LB_bounds a b h hb
  have p := prog_eq h hb
  unfold prog at p
  rw [if_pos h0] at p
  unfold LB TZ at *
  have e : ((b : Int) - a).toNat = b - a := by omega
  rw [e] at q ⊢
  simp only [Int.toNat_natCast]
  omega

theorem two_int {a L b : Nat} (h : a + 2 ^ L ≤ b) : (a : Int) + 2 ^ L ≤ b := by
  have : ((a + 2 ^ L : Nat) : Int) ≤ b := by omega
  simpa using this
theorem two_pos (L : Nat) : (0 : Int) < 2 ^ L := by
  have h := Nat.two_pow_pos L
  have : (0 : Int) < ((2 ^ L : Nat) : Int) := by omega
  simpa using this

set_option maxRecDepth 100000 in
set_option maxHeartbeats 1000000 in
theorem tree_spots_in (a0 b : Nat) (hb : b ≤ 1099511627776) (w : World) (hT : TabAt 3 Lib.deBruijn64tab w) (hg : 3 < w.heap.size) (ha : a0 ≤ 9223372036854775807) :
    Calls Tryd.prog 109 #[.int .i64 a0, .int .i64 b] w fun e w' => ∃ v, e = .returned v ∧ w'.ownsRow w.heap.size 129 2 v (spots (b - a0) a0 b).length (flat (spots (b - a0) a0 b)) ∧ Below w.heap.size w w' := by
  obtain ⟨i0, hi, hz0, hz1, hz2⟩ := info_parts infoSpot
  have hH := Lib.hid hT
  clear hT
  obtain ⟨B, hB⟩ : ∃ B, B = w.heap.size := ⟨_, rfl⟩
  have HB := Lib.hid hB
  rw [← hB]
  rw [← hB] at hg
  clear hB
  have e1 : decide ((a0 : Int) < 0) = false := by simp
  have e2 : decide ((1099511627776 : Int) < (b : Int)) = false := by simp; omega
  go_enter Tryd.func109, Tryd.ntmps109
  go_wp2_with fail
  go_loopw [0, 5, 6] (fun fr l lv wr => ∃ (f a : Nat) (acc : List (Nat × Nat)), fr = .int .i64 (a : Int) ∧ b - a ≤ f ∧ a ≤ 9223372036854775807 ∧ Hid (acc ++ spots f a b = spots (b - a0) a0 b) ∧ wr.ownsRow B 129 2 l acc.length (flat acc) ∧ Below B w wr)
    (fun fr _ _ _ => b - (intOf fr).toNat)
  case atStart => exact ⟨b - a0, a0, [], rfl, Nat.le_refl _, ha, rfl, World.ownsRow_nil _ _ _ _, Below.refl _ _⟩
  case round =>
    obtain ⟨f, a, acc, rfl, hf, ha', hacc, hown, hbel⟩ := hrel
    have hal : acc.length ≤ 1099511627776 := by
      have h1 := spots_len (b - a0) a0 b
      have h2 := hacc.out
      rw [← h2, List.length_append] at h1
      omega
    by_cases hlt : a < b
    · have hLB := LB_bounds a b hlt hb
      have hfit := lev_fits hlt
      have hle := lev_le hlt
      by_cases h0 : 0 < a
      · have hTZ := TZ_bounds a h0 (by omega)
        have hlev := level_some a b h0 hlt hb
        have hTr : Hid (TabAt 3 Lib.deBruijn64tab wr) := tab_below hH.out hg hbel
        obtain ⟨L, hL⟩ : ∃ L, L = lev a b := ⟨_, rfl⟩
        rw [← hL] at hlev hle hfit
        have HL := Lib.hid hL
        clear hL
        obtain ⟨hf1, hf2⟩ := hfit
        have hf3 : (a : Int) + 2 ^ L ≤ b := two_int hf2
        have hf4 : (0 : Int) < 2 ^ L := two_pos L
        clear hf1
        go_wp2_with (first | (go_at_call 96; refine (len_any _ _ (by omega) (by omega)).mono ?_; rintro e w' ⟨rfl, rfl⟩) | (go_at_call 160; refine (tz_any _ _ (by omega) (by omega) hTr.out).mono ?_; rintro e w' ⟨rfl, rfl⟩) | (at_builtin; refine wpList_append_own _ rfl _ _ 177 rfl B 129 i0 (.agg #[.int .i64 0, .int .i64 0]) 2 16 Tryd.underlying177 hi hz0 hz1 hz2 rfl (by decide) _ _ _ rfl (hown.alloc _) ⟨wr.heap.size, 0, none⟩ 1 1 [.int .i64 (L : Int), .int .i64 ((a : Int) / 2 ^ L)] rfl rfl (new_cells _ _ _ _ rfl) (one_two rfl rfl) ?c3a ?c4a ?c5a ?_))
        case c3a => unfold maxLen; omega
        case c4a => omega
        case c5a => have := hbel.size; have := HB.out; simp; omega
        intro v' w1 hown' hgrow _
        have hb1 : Below B w w1 := (hbel.alloc (by have := hbel.size; have := HB.out; omega) _).grown hgrow (by have := hbel.size; have := HB.out; simp; omega) (fun k hk => (hown.lt k hk).1)
        have Hown := Lib.hid hown'
        clear hown' hgrow hown
        go_wp2_with fail
        go_roundw
        case rel =>
          have hL := HL.out
          obtain ⟨g, rfl, hg1, hs⟩ := spots_step hlt hf
          rw [← hL] at hg1 hs
          have hdiv : ((a : Int) / 2 ^ L) = ((a / 2 ^ L : Nat) : Int) := by simp
          have hq := Hown.out
          rw [hdiv] at hq
          refine ⟨g, a + 2 ^ L, acc ++ [(L, a / 2 ^ L)], by simp, hg1, by omega, ?_, ?_, hb1⟩
          · show _ = _
            have hc := hacc.out
            rw [hs] at hc
            simpa using hc
          · rw [flat_snoc]
            simpa using hq
        case measure => simp [intOf]; omega
      · have hz : a = 0 := by omega
        subst hz
        have hlev := level_zero b hlt hb
        have hLB := LB_bounds 0 b hlt hb
        simp only [Int.natCast_zero, Int.sub_zero] at hlev hLB
        obtain ⟨L, hL⟩ : ∃ L, L = lev 0 b := ⟨_, rfl⟩
        rw [← hL] at hlev hle hfit
        have HL := Lib.hid hL
        clear hL
        obtain ⟨hf1, hf2⟩ := hfit
        have hf3 := two_int hf2
        simp only [Int.natCast_zero, Int.zero_add] at hf3
        have hf4 : (0 : Int) < 2 ^ L := two_pos L
        clear hf1 h0
        go_wp2_with (first | (go_at_call 96; refine (len_any _ _ (by omega) (by omega)).mono ?_; rintro e w' ⟨rfl, rfl⟩) | (at_builtin; refine wpList_append_own _ rfl _ _ 177 rfl B 129 i0 (.agg #[.int .i64 0, .int .i64 0]) 2 16 Tryd.underlying177 hi hz0 hz1 hz2 rfl (by decide) _ _ _ rfl (hown.alloc _) ⟨wr.heap.size, 0, none⟩ 1 1 [.int .i64 (L : Int), .int .i64 0] rfl rfl (new_cells _ _ _ _ rfl) (one_two rfl rfl) ?c3b ?c4b ?c5b ?_))
        case c3b => unfold maxLen; omega
        case c4b => omega
        case c5b => have := hbel.size; have := HB.out; simp; omega
        intro v' w1 hown' hgrow _
        have hb1 : Below B w w1 := (hbel.alloc (by have := hbel.size; have := HB.out; omega) _).grown hgrow (by have := hbel.size; have := HB.out; simp; omega) (fun k hk => (hown.lt k hk).1)
        have Hown := Lib.hid hown'
        clear hown' hgrow hown
        go_wp2_with fail
        go_roundw
        case rel =>
          have hL := HL.out
          obtain ⟨g, rfl, hg1, hs⟩ := spots_step hlt hf
          rw [← hL] at hg1 hs
          simp only [Nat.zero_add, Nat.zero_div] at hg1 hs
          have hq := Hown.out
          refine ⟨g, 2 ^ L, acc ++ [(L, 0)], by simp, hg1, by omega, ?_, ?_, hb1⟩
          · show _ = _
            have hc := hacc.out
            rw [hs] at hc
            simpa using hc
          · rw [flat_snoc]
            simpa using hq
        case measure => simp [intOf]; omega
    · go_wp2_with fail
      go_ret
      have hc := hacc.out
      rw [spots_done hlt, List.append_nil] at hc
      rw [← hc]
      exact ⟨_, rfl, hown, hbel⟩
end Go.Proofs.YtgldkfaiofkhbaaDoor.SpotsWalk

namespace Go.Proofs.YtgldkfaiofkhbaaDoor.SpotsWalk
open Go Go.RowKit Go.Proofs.YtgldkfaiofkhbaaDoor Go.Proofs.YtgldkfaiofkhbaaDoor.Mem Go.Proofs.YtgldkfaiofkhbaaDoor.SpotsMath

end Go.Proofs.YtgldkfaiofkhbaaDoor.SpotsWalk
