/-
  The document's Spots, walked.
-/
import Derived.Test.YtngieimjlkpkaaaDoorSpotsWalk
namespace Go.Proofs.YtngieimjlkpkaaaDoor.SpotsWalk
open Go Go.RowKit Go.Proofs.YtngieimjlkpkaaaDoor Go.Proofs.YtngieimjlkpkaaaDoor.Mem Go.Proofs.YtngieimjlkpkaaaDoor.SpotsMath

theorem pow_le40 {l : Nat} (h : l ≤ 40) : (2 : Int) ^ l ≤ 1099511627776 := by
  have h1 : (2 : Nat) ^ l ≤ 2 ^ 40 := Nat.pow_le_pow_right (by decide) h
  have h40 : (2 : Nat) ^ 40 = 1099511627776 := by decide
  have : ((2 ^ l : Nat) : Int) ≤ 1099511627776 := by omega
  simpa using this

/-- The search's state. -/
def Search (a b l : Nat) : Prop := l ≤ 40 ∧ Fits a b l ∧ lvGo a b (40 - l) l = lev a b
theorem search_start {a b : Nat} (h : a < b) : Search a b 0 := ⟨by omega, fits_zero h, rfl⟩
theorem search_next {a b l : Nat} (h : Search a b l) (hl : l < 40) (h1 : a % (2 * 2 ^ l) = 0) (h2 : a + 2 * 2 ^ l ≤ b) : Search a b (l + 1) := by
  obtain ⟨q1, q2, q3⟩ := h
  have hf : Fits a b (l + 1) := ⟨by rw [Nat.pow_succ, Nat.mul_comm]; exact h1, by rw [Nat.pow_succ, Nat.mul_comm]; exact h2⟩
  refine ⟨by omega, hf, ?_⟩
  obtain ⟨k, hk⟩ : ∃ k, 40 - l = k + 1 := ⟨40 - l - 1, by omega⟩
  rw [hk, lvGo, if_pos hf] at q3
  rw [show 40 - (l + 1) = k by omega]
  exact q3
theorem search_end {a b l : Nat} (h : Search a b l) (hn : ¬ (l < 40 ∧ a % (2 * 2 ^ l) = 0 ∧ a + 2 * 2 ^ l ≤ b)) : l = lev a b := by
  obtain ⟨q1, q2, q3⟩ := h
  by_cases hl : l = 40
  · subst hl
    exact q3
  · obtain ⟨k, hk⟩ : ∃ k, 40 - l = k + 1 := ⟨40 - l - 1, by omega⟩
    rw [hk, lvGo, if_neg] at q3
    · exact q3
    · rintro ⟨h1, h2⟩
      rw [Nat.pow_succ, Nat.mul_comm] at h1 h2
      exact hn ⟨by omega, h1, h2⟩
theorem mod_int {a l : Nat} : ((a : Int) % (2 * 2 ^ l) == 0) = decide (a % (2 * 2 ^ l) = 0) := by
  have e : ((a : Int) % (2 * 2 ^ l)) = ((a % (2 * 2 ^ l) : Nat) : Int) := by simp
  rw [e, Bool.eq_iff_iff]
  simp only [beq_iff_eq, decide_eq_true_eq]
  omega
theorem le_int {a b l : Nat} : ((a : Int) + 2 * 2 ^ l ≤ b) ↔ (a + 2 * 2 ^ l ≤ b) := by
  have e : ((a : Int) + 2 * 2 ^ l) = ((a + 2 * 2 ^ l : Nat) : Int) := by simp
  rw [e]
  omega

set_option maxRecDepth 100000 in
set_option maxHeartbeats 1000000 in
theorem ref_spots_in (a0 b : Nat) (hab : a0 ≤ b) (hb : b ≤ 1099511627776) (w : World) :
    Calls Tryd.prog 12 #[.int .i64 a0, .int .i64 b] w fun e w' => ∃ v, e = .returned v ∧ w'.ownsRow w.heap.size 26 2 v (spots (b - a0) a0 b).length (flat (spots (b - a0) a0 b)) ∧ Below w.heap.size w w' := by
  obtain ⟨i0, hi, hz0, hz1, hz2⟩ := info_parts infoSpot
  obtain ⟨B, hB⟩ : ∃ B, B = w.heap.size := ⟨_, rfl⟩
  have HB := Lib.hid hB
  rw [← hB]
  clear hB
  have e1 : decide ((a0 : Int) < 0) = false := by simp
  have e2 : decide ((1099511627776 : Int) < (b : Int)) = false := by simp; omega
  have e3 : decide ((b : Int) < (a0 : Int)) = false := by simp; omega
  have e4 : decide (b < a0) = false := by simp; omega
  go_enter Tryd.func12, Tryd.ntmps12
  go_wp2_with fail
  go_loopw [0, 5, 6] (fun fr l lv wr => ∃ (f a : Nat) (acc : List (Nat × Nat)), fr = .int .i64 (a : Int) ∧ b - a ≤ f ∧ a ≤ b ∧ Hid (acc ++ spots f a b = spots (b - a0) a0 b) ∧ wr.ownsRow B 26 2 l acc.length (flat acc) ∧ Below B w wr)
    (fun fr _ _ _ => b - (intOf fr).toNat)
  case atStart => exact ⟨b - a0, a0, [], rfl, Nat.le_refl _, hab, rfl, World.ownsRow_nil _ _ _ _, Below.refl _ _⟩
  case round =>
    obtain ⟨f, a, acc, rfl, hf, ha', hacc, hown, hbel⟩ := hrel
    have hal : acc.length ≤ 1099511627776 := by
      have h1 := spots_len (b - a0) a0 b
      have h2 := hacc.out
      rw [← h2, List.length_append] at h1
      omega
    by_cases hlt : a < b
    · go_wp2_with fail
      go_loop [6] (fun lv => ∃ l : Nat, lv = .int .i64 (l : Int) ∧ l ≤ 40 ∧ Hid (Search a b l)) (fun lv => 40 - (intOf lv).toNat)
      case atStart => exact ⟨0, rfl, by omega, search_start hlt⟩
      case round =>
        obtain ⟨l, rfl, hl, hsr⟩ := hrel
        have hp1 : (0 : Int) < 2 ^ l := two_pos l
        have hp2 : (2 : Int) ^ l ≤ 1099511627776 := pow_le40 hl
        by_cases hgo : l < 40 ∧ a % (2 * 2 ^ l) = 0 ∧ a + 2 * 2 ^ l ≤ b
        · obtain ⟨g1, g2, g3⟩ := hgo
          have Hn := Lib.hid (search_next hsr.out g1 g2 g3)
          have m1 : ((a : Int) % (2 * 2 ^ l) == 0) = true := by rw [mod_int]; simpa using g2
          have m2 : (a : Int) + 2 * 2 ^ l ≤ b := le_int.2 g3
          clear g2 g3
          go_wp2_with fail
          go_round
          case rel => exact ⟨l + 1, by go_num, by omega, Hn.out⟩
          case measure => simp [intOf]; omega
        · have hL := search_end hsr.out hgo
          have HL := Lib.hid hL
          have hfit := lev_fits hlt
          rw [← hL] at hfit
          clear hL
          obtain ⟨hf1, hf2⟩ := hfit
          have hf3 : (a : Int) + 2 ^ l ≤ b := two_int hf2
          clear hf1
          have part : ∀ c : Bool, True := fun _ => trivial
          clear part
          by_cases g1 : l < 40
          · by_cases g2 : a % (2 * 2 ^ l) = 0
            · have m1 : ((a : Int) % (2 * 2 ^ l) == 0) = true := by rw [mod_int]; simpa using g2
              have m2 : ¬ (a : Int) + 2 * 2 ^ l ≤ b := fun h => hgo ⟨g1, g2, le_int.1 h⟩
              have m3 : decide ((a : Int) + 2 * 2 ^ l ≤ b) = false := by simpa using m2
              clear g2 hgo m2
              go_wp2_with (at_builtin; refine wpList_append_own _ rfl _ _ 22 rfl B 26 i0 (.agg #[.int .i64 0, .int .i64 0]) 2 16 Tryd.underlying22 hi hz0 hz1 hz2 rfl (by decide) _ _ _ rfl (hown.alloc _) ⟨wr.heap.size, 0, none⟩ 1 1 [.int .i64 (l : Int), .int .i64 ((a : Int) / 2 ^ l)] rfl rfl (new_cells _ _ _ _ rfl) (one_two rfl rfl) ?c3ra ?c4ra ?c5ra ?_)
              case c3ra => unfold maxLen; omega
              case c4ra => omega
              case c5ra => have := hbel.size; have := HB.out; simp; omega
              intro v' w1 hown' hgrow _
              have hb1 : Below B w w1 := (hbel.alloc (by have := hbel.size; have := HB.out; omega) _).grown hgrow (by have := hbel.size; have := HB.out; simp; omega) (fun k hk => (hown.lt k hk).1)
              have Hown := Lib.hid hown'
              clear hown' hgrow hown
              go_wp2_with fail
              go_roundw
              case rel =>
                have hL := HL.out
                obtain ⟨g, rfl, hg1, hs⟩ := spots_step hlt hf
                rw [← hL] at hg1 hs
                have hdiv : ((a : Int) / 2 ^ l) = ((a / 2 ^ l : Nat) : Int) := by simp
                have hq := Hown.out
                rw [hdiv] at hq
                refine ⟨g, a + 2 ^ l, acc ++ [(l, a / 2 ^ l)], by simp, hg1, by omega, ?_, ?_, hb1⟩
                · show _ = _
                  have hc := hacc.out
                  rw [hs] at hc
                  simpa using hc
                · rw [flat_snoc]
                  simpa using hq
              case measure => simp [intOf]; omega
            · have m1 : ((a : Int) % (2 * 2 ^ l) == 0) = false := by rw [mod_int]; simpa using g2
              clear g2 hgo
              go_wp2_with (at_builtin; refine wpList_append_own _ rfl _ _ 22 rfl B 26 i0 (.agg #[.int .i64 0, .int .i64 0]) 2 16 Tryd.underlying22 hi hz0 hz1 hz2 rfl (by decide) _ _ _ rfl (hown.alloc _) ⟨wr.heap.size, 0, none⟩ 1 1 [.int .i64 (l : Int), .int .i64 ((a : Int) / 2 ^ l)] rfl rfl (new_cells _ _ _ _ rfl) (one_two rfl rfl) ?c3rb ?c4rb ?c5rb ?_)
              case c3rb => unfold maxLen; omega
              case c4rb => omega
              case c5rb => have := hbel.size; have := HB.out; simp; omega
              intro v' w1 hown' hgrow _
              have hb1 : Below B w w1 := (hbel.alloc (by have := hbel.size; have := HB.out; omega) _).grown hgrow (by have := hbel.size; have := HB.out; simp; omega) (fun k hk => (hown.lt k hk).1)
              have Hown := Lib.hid hown'
              clear hown' hgrow hown
              go_wp2_with fail
              go_roundw
              case rel =>
                have hL := HL.out
                obtain ⟨g, rfl, hg1, hs⟩ := spots_step hlt hf
                rw [← hL] at hg1 hs
                have hdiv : ((a : Int) / 2 ^ l) = ((a / 2 ^ l : Nat) : Int) := by simp
                have hq := Hown.out
                rw [hdiv] at hq
                refine ⟨g, a + 2 ^ l, acc ++ [(l, a / 2 ^ l)], by simp, hg1, by omega, ?_, ?_, hb1⟩
                · show _ = _
                  have hc := hacc.out
                  rw [hs] at hc
                  simpa using hc
                · rw [flat_snoc]
                  simpa using hq
              case measure => simp [intOf]; omega
          · clear hgo
            go_wp2_with (at_builtin; refine wpList_append_own _ rfl _ _ 22 rfl B 26 i0 (.agg #[.int .i64 0, .int .i64 0]) 2 16 Tryd.underlying22 hi hz0 hz1 hz2 rfl (by decide) _ _ _ rfl (hown.alloc _) ⟨wr.heap.size, 0, none⟩ 1 1 [.int .i64 (l : Int), .int .i64 ((a : Int) / 2 ^ l)] rfl rfl (new_cells _ _ _ _ rfl) (one_two rfl rfl) ?c3rc ?c4rc ?c5rc ?_)
            case c3rc => unfold maxLen; omega
            case c4rc => omega
            case c5rc => have := hbel.size; have := HB.out; simp; omega
            intro v' w1 hown' hgrow _
            have hb1 : Below B w w1 := (hbel.alloc (by have := hbel.size; have := HB.out; omega) _).grown hgrow (by have := hbel.size; have := HB.out; simp; omega) (fun k hk => (hown.lt k hk).1)
            have Hown := Lib.hid hown'
            clear hown' hgrow hown
            go_wp2_with fail
            go_roundw
            case rel =>
              have hL := HL.out
              obtain ⟨g, rfl, hg1, hs⟩ := spots_step hlt hf
              rw [← hL] at hg1 hs
              have hdiv : ((a : Int) / 2 ^ l) = ((a / 2 ^ l : Nat) : Int) := by simp
              have hq := Hown.out
              rw [hdiv] at hq
              refine ⟨g, a + 2 ^ l, acc ++ [(l, a / 2 ^ l)], by simp, hg1, by omega, ?_, ?_, hb1⟩
              · show _ = _
                have hc := hacc.out
                rw [hs] at hc
                simpa using hc
              · rw [flat_snoc]
                simpa using hq
            case measure => simp [intOf]; omega
    · go_wp2_with fail
      go_ret
      have hc := hacc.out
      rw [spots_done hlt, List.append_nil] at hc
      rw [← hc]
      exact ⟨_, rfl, hown, hbel⟩
end Go.Proofs.YtngieimjlkpkaaaDoor.SpotsWalk
