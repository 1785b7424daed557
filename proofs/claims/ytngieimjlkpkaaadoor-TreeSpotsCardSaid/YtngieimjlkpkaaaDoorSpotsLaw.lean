/-
  TreeSpots, walked: out-of-range arguments, Same, the law.
-/
import Derived.Test.YtngieimjlkpkaaaDoorSpotsRef
import Derived.Deep.QuietTactic
import Derived.BigQuiet
namespace Go.Proofs.YtngieimjlkpkaaaDoor.SpotsWalk
open Go Go.RowKit Go.Proofs.YtngieimjlkpkaaaDoor Go.Proofs.YtngieimjlkpkaaaDoor.Mem Go.Proofs.YtngieimjlkpkaaaDoor.SpotsMath

theorem spotsZ_in {a b : Nat} (h : b ≤ 1099511627776) : spotsZ a b = spots (b - a) a b := by
  unfold spotsZ
  rw [if_neg (by omega)]
  rfl

set_option maxRecDepth 100000 in
set_option maxHeartbeats 1000000 in
theorem tree_spots (a b : Int) (h1 : -9223372036854775808 ≤ a) (h2 : a ≤ 9223372036854775807) (h3 : -9223372036854775808 ≤ b) (h4 : b ≤ 9223372036854775807) (w : World)
    (hT : TabAt 1 Lib.deBruijn64tab w) (hg : 1 < w.heap.size) :
    Calls Tryd.prog 10 #[.int .i64 a, .int .i64 b] w fun e w' => ∃ v, e = .returned v ∧ w'.ownsRow w.heap.size 26 2 v (spotsZ a b).length (flat (spotsZ a b)) ∧ Below w.heap.size w w' := by
  by_cases c : a < 0 ∨ 1099511627776 < b
  · have e : spotsZ a b = [] := by unfold spotsZ; rw [if_pos c]
    rw [e]
    have HH := Lib.hid hT
    clear hT e
    have hs := Lib.hid (show True from trivial)
    clear hs
    by_cases ca : a < 0
    · have e1 : decide (a < 0) = true := by simpa using ca
      clear c
      go_enter Tryd.func10, Tryd.ntmps10
      go_wp2_with fail
      go_ret
      exact ⟨_, rfl, World.ownsRow_nil _ _ _ _, Below.refl _ _⟩
    · have cb : 1099511627776 < b := by omega
      have e1 : decide (a < 0) = false := by simpa using ca
      have e2 : decide (1099511627776 < b) = true := by simpa using cb
      clear c
      go_enter Tryd.func10, Tryd.ntmps10
      go_wp2_with fail
      go_ret
      exact ⟨_, rfl, World.ownsRow_nil _ _ _ _, Below.refl _ _⟩
  · obtain ⟨a, rfl⟩ := Int.eq_ofNat_of_zero_le (show 0 ≤ a by omega)
    by_cases cb : 0 ≤ b
    · obtain ⟨b, rfl⟩ := Int.eq_ofNat_of_zero_le cb
      rw [spotsZ_in (by omega)]
      exact tree_spots_in a b (by omega) w hT hg (by omega)
    · have e : spotsZ a b = [] := by unfold spotsZ; rw [if_neg c]; exact spots_done (by omega)
      rw [e]
      have HH := Lib.hid hT
      clear hT e
      have e1 : decide ((a : Int) < 0) = false := by simp
      have e2 : decide (1099511627776 < b) = false := by simp; omega
      have e3 : decide ((a : Int) < b) = false := by simp; omega
      clear c
      go_enter Tryd.func10, Tryd.ntmps10
      go_wp2_with fail
      refine wp_loop_rounds 1 ?_
      rw [rounds_succ]
      go_wp2_with fail
      go_ret
      exact ⟨_, rfl, World.ownsRow_nil _ _ _ _, Below.refl _ _⟩

set_option maxRecDepth 100000 in
set_option maxHeartbeats 1000000 in
theorem ref_spots (a b : Int) (h1 : -9223372036854775808 ≤ a) (h2 : a ≤ 9223372036854775807) (h3 : -9223372036854775808 ≤ b) (h4 : b ≤ 9223372036854775807) (w : World) :
    Calls Tryd.prog 12 #[.int .i64 a, .int .i64 b] w fun e w' => ∃ v, e = .returned v ∧ w'.ownsRow w.heap.size 26 2 v (spotsZ a b).length (flat (spotsZ a b)) ∧ Below w.heap.size w w' := by
  by_cases c : a < 0 ∨ 1099511627776 < b ∨ b < a
  · have e : spotsZ a b = [] := by
      unfold spotsZ
      by_cases d : a < 0 ∨ 1099511627776 < b
      · rw [if_pos d]
      · rw [if_neg d]; exact spots_done (by omega)
    rw [e]
    clear e
    by_cases ca : a < 0
    · have e1 : decide (a < 0) = true := by simpa using ca
      clear c
      go_enter Tryd.func12, Tryd.ntmps12
      go_wp2_with fail
      go_ret
      exact ⟨_, rfl, World.ownsRow_nil _ _ _ _, Below.refl _ _⟩
    · have e1 : decide (a < 0) = false := by simpa using ca
      by_cases cb : b < a
      · have e2 : decide (b < a) = true := by simpa using cb
        clear c
        go_enter Tryd.func12, Tryd.ntmps12
        go_wp2_with fail
        go_ret
        exact ⟨_, rfl, World.ownsRow_nil _ _ _ _, Below.refl _ _⟩
      · have e2 : decide (b < a) = false := by simpa using cb
        have cc : 1099511627776 < b := by omega
        have e3 : decide (1099511627776 < b) = true := by simpa using cc
        clear c
        go_enter Tryd.func12, Tryd.ntmps12
        go_wp2_with fail
        go_ret
        exact ⟨_, rfl, World.ownsRow_nil _ _ _ _, Below.refl _ _⟩
  · obtain ⟨a, rfl⟩ := Int.eq_ofNat_of_zero_le (show 0 ≤ a by omega)
    obtain ⟨b, rfl⟩ := Int.eq_ofNat_of_zero_le (show 0 ≤ b by omega)
    rw [spotsZ_in (by omega)]
    exact ref_spots_in a b (by omega) (by omega) w

theorem flat_get (S : List (Nat × Nat)) (k : Nat) (p : Nat × Nat) (h : S[k]? = some p) : (flat S)[k * 2]? = some (.int .i64 (p.1 : Int)) ∧ (flat S)[k * 2 + 1]? = some (.int .i64 (p.2 : Int)) := by
  induction S generalizing k with
  | nil => simp at h
  | cons q S ih =>
    cases k with
    | zero => simp at h; subst h; simp [flat]
    | succ k =>
      have := ih k (by simpa using h)
      have e : (k + 1) * 2 = k * 2 + 1 + 1 := by omega
      rw [e]
      simpa [flat] using this

set_option maxRecDepth 100000 in
set_option maxHeartbeats 1000000 in
/-- Two slices that read as the same spots. -/
theorem same_spots (S : List (Nat × Nat)) (hS : S.length ≤ 1099511627776) (A A' : Option Addr) (c c' : Nat) (w : World) (hr : Reads w 2 A S.length (flat S)) (hr' : Reads w 2 A' S.length (flat S)) :
    Calls Tryd.prog 44 #[.slice A S.length c, .slice A' S.length c'] w fun e w' => e = .returned (.bool true) ∧ ∃ n, w' = w.drewN n := by
  go_enter Tryd.func44, Tryd.ntmps44
  go_wp2_with fail
  go_loopw [5] (fun i wr => ∃ k n : Nat, i = .int .i64 (k : Int) ∧ k ≤ S.length ∧ wr = w.drewN n) (fun i _ => S.length - (intOf i).toNat)
  case atStart => exact ⟨0, 0, rfl, Nat.zero_le _, rfl⟩
  case round =>
    obtain ⟨k, n, rfl, hk, rfl⟩ := hrel
    by_cases hlt : k < S.length
    · obtain ⟨b, o, rfl, hb, hc⟩ := hr.at_ (by omega)
      obtain ⟨b', o', rfl, hb', hc'⟩ := hr'.at_ (by omega)
      obtain ⟨p, hp⟩ : ∃ p, S[k]? = some p := ⟨_, List.getElem?_eq_getElem hlt⟩
      obtain ⟨f1, f2⟩ := flat_get S k p hp
      have g1 := hc _ _ f1
      have g2 := hc _ _ f2
      have g3 := hc' _ _ f1
      have g4 := hc' _ _ f2
      clear hc hc' f1 f2 hp hr hr'
      simp only [← Nat.add_assoc] at g2 g4
      have hz : (k : Int) < (S.length : Int) := by omega
      go_wp2_with fail
      go_quiet (fail)
      go_wp2_with fail
      go_roundw
      case rel => exact ⟨k + 1, _, by go_num, by omega, rfl⟩
      case measure => simp [intOf]; omega
    · go_wp2_with fail
      go_ret
      exact ⟨rfl, n, rfl⟩

theorem same_spots' (S : List (Nat × Nat)) (hS : S.length ≤ 1099511627776) (A A' : Option Addr) (c c' : Nat) (w : World) (hr : Reads w 2 A S.length (flat S)) (hr' : Reads w 2 A' S.length (flat S)) :
    Calls Tryd.prog 11 #[.slice A S.length c, .slice A' S.length c'] w fun e w' => e = .returned (.bool true) ∧ ∃ n, w' = w.drewN n := by
  have h := same_spots S hS A A' c c' w hr hr'
  have H := Lib.hid h
  clear h hr hr'
  go_enter Tryd.func11, Tryd.ntmps11
  go_wp2_with fail
  refine H.out.mono ?_
  rintro e w' ⟨rfl, n, rfl⟩
  go_wp2_with fail
  go_ret
  exact ⟨rfl, n, rfl⟩

theorem spotsZ_some {a b : Int} (h : spotsZ a b ≠ []) : ∃ m n : Nat, a = m ∧ b = n ∧ m < n ∧ n ≤ 1099511627776 ∧ spotsZ a b = spots (n - m) m n := by
  unfold spotsZ at h ⊢
  split at h
  · exact absurd rfl h
  · rename_i c
    obtain ⟨m, rfl⟩ := Int.eq_ofNat_of_zero_le (show 0 ≤ a by omega)
    by_cases hb : 0 ≤ b
    · obtain ⟨n, rfl⟩ := Int.eq_ofNat_of_zero_le hb
      by_cases hlt : m < n
      · exact ⟨m, n, rfl, rfl, hlt, by omega, by rw [if_neg c]; rfl⟩
      · exact absurd (spots_done (by simpa using hlt)) h
    · exact absurd (spots_done (by omega)) h
theorem spotsZ_len (a b : Int) : (spotsZ a b).length ≤ 1099511627776 := by
  by_cases h : spotsZ a b = []
  · rw [h]; simp
  · obtain ⟨m, n, rfl, rfl, h1, h2, h3⟩ := spotsZ_some h
    rw [h3]
    have := spots_len (n - m) m n
    omega

/-- What the law's loop knows at the k-th spot. -/
def At (S : List (Nat × Nat)) (b k a : Nat) : Prop := k ≤ S.length ∧ a ≤ b ∧ ∃ f, b - a ≤ f ∧ S.drop k = spots f a b
theorem At.go {S : List (Nat × Nat)} {b k a : Nat} (h : At S b k a) (hk : k < S.length) : a < b ∧ S[k]? = some (lev a b, a / 2 ^ lev a b) ∧ At S b (k + 1) (a + 2 ^ lev a b) := by
  obtain ⟨h1, h2, f, h3, h4⟩ := h
  have hlt : a < b := by
    apply Decidable.byContradiction
    intro hn
    rw [spots_done hn] at h4
    have : (S.drop k).length = 0 := by rw [h4]; rfl
    rw [List.length_drop] at this
    omega
  obtain ⟨g, rfl, h5, h6⟩ := spots_step hlt h3
  rw [h6] at h4
  have hf := (lev_fits hlt).2
  refine ⟨hlt, ?_, by omega, by omega, g, h5, ?_⟩
  · have := congrArg (fun l => l[0]?) h4
    simpa using this
  · have := congrArg List.tail h4
    simpa using this
theorem At.stop {S : List (Nat × Nat)} {b a : Nat} (h : At S b S.length a) : a = b := by
  obtain ⟨h1, h2, f, h3, h4⟩ := h
  rw [List.drop_length] at h4
  apply Decidable.byContradiction
  intro hn
  obtain ⟨g, rfl, h5, h6⟩ := spots_step (show a < b by omega) h3
  rw [h6] at h4
  cases h4

set_option maxRecDepth 100000 in
set_option maxHeartbeats 2000000 in
theorem walk (a b : Int) (h1 : -9223372036854775808 ≤ a) (h2 : a ≤ 9223372036854775807) (h3 : -9223372036854775808 ≤ b) (h4 : b ≤ 9223372036854775807) (w : World)
    (hT : TabAt 1 Lib.deBruijn64tab w) (hg : 1 < w.heap.size) :
    Calls Tryd.prog 3 #[.int .i64 a, .int .i64 b] w fun e w' => e = .returned (.bool true) ∧ Below w.heap.size w w' := by
  have C1 := Lib.hid (tree_spots a b h1 h2 h3 h4 w hT hg)
  have C2 := fun w => Lib.hid (ref_spots a b h1 h2 h3 h4 w)
  have hlen := spotsZ_len a b
  have C3 := fun A A' c c' w hr hr' => Lib.hid (same_spots' (spotsZ a b) hlen A A' c c' w hr hr')
  have HT := Lib.hid hT
  clear hT
  go_enter Tryd.func3, Tryd.ntmps3
  go_wp2_with fail
  refine C1.out.mono ?_
  rintro e w1 ⟨v, rfl, hown, hb1⟩
  obtain ⟨A, c, rfl, hc1, hc2, hr, _⟩ := Reads.of_own hown
  have HB1 := Lib.hid hb1
  have HR := Lib.hid hr
  clear hb1 hr hown
  go_wp2_with fail
  refine (C2 w1).out.mono ?_
  rintro e w2 ⟨v, rfl, hown, hb2⟩
  obtain ⟨A', c', rfl, hc3, hc4, hr', _⟩ := Reads.of_own hown
  have HB2 := Lib.hid (HB1.out.trans (hb2.mono HB1.out.size))
  have HR := Lib.hid (HR.out.below hb2)
  have HR' := Lib.hid hr'
  clear hb2 hr' hown
  go_wp2_with fail
  refine (C3 A A' c c' w2 HR.out HR'.out).out.mono ?_
  rintro e w3 ⟨rfl, n, rfl⟩
  have hr3 : Hid (Reads (w2.drewN n) 2 A (spotsZ a b).length (flat (spotsZ a b))) := HR.out
  have hb3 : Hid (Below w.heap.size w (w2.drewN n)) := below_drawn HB2.out n
  clear HR HR' HB2 C1 C2 C3 HB1
  generalize w2.drewN n = w4 at *
  clear w2
  by_cases he : spotsZ a b = []
  · rw [he]
    clear hr3 hlen
    go_wp2_with fail
    refine wp_loop_rounds 1 ?_
    rw [rounds_succ]
    go_wp2_with fail
    go_ret
    exact ⟨rfl, hb3.out⟩
  · obtain ⟨m, n, rfl, rfl, hmn, hn, hS⟩ := spotsZ_some he
    generalize hSe : spotsZ (m : Int) (n : Int) = S at *
    have hst : Hid (At S n 0 m) := ⟨Nat.zero_le _, by omega, n - m, Nat.le_refl _, hS⟩
    have hpos : 0 < S.length := List.length_pos_iff.2 he
    clear hS hSe he
    go_wp2_with fail
    go_loopw [6, 7, 8] (fun av i nv wr => ∃ k aa : Nat, i = .int .i64 (k : Int) ∧ av = .int .i64 (aa : Int) ∧ k ≤ S.length ∧ wr = w4 ∧ Hid (At S n k aa)) (fun _ i _ _ => S.length - (intOf i).toNat)
    case atStart => exact ⟨0, m, rfl, rfl, Nat.zero_le _, rfl, hst.out⟩
    case round =>
      obtain ⟨k, aa, rfl, rfl, hk, rfl, hat⟩ := hrel
      by_cases hlt : k < S.length
      · obtain ⟨hab, hget, hnext⟩ := hat.out.go hlt
        have hfit := lev_fits hab
        have hle := lev_le hab
        have hidx := index_mul hab
        have hgr := greatest hab hn
        obtain ⟨f1, f2⟩ := flat_get S k _ hget
        obtain ⟨L, hL⟩ : ∃ L, L = lev aa n := ⟨_, rfl⟩
        rw [← hL] at hfit hle hidx hgr hget hnext f1 f2
        obtain ⟨x, hx⟩ : ∃ x, x = aa / 2 ^ L := ⟨_, rfl⟩
        rw [← hx] at hidx hgr hget f1 f2
        obtain ⟨b, o, rfl, hb, hc⟩ := hr3.out.at_ (by omega)
        have g1 := hc _ _ f1
        have g2 := hc _ _ f2
        simp only [← Nat.add_assoc] at g2
        have hf3 : (aa : Int) + 2 ^ L ≤ n := two_int hfit.2
        have hf4 : (0 : Int) < 2 ^ L := two_pos L
        have hm : (x : Int) * 2 ^ L = (aa : Int) := by
          have : ((x * 2 ^ L : Nat) : Int) = aa := by rw [hidx]
          simpa using this
        have Hn := Lib.hid hnext
        have hz : (k : Int) < (S.length : Int) := by omega
        clear hc f1 f2 hget hnext hidx hfit hL hx hat
        by_cases t1 : L < 40
        · by_cases t2 : x % 2 = 0
          · have hgr' : ¬ (aa : Int) + 2 * 2 ^ L ≤ n := fun h => hgr ⟨t2, le_int.1 h⟩
            have d3 : decide ((aa : Int) + 2 * 2 ^ L ≤ n) = false := by simpa using hgr'
            have d2 : ((x : Int) % 2 == 0) = true := by
              have : (x : Int) % 2 = 0 := by omega
              simpa using this
            clear hgr hgr'
            go_wp2_with fail
            go_roundw
            case rel => exact ⟨k + 1, aa + 2 ^ L, by go_num, by simp, by omega, trivial, Hn.out⟩
            case measure => simp [intOf]; omega
          · have d2 : ((x : Int) % 2 == 0) = false := by
              have : ¬ (x : Int) % 2 = 0 := by omega
              simpa using this
            clear hgr
            go_wp2_with fail
            go_roundw
            case rel => exact ⟨k + 1, aa + 2 ^ L, by go_num, by simp, by omega, trivial, Hn.out⟩
            case measure => simp [intOf]; omega
        · clear hgr
          go_wp2_with fail
          go_roundw
          case rel => exact ⟨k + 1, aa + 2 ^ L, by go_num, by simp, by omega, trivial, Hn.out⟩
          case measure => simp [intOf]; omega
      · have hke : k = S.length := by omega
        subst hke
        have hea := hat.out.stop
        subst hea
        go_wp2_with fail
        all_goals go_ret
        all_goals exact ⟨rfl, hb3.out⟩
end Go.Proofs.YtngieimjlkpkaaaDoor.SpotsWalk
