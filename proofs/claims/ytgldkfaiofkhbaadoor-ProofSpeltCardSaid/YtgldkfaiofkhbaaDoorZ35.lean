/-
  Texts of the claim, put into one file: SpotsLaw.
-/
import Derived.Test.YtgldkfaiofkhbaaDoorZ10
import Derived.Deep.QuietTactic
import Derived.BigQuiet

namespace Go.Proofs.YtgldkfaiofkhbaaDoor.SpotsWalk
open Go Go.RowKit Go.Proofs.YtgldkfaiofkhbaaDoor Go.Proofs.YtgldkfaiofkhbaaDoor.Mem Go.Proofs.YtgldkfaiofkhbaaDoor.SpotsMath

theorem spotsZ_in {a b : Nat} (h : b ≤ 1099511627776) : spotsZ a b = spots (b - a) a b := by
  unfold spotsZ
  rw [if_neg (by omega)]
  rfl

set_option maxRecDepth 100000 in
set_option maxHeartbeats 1000000 in
theorem tree_spots (a b : Int) (h1 : -9223372036854775808 ≤ a) (h2 : a ≤ 9223372036854775807) (h3 : -9223372036854775808 ≤ b) (h4 : b ≤ 9223372036854775807) (w : World)
    (hT : TabAt 3 Lib.deBruijn64tab w) (hg : 3 < w.heap.size) :
    Calls Tryd.prog 109 #[.int .i64 a, .int .i64 b] w fun e w' => ∃ v, e = .returned v ∧ w'.ownsRow w.heap.size 129 2 v (spotsZ a b).length (flat (spotsZ a b)) ∧ Below w.heap.size w w' := by
  by_cases c : a < 0 ∨ 1099511627776 < b
  · have e : spotsZ a b = [] := by unfold spotsZ; rw [if_pos c]
    rw [e]
    have HH := Lib.hid hT
    clear hT e
    have hs := Lib.hid (show True from trivial)
    clear hs
    by_cases ca : a < 0
    · have e1 : decide (a < 0) = true := by simpa using ca
      clear c
      go_enter Tryd.func109, Tryd.ntmps109
      go_wp2_with fail
      go_ret
      exact ⟨_, rfl, World.ownsRow_nil _ _ _ _, Below.refl _ _⟩
    · have cb : 1099511627776 < b := by omega
      have e1 : decide (a < 0) = false := by simpa using ca
      have e2 : decide (1099511627776 < b) = true := by simpa using cb
      clear c
      go_enter Tryd.func109, Tryd.ntmps109
      go_wp2_with fail
      go_ret
      exact ⟨_, rfl, World.ownsRow_nil _ _ _ _, Below.refl _ _⟩
  · obtain ⟨a, rfl⟩ := Int.eq_ofNat_of_zero_le (show 0 ≤ a by omega)
    by_cases cb : 0 ≤ b
    · obtain ⟨b, rfl⟩ := Int.eq_ofNat_of_zero_le cb
      rw [spotsZ_in (by omega)]
      exact tree_spots_in a b (by omega) w hT hg (by omega)
    · have e : spotsZ a b = [] := by unfold spotsZ; rw [if_neg c]; exact spots_done (by omega)
      rw [e]
      have HH := Lib.hid hT
      clear hT e
      have e1 : decide ((a : Int) < 0) = false := by simp
      have e2 : decide (1099511627776 < b) = false := by simp; omega
      have e3 : decide ((a : Int) < b) = false := by simp; omega
      clear c
      go_enter Tryd.func109, Tryd.ntmps109
      go_wp2_with fail
      refine wp_loop_rounds 1 ?_
      rw [rounds_succ]
      go_wp2_with fail
      go_ret
      exact ⟨_, rfl, World.ownsRow_nil _ _ _ _, Below.refl _ _⟩

theorem flat_get (S : List (Nat × Nat)) (k : Nat) (p : Nat × Nat) (h : S[k]? = some p) : (flat S)[k * 2]? = some (.int .i64 (p.1 : Int)) ∧ (flat S)[k * 2 + 1]? = some (.int .i64 (p.2 : Int)) := by
  induction S generalizing k with
  | nil => simp at h
  | cons q S ih =>
    cases k with
    | zero => simp at h; subst h; simp [flat]
    | succ k =>
      have := ih k (by simpa using h)
      have e : (k + 1) * 2 = k * 2 + 1 + 1 := by omega
      rw [e]
      simpa [flat] using this

/-- What the law's loop knows at the k-th spot. -/
def At (S : List (Nat × Nat)) (b k a : Nat) : Prop := k ≤ S.length ∧ a ≤ b ∧ ∃ f, b - a ≤ f ∧ S.drop k = spots f a b
theorem At.go {S : List (Nat × Nat)} {b k a : Nat} (h : At S b k a) (hk : k < S.length) : a < b ∧ S[k]? = some (lev a b, a / 2 ^ lev a b) ∧ At S b (k + 1) (a + 2 ^ lev a b) := by
  obtain ⟨h1, h2, f, h3, h4⟩ := h
  have hlt : a < b := by
    apply Decidable.byContradiction
    intro hn
    rw [spots_done hn] at h4
    have : (S.drop k).length = 0 := by rw [h4]; rfl
    rw [List.length_drop] at this
    omega
  obtain ⟨g, rfl, h5, h6⟩ := spots_step hlt h3
  rw [h6] at h4
  have hf := (lev_fits hlt).2
  refine ⟨hlt, ?_, by omega, by omega, g, h5, ?_⟩
  · have := congrArg (fun l => l[0]?) h4
    simpa using this
  · have := congrArg List.tail h4
    simpa using this
end Go.Proofs.YtgldkfaiofkhbaaDoor.SpotsWalk
