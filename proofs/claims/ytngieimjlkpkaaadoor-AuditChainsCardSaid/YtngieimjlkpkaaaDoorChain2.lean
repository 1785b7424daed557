/-
  few of slices of bytes, Within; parts of a row of texts.
-/
import Derived.Test.YtngieimjlkpkaaaDoorChain
namespace Go.Proofs.YtngieimjlkpkaaaDoor.Chain2
open Go Go.RowKit Go.Proofs.YtngieimjlkpkaaaDoor Go.Proofs.YtngieimjlkpkaaaDoor.Mem Go.Proofs.YtngieimjlkpkaaaDoor.Sha Go.Proofs.YtngieimjlkpkaaaDoor.ShaWalk Go.Proofs.YtngieimjlkpkaaaDoor.Bytes Go.Proofs.YtngieimjlkpkaaaDoor.HashMem Go.Proofs.YtngieimjlkpkaaaDoor.DigestMem Go.Proofs.YtngieimjlkpkaaaDoor.DigestTop Go.Proofs.YtngieimjlkpkaaaDoor.QuietTail Go.Proofs.YtngieimjlkpkaaaDoor.Grown Go.Proofs.YtngieimjlkpkaaaDoor.Chain

theorem Pieces.take_ {w : World} {A : Option Addr} {ps : List Text} (h : Pieces w A ps) (k : Nat) : Pieces w A (ps.take k) := by
  intro h0
  obtain ⟨b, o, e, hb, hc⟩ := h (by simp at h0; omega)
  refine ⟨b, o, e, hb, fun i q hq => hc i q ?_⟩
  rw [List.getElem?_take] at hq
  by_cases hi : i < k
  · rw [if_pos hi] at hq; exact hq
  · rw [if_neg hi] at hq; cases hq
theorem Pieces.drop_ {w : World} {A : Option Addr} {ps : List Text} (h : Pieces w A ps) (k c : Nat) (hc : ps.length ≤ c) : Pieces w (cutA A k c) (ps.drop k) := by
  intro h0
  rw [List.length_drop] at h0
  obtain ⟨b, o, e, hb, hcs⟩ := h (by omega)
  subst e
  refine ⟨b, o + k, ?_, hb, fun i q hq => ?_⟩
  · unfold cutA
    rw [if_neg (by omega), Option.map_some, add_at]
  · rw [List.getElem?_drop] at hq
    obtain ⟨Ai, ci, h1, h2⟩ := hcs (k + i) q hq
    exact ⟨Ai, ci, by rw [Nat.add_assoc]; exact h1, h2⟩

theorem ret_int {k : IntKind} {a b : Int} (h : a = b) : Ending.returned (.int k a) = .returned (.int k b) := by rw [h]
theorem tmod_fix (x m : Int) (hm : 0 < m) : (x.tmod m < 0 → x.tmod m + m = x % m) ∧ (0 ≤ x.tmod m → x.tmod m = x % m) := by
  have h := Int.tmod_eq_emod (a := x) (b := m)
  have h1 := Int.emod_nonneg x (show m ≠ 0 by omega)
  have h2 := Int.emod_lt_of_pos x hm
  have hn : ((m.natAbs : Nat) : Int) = m := by omega
  by_cases hc : 0 ≤ x ∨ m ∣ x
  · rw [if_pos hc] at h
    refine ⟨fun hh => by omega, fun _ => by omega⟩
  · rw [if_neg hc] at h
    refine ⟨fun _ => by omega, fun hh => by omega⟩

set_option maxRecDepth 100000 in
set_option maxHeartbeats 1000000 in
theorem within_any (x : Int) (n : Nat) (hn : n < 140737488355328) (w : World) :
    Calls Tryd.prog 21 #[.int .i64 x, .int .i64 0, .int .i64 (n : Int)] w fun e w' => e = .returned (.int .i64 (x % ((n : Int) + 1))) ∧ w = w' := by
  have h := tmod_fix x ((n : Int) + 1) (by omega)
  have h1 := Int.emod_nonneg x (show (n : Int) + 1 ≠ 0 by omega)
  have h2 := Int.emod_lt_of_pos x (show (0 : Int) < (n : Int) + 1 by omega)
  have h3 : -((n : Int) + 1) ≤ x.tmod ((n : Int) + 1) := by
    rcases Int.lt_or_le (x.tmod ((n : Int) + 1)) 0 with hh | hh
    · have := h.1 hh; omega
    · omega
  have h4 : x.tmod ((n : Int) + 1) < (n : Int) + 1 := by
    rcases Int.lt_or_le (x.tmod ((n : Int) + 1)) 0 with hh | hh
    · omega
    · have := h.2 hh; omega
  have hy : Hid ((x.tmod ((n : Int) + 1) < 0 → x.tmod ((n : Int) + 1) + ((n : Int) + 1) = x % ((n : Int) + 1)) ∧ (0 ≤ x.tmod ((n : Int) + 1) → x.tmod ((n : Int) + 1) = x % ((n : Int) + 1))) := h
  clear h
  have k0 : (n : Int) + 1 ≠ 0 := by omega
  have k1 : (((n : Int) + 1) == 0) = false := by simp; omega
  have k2 : (((n : Int) + 1) == -1) = false := by simp; omega
  by_cases hneg : x.tmod ((n : Int) + 1) < 0
  · go_enter Tryd.func21, Tryd.ntmps21
    go_wp2_with fail
    go_ret
    have := hy.out.1 hneg
    exact ⟨ret_int (by omega), rfl⟩
  · go_enter Tryd.func21, Tryd.ntmps21
    go_wp2_with fail
    go_ret
    have := hy.out.2 (by omega)
    exact ⟨ret_int (by omega), rfl⟩

set_option maxRecDepth 100000 in
theorem few20_yes (A : Option Addr) (n c : Nat) (hn : n ≤ 300) (w : World) :
    Calls Tryd.prog 19 #[.slice A n c, .int .i64 300] w fun e w' => e = .returned (.slice A n c) ∧ w = w' := by
  have h1 : (n : Int) ≤ 300 := by omega
  go_enter Tryd.func19, Tryd.ntmps19
  go_wp2_with fail
  go_ret
  exact ⟨rfl, rfl⟩
set_option maxRecDepth 100000 in
theorem few20_no (A : Option Addr) (n c : Nat) (hn : 300 < n) (hc : n ≤ c) (w : World) :
    Calls Tryd.prog 19 #[.slice A n c, .int .i64 300] w fun e w' => e = .returned (.slice A 300 c) ∧ w = w' := by
  have h1 : (300 : Int) < (n : Int) := by omega
  have X : ∀ w', (Instr.sliceAt 36 (.slice A n c) none (some (.int .i64 300)) none).run Tryd.prog w' = .ok (.slice A 300 c) w' := run_headOf (m := 300) Tryd.underlying36 (fun _ => rfl) (by omega) _ rfl
  go_enter Tryd.func19, Tryd.ntmps19
  go_wp2_with fail
  go_ret
  exact ⟨rfl, rfl⟩
theorem few20_any (A : Option Addr) (n c : Nat) (hc : n ≤ c) (w : World) :
    Calls Tryd.prog 19 #[.slice A n c, .int .i64 300] w fun e w' => e = .returned (.slice A (min n 300) c) ∧ w = w' := by
  by_cases h : n ≤ 300
  · rw [Nat.min_eq_left h]
    exact few20_yes A n c h w
  · rw [Nat.min_eq_right (by omega)]
    exact few20_no A n c (by omega) hc w

set_option maxRecDepth 100000 in
/-- The rest of a row of texts behind its first k. -/
theorem run_tail {A : Option Addr} {n c k : Nat} (hk : k ≤ n) (x : Int) (hx : x = k) (w : World) :
    (Instr.sliceAt 36 (.slice A n c) (some (.int .i64 x)) none none).run Tryd.prog w = .ok (.slice (cutA A k c) (n - k) (c - k)) w := by
  subst hx
  exact run_cut (t := 36) Tryd.underlying36 (fun _ => rfl) hk w
end Go.Proofs.YtngieimjlkpkaaaDoor.Chain2
