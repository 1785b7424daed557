/-
  Texts of the claim, put into one file: Ref17, Eight.
-/
import Derived.Test.YtgldkfaiofkhbaaDoorZ8
import Derived.Test.YtgldkfaiofkhbaaDoorZ12
import Derived.Test.YtgldkfaiofkhbaaDoorZ4
import Derived.Test.YtgldkfaiofkhbaaDoorZ3

namespace Go.Proofs.YtgldkfaiofkhbaaDoor.Ref17
open Go Go.RowKit Go.Proofs.YtgldkfaiofkhbaaDoor Go.Proofs.YtgldkfaiofkhbaaDoor.Mem Go.Proofs.YtgldkfaiofkhbaaDoor.Sha Go.Proofs.YtgldkfaiofkhbaaDoor.Bytes Go.Proofs.YtgldkfaiofkhbaaDoor.Append Go.Proofs.YtgldkfaiofkhbaaDoor.Octet Go.Proofs.YtgldkfaiofkhbaaDoor.Octet2 Go.Proofs.YtgldkfaiofkhbaaDoor.QuietTail Go.Proofs.YtgldkfaiofkhbaaDoor.Grown Go.Proofs.YtgldkfaiofkhbaaDoor.TreeMath Go.Proofs.YtgldkfaiofkhbaaDoor.Sides Go.Proofs.YtgldkfaiofkhbaaDoor.ProofBeside Go.Proofs.YtgldkfaiofkhbaaDoor.ProofEnc Go.Proofs.YtgldkfaiofkhbaaDoor.Beside17 Go.Proofs.YtgldkfaiofkhbaaDoor.Held Go.Proofs.YtgldkfaiofkhbaaDoor.Own Go.Proofs.YtgldkfaiofkhbaaDoor.TreeMem

def eightTab (N i j : Nat) : Value := if j < i then cell8 ((be8 N).getD j 0) else .int .u8 0
theorem eightTab_succ (N i j : Nat) : eightTab N (i + 1) j = if j = i then cell8 ((be8 N).getD i 0) else eightTab N i j := by
  unfold eightTab
  by_cases h : j = i
  · subst h; rw [if_pos (by omega), if_pos rfl]
  · rw [if_neg h]
    by_cases h2 : j < i
    · rw [if_pos (by omega), if_pos h2]
    · rw [if_neg (by omega), if_neg h2]
theorem tab_own {w : World} {g n : Nat} {q : Text} {f : Nat → Value} (h : Tab w g 5 n f) (hq : q.length = n) (hn : n ≤ maxLen) (hf : ∀ j, j < n → f j = cell8 (q.getD j 0)) {B : Nat} (hB : B ≤ g) : w.ownsRow B 5 1 (.slice (some ⟨g, 0, none⟩) n n) n (cells8 q) := by
  obtain ⟨cs, hb, hs, hc⟩ := h
  refine ⟨by rw [cells8_len, hq, Nat.mul_one], .inr ⟨g, n, cs, rfl, hB, hb, Nat.le_refl _, hn, by omega, ?_⟩⟩
  have e : cs.toList = cells8 q := by
    apply List.ext_getElem?
    intro j
    rw [Array.getElem?_toList]
    rcases Nat.lt_or_ge j n with hj | hj
    · rw [hc j hj, cells8_at q j (by omega), hf j hj]
    · rw [Array.getElem?_eq_none (by omega), List.getElem?_eq_none (by rw [cells8_len]; omega)]
  rw [e, Nat.mul_one]
  exact List.take_of_length_le (by rw [cells8_len]; omega)

end Go.Proofs.YtgldkfaiofkhbaaDoor.Ref17

namespace Go.Proofs.YtgldkfaiofkhbaaDoor.Eight
open Go Go.RowKit Go.Proofs.YtgldkfaiofkhbaaDoor Go.Proofs.YtgldkfaiofkhbaaDoor.Mem Go.Proofs.YtgldkfaiofkhbaaDoor.Sha Go.Proofs.YtgldkfaiofkhbaaDoor.Bytes Go.Proofs.YtgldkfaiofkhbaaDoor.Append Go.Proofs.YtgldkfaiofkhbaaDoor.Octet Go.Proofs.YtgldkfaiofkhbaaDoor.Octet2 Go.Proofs.YtgldkfaiofkhbaaDoor.QuietTail Go.Proofs.YtgldkfaiofkhbaaDoor.Grown Go.Proofs.YtgldkfaiofkhbaaDoor.TreeMath Go.Proofs.YtgldkfaiofkhbaaDoor.Sides Go.Proofs.YtgldkfaiofkhbaaDoor.ProofBeside Go.Proofs.YtgldkfaiofkhbaaDoor.ProofEnc Go.Proofs.YtgldkfaiofkhbaaDoor.Beside17 Go.Proofs.YtgldkfaiofkhbaaDoor.Held Go.Proofs.YtgldkfaiofkhbaaDoor.Own Go.Proofs.YtgldkfaiofkhbaaDoor.TreeMem Go.Proofs.YtgldkfaiofkhbaaDoor.Ref17

set_option maxRecDepth 100000 in
set_option maxHeartbeats 1000000 in
theorem eight_wrap (x0 : Int) (N : Nat) (hN : N < 18446744073709551616) (hN2 : IntKind.u64.wrap x0 = (N : Int)) (w : World) :
    Calls Tryd.prog 90 #[.int .i64 x0] w fun e w' => e = .returned (.slice (some ⟨w.heap.size, 0, none⟩) 8 8) ∧ Below w.heap.size w w' ∧ w'.ownsRow w.heap.size 5 1 (.slice (some ⟨w.heap.size, 0, none⟩) 8 8) 8 (cells8 (be8 N)) := by
  have HN : Hid (N < 18446744073709551616) := hN
  have hN1 : (0 : Int) ≤ (N : Int) := by omega
  have hT0 : Hid (Tab (w.alloc (.cells #[.int .u8 0, .int .u8 0, .int .u8 0, .int .u8 0, .int .u8 0, .int .u8 0, .int .u8 0, .int .u8 0] 5)) w.heap.size 5 8 (eightTab N 0)) := Tab.new w _ _ 8 _ rfl (fun j hj => by
    match j, hj with
    | 0, _ => rfl
    | 1, _ => rfl
    | 2, _ => rfl
    | 3, _ => rfl
    | 4, _ => rfl
    | 5, _ => rfl
    | 6, _ => rfl
    | 7, _ => rfl
    | j + 8, h => omega)
  clear hN
  have hmk : ∀ w : World, (Instr.makeSlice 31 (.int .i64 8) (.int .i64 8)).run Tryd.prog w = .ok (.slice (some ⟨w.heap.size, 0, none⟩) 8 8) (w.alloc (.cells #[.int .u8 0, .int .u8 0, .int .u8 0, .int .u8 0, .int .u8 0, .int .u8 0, .int .u8 0, .int .u8 0] 5)) := fun _ => by kernel_rfl
  go_enter Tryd.func90, Tryd.ntmps90
  go_wp2_with fail
  clear hmk
  go_loopw [4] (fun v wr => ∃ i : Nat, v = .int .i64 (i : Int) ∧ i ≤ 8 ∧ Hid (Tab wr w.heap.size 5 8 (eightTab N i)) ∧ Hid (Below w.heap.size w wr)) (fun v _ => 8 - (intOf v).toNat)
  case atStart => exact ⟨0, rfl, by omega, hT0.out, Below.heap_below w _⟩
  case round =>
    clear hT0
    obtain ⟨i, rfl, hi, hT, hW⟩ := hrel
    by_cases hlt : i < 8
    · have hz : (i : Int) < 8 := by omega
      have hzi : (0 : Int) ≤ (i : Int) := by omega
      obtain ⟨x, hx⟩ : ∃ x, Hid (x = byteAt N (56 - 8 * i)) := ⟨_, rfl⟩
      have z1 : IntKind.i64.wrap (8 * (i : Int)) = 8 * (i : Int) := IntWalk.i64_in _ (by omega)
      have z2 : IntKind.i64.wrap (56 - 8 * (i : Int)) = 56 - 8 * (i : Int) := IntWalk.i64_in _ (by omega)
      have z3 : IntKind.u64.wrap (56 - 8 * (i : Int)) = 56 - 8 * (i : Int) := u64_in _ (by omega) (by omega)
      have y4 : (56 - 8 * (i : Int)).toNat = 56 - 8 * i := by omega
      have y3 : (N : Int) / 2 ^ (56 - 8 * i) % 256 = b8 x := by rw [hx.out]; exact b8_at N _
      have y5 : (56 - 8 * (i : Int)) < 64 := by omega
      have y6 : 0 ≤ (56 - 8 * (i : Int)) := by omega
      have y7 : (0 : Int) ≤ (N : Int) / 2 ^ (56 - 8 * i) := Int.ediv_nonneg (by omega) (by exact Int.le_of_lt (Int.pow_pos (by decide)))
      have hgd : Hid ((be8 N).getD i 0 = x) := by show _ = _; rw [List.getD, be8_at N i hlt, hx.out]; rfl
      have c0 : wr.cell? ⟨w.heap.size, i, none⟩ = some (eightTab N i i) := hT.out.cell hlt
      have f0 : wr.frozen? ⟨w.heap.size, i, none⟩ = false := hT.out.frozen _
      have hi8 : Hid (i < 8) := hlt
      clear hlt
      go_wp2_with fail
      go_roundw
      case rel => exact ⟨i + 1, by go_num, hi8.out, hT.out.set_ i _ (fun j _ => by rw [eightTab_succ, hgd.out]; rfl), hW.out.trans (Kept.below_of ((Kept.refl (· = w.heap.size) wr).setCell (.inl rfl) _) (Nat.le_refl _) hW.out.size)⟩
      case measure => (have := hi8.out; simp [intOf]; omega)
    · obtain rfl : i = 8 := by omega
      go_wp2_with fail
      go_ret
      exact ⟨rfl, hW.out, tab_own hT.out (be8_len N) (by decide) (fun j hj => by unfold eightTab; rw [if_pos hj]) (Nat.le_refl _)⟩
end Go.Proofs.YtgldkfaiofkhbaaDoor.Eight
