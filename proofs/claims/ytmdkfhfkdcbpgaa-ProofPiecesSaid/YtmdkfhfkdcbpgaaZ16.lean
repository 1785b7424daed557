/-
  Texts of the claim, put into one file: Ref17, Ref17b, Eight, Ref17K.
-/
import Derived.Test.YtmdkfhfkdcbpgaaZ14
import Derived.Test.YtmdkfhfkdcbpgaaZ7
import Derived.Test.YtmdkfhfkdcbpgaaZ10
import Derived.Test.YtmdkfhfkdcbpgaaZ4

namespace Go.Proofs.Ytmdkfhfkdcbpgaa.Ref17
open Go Go.RowKit Go.Proofs.Ytmdkfhfkdcbpgaa Go.Proofs.Ytmdkfhfkdcbpgaa.Mem Go.Proofs.Ytmdkfhfkdcbpgaa.Sha Go.Proofs.Ytmdkfhfkdcbpgaa.Bytes Go.Proofs.Ytmdkfhfkdcbpgaa.Append Go.Proofs.Ytmdkfhfkdcbpgaa.Octet Go.Proofs.Ytmdkfhfkdcbpgaa.Octet2 Go.Proofs.Ytmdkfhfkdcbpgaa.QuietTail Go.Proofs.Ytmdkfhfkdcbpgaa.Grown Go.Proofs.Ytmdkfhfkdcbpgaa.TreeMath Go.Proofs.Ytmdkfhfkdcbpgaa.Sides Go.Proofs.Ytmdkfhfkdcbpgaa.ProofBeside Go.Proofs.Ytmdkfhfkdcbpgaa.ProofEnc Go.Proofs.Ytmdkfhfkdcbpgaa.Beside17 Go.Proofs.Ytmdkfhfkdcbpgaa.Held Go.Proofs.Ytmdkfhfkdcbpgaa.Own Go.Proofs.Ytmdkfhfkdcbpgaa.TreeMem

def eightTab (N i j : Nat) : Value := if j < i then cell8 ((be8 N).getD j 0) else .int .u8 0
theorem eightTab_succ (N i j : Nat) : eightTab N (i + 1) j = if j = i then cell8 ((be8 N).getD i 0) else eightTab N i j := by
  unfold eightTab
  by_cases h : j = i
  · subst h; rw [if_pos (by omega), if_pos rfl]
  · rw [if_neg h]
    by_cases h2 : j < i
    · rw [if_pos (by omega), if_pos h2]
    · rw [if_neg (by omega), if_neg h2]
theorem tab_own {w : World} {g n : Nat} {q : Text} {f : Nat → Value} (h : Tab w g 5 n f) (hq : q.length = n) (hn : n ≤ maxLen) (hf : ∀ j, j < n → f j = cell8 (q.getD j 0)) {B : Nat} (hB : B ≤ g) : w.ownsRow B 5 1 (.slice (some ⟨g, 0, none⟩) n n) n (cells8 q) := by
  obtain ⟨cs, hb, hs, hc⟩ := h
  refine ⟨by rw [cells8_len, hq, Nat.mul_one], .inr ⟨g, n, cs, rfl, hB, hb, Nat.le_refl _, hn, by omega, ?_⟩⟩
  have e : cs.toList = cells8 q := by
    apply List.ext_getElem?
    intro j
    rw [Array.getElem?_toList]
    rcases Nat.lt_or_ge j n with hj | hj
    · rw [hc j hj, cells8_at q j (by omega), hf j hj]
    · rw [Array.getElem?_eq_none (by omega), List.getElem?_eq_none (by rw [cells8_len]; omega)]
  rw [e, Nat.mul_one]
  exact List.take_of_length_le (by rw [cells8_len]; omega)

set_option maxRecDepth 100000 in
set_option maxHeartbeats 1000000 in
theorem eight_any (N : Nat) (hN : N < 9223372036854775808) (w : World) :
    Calls Try.prog 30 #[.int .i64 (N : Int)] w fun e w' => e = .returned (.slice (some ⟨w.heap.size, 0, none⟩) 8 8) ∧ Below w.heap.size w w' ∧ w'.ownsRow w.heap.size 5 1 (.slice (some ⟨w.heap.size, 0, none⟩) 8 8) 8 (cells8 (be8 N)) := by
  have HN : Hid (N < 9223372036854775808) := hN
  have hN1 : (0 : Int) ≤ (N : Int) := by omega
  have hN2 : IntKind.u64.wrap (N : Int) = (N : Int) := u64_in _ (by omega) (by omega)
  have hT0 : Hid (Tab (w.alloc (.cells #[.int .u8 0, .int .u8 0, .int .u8 0, .int .u8 0, .int .u8 0, .int .u8 0, .int .u8 0, .int .u8 0] 5)) w.heap.size 5 8 (eightTab N 0)) := Tab.new w _ _ 8 _ rfl (fun j hj => by
    match j, hj with
    | 0, _ => rfl
    | 1, _ => rfl
    | 2, _ => rfl
    | 3, _ => rfl
    | 4, _ => rfl
    | 5, _ => rfl
    | 6, _ => rfl
    | 7, _ => rfl
    | j + 8, h => omega)
  clear hN
  have hmk : ∀ w : World, (Instr.makeSlice 29 (.int .i64 8) (.int .i64 8)).run Try.prog w = .ok (.slice (some ⟨w.heap.size, 0, none⟩) 8 8) (w.alloc (.cells #[.int .u8 0, .int .u8 0, .int .u8 0, .int .u8 0, .int .u8 0, .int .u8 0, .int .u8 0, .int .u8 0] 5)) := fun _ => by kernel_rfl
  go_enter Try.func30, Try.ntmps30
  go_wp2_with fail
  clear hmk
  go_loopw [4] (fun v wr => ∃ i : Nat, v = .int .i64 (i : Int) ∧ i ≤ 8 ∧ Hid (Tab wr w.heap.size 5 8 (eightTab N i)) ∧ Hid (Below w.heap.size w wr)) (fun v _ => 8 - (intOf v).toNat)
  case atStart => exact ⟨0, rfl, by omega, hT0.out, Below.heap_below w _⟩
  case round =>
    clear hT0
    obtain ⟨i, rfl, hi, hT, hW⟩ := hrel
    by_cases hlt : i < 8
    · have hz : (i : Int) < 8 := by omega
      have hzi : (0 : Int) ≤ (i : Int) := by omega
      obtain ⟨x, hx⟩ : ∃ x, Hid (x = byteAt N (56 - 8 * i)) := ⟨_, rfl⟩
      have z1 : IntKind.i64.wrap (8 * (i : Int)) = 8 * (i : Int) := IntWalk.i64_in _ (by omega)
      have z2 : IntKind.i64.wrap (56 - 8 * (i : Int)) = 56 - 8 * (i : Int) := IntWalk.i64_in _ (by omega)
      have z3 : IntKind.u64.wrap (56 - 8 * (i : Int)) = 56 - 8 * (i : Int) := u64_in _ (by omega) (by omega)
      have y4 : (56 - 8 * (i : Int)).toNat = 56 - 8 * i := by omega
      have y3 : (N : Int) / 2 ^ (56 - 8 * i) % 256 = b8 x := by rw [hx.out]; exact b8_at N _
      have y5 : (56 - 8 * (i : Int)) < 64 := by omega
      have y6 : 0 ≤ (56 - 8 * (i : Int)) := by omega
      have y7 : (0 : Int) ≤ (N : Int) / 2 ^ (56 - 8 * i) := Int.ediv_nonneg (by omega) (by exact Int.le_of_lt (Int.pow_pos (by decide)))
      have hgd : Hid ((be8 N).getD i 0 = x) := by show _ = _; rw [List.getD, be8_at N i hlt, hx.out]; rfl
      have c0 : wr.cell? ⟨w.heap.size, i, none⟩ = some (eightTab N i i) := hT.out.cell hlt
      have f0 : wr.frozen? ⟨w.heap.size, i, none⟩ = false := hT.out.frozen _
      have hi8 : Hid (i < 8) := hlt
      clear hlt
      go_wp2_with fail
      go_roundw
      case rel => exact ⟨i + 1, by go_num, hi8.out, hT.out.set_ i _ (fun j _ => by rw [eightTab_succ, hgd.out]; rfl), hW.out.trans (Kept.below_of ((Kept.refl (· = w.heap.size) wr).setCell (.inl rfl) _) (Nat.le_refl _) hW.out.size)⟩
      case measure => (have := hi8.out; simp [intOf]; omega)
    · obtain rfl : i = 8 := by omega
      go_wp2_with fail
      go_ret
      exact ⟨rfl, hW.out, tab_own hT.out (be8_len N) (by decide) (fun j hj => by unfold eightTab; rw [if_pos hj]) (Nat.le_refl _)⟩

theorem flat_take {ds : List Text} {i : Nat} {d : Text} (h : ds[i]? = some d) : (ds.take (i + 1)).flatten = (ds.take i).flatten ++ d := by
  rw [List.take_add_one, h]
  simp
set_option maxRecDepth 100000 in
set_option maxHeartbeats 1000000 in
theorem digests17_any (B : Nat) (q : Text) (k : Nat) (A : Option Addr) (c : Nat) (ds : List Text) (n : Nat) (A2 : Option Addr) (c2 : Nat) (w : World) (hB : B ≤ w.heap.size) (hO : w.ownsRow B 5 1 (.slice A k c) k (cells8 q)) (hr : RdD w A2 n ds)
    (hA2 : 0 < n → ∀ b o, A2 = some ⟨b, o, none⟩ → b < B) (hlen : k + 32 * n ≤ 140737488355328) :
    Calls Try.prog 31 #[.slice A k c, .slice A2 n c2] w fun e w' => ∃ v, e = .returned v ∧ w'.ownsRow B 5 1 v (k + 32 * n) (cells8 (q ++ ds.flatten)) ∧ Below B w w' := by
  obtain ⟨i0, hi, hz0, hz1, hz2⟩ := info_parts8 info8
  have hdn := Lib.hid hr.1
  have hdd := Lib.hid hr.2.1
  have hO0 : Hid (w.ownsRow B 5 1 (.slice A (k + 32 * 0) c) (k + 32 * 0) (cells8 (q ++ (ds.take 0).flatten))) := by show World.ownsRow _ _ _ _ _ _ _; simpa using hO
  replace hr := Lib.hid hr
  replace hA2 := Lib.hid hA2
  replace hlen := Lib.hid hlen
  replace hB := Lib.hid hB
  clear hO
  go_enter Try.func31, Try.ntmps31
  go_wp2_with fail
  go_loopw [0, 5] (fun bv iv wr => ∃ (i : Nat) (A1 : Option Addr) (c1 : Nat), bv = .slice A1 (k + 32 * i) c1 ∧ iv = .int .i64 (i : Int) ∧ i ≤ n ∧ Hid (wr.ownsRow B 5 1 (.slice A1 (k + 32 * i) c1) (k + 32 * i) (cells8 (q ++ (ds.take i).flatten))) ∧ Hid (Below B w wr)) (fun _ iv _ => n - (intOf iv).toNat)
  case atStart => exact ⟨0, A, c, rfl, rfl, Nat.zero_le _, hO0.out, Below.refl _ _⟩
  case round =>
    clear hO0
    obtain ⟨i, A1, c1, rfl, rfl, hin, hO, hW⟩ := hrel
    have hil : (i : Int) < 9223372036854775807 := by have := hlen.out; omega
    by_cases hlt : i < n
    · have hz : (i : Int) < (n : Int) := by omega
      have hz0' : (0 : Int) ≤ (i : Int) := by omega
      obtain ⟨d, hd⟩ : ∃ d, ds[i]? = some d := ⟨_, List.getElem?_eq_getElem (by rw [hdn.out]; exact hlt)⟩
      have hdl := hdd.out.at_ hd
      obtain ⟨b, o, e, hbb, hdc0⟩ := hr.out.at_ hd
      have hbB := hA2.out (by omega) b o e
      subst e
      have hsz : Hid (B ≤ wr.heap.size) := Nat.le_trans hB.out hW.out.size
      have hnew : Hid (Reads wr 1 (some ⟨b, o + i * 32, none⟩) 32 (cells8 d)) := ⟨by rw [cells8_len, hdl], fun _ => ⟨b, o + i * 32, rfl, Nat.lt_of_lt_of_le hbB hsz.out, fun j v hv => (hW.out.cell (p := ⟨b, o + i * 32 + j, none⟩) hbB).trans (hdc0 j v hv)⟩⟩
      have hft : Hid (q ++ (ds.take (i + 1)).flatten = (q ++ (ds.take i).flatten) ++ d) := by show _ = _; rw [flat_take hd, List.append_assoc]
      have hk1 : Hid (k + 32 * (i + 1) = k + 32 * i + 32) := by show _ = _; omega
      have hm1 : Hid (k + 32 * i + 32 ≤ maxLen) := by have := hlen.out; show _ ≤ _; unfold maxLen; omega
      have hm2 : Hid ((k + 32 * i + 32) * 1 ≤ 140737488355328) := by have := hlen.out; show _ ≤ _; omega
      have hil2 : Hid (i < n) := hlt
      clear hd hdl hdc0 hbb hbB hlt
      go_wp2_with (at_builtin; refine wpList_append_src _ rfl (.tmp 12) (.tmp 16) 29 rfl B 5 i0 (.int .u8 0) 1 1 Try.underlying29 hi hz0 hz1 hz2 rfl (by decide) (.slice A1 (k + 32 * i) c1) (k + 32 * i) (cells8 (q ++ (ds.take i).flatten)) rfl hO.out (some ⟨b, o + i * 32, none⟩) 32 32 (cells8 d) rfl hnew.out (fun e => by cases e) (cells8_one d) hm1.out hm2.out hsz.out ?_; intro v1 W hG; obtain ⟨A3, c3, rfl, hO3, hW3⟩ := grew_text hG hW.out hsz.out hO.out _ hft.out (k + 32 * (i + 1)) hk1.out; clear hG)
      go_roundw
      case rel => exact ⟨i + 1, A3, c3, rfl, by go_num, hil2.out, hO3.out, hW3.out⟩
      case measure => (have := hil2.out; simp [intOf]; omega)
    · obtain rfl : i = n := by omega
      have hT : Hid ((ds.take i).flatten = ds.flatten) := by show _ = _; rw [List.take_of_length_le (by rw [hdn.out]; exact Nat.le_refl _)]
      rw [hT.out] at hO
      have hz : ¬ ((i : Int) < (i : Int)) := by omega
      go_wp2_with fail
      go_ret
      exact ⟨_, rfl, hO.out, hW.out⟩

/-- The cells of an inclusion. -/
def inclCells (size i : Int) (A : Option Addr) (n c : Nat) : Array Value := #[.int .i64 size, .int .i64 i, .slice A n c]
/-- What the document lays an inclusion down as: nothing, where it is not right. -/
def inclWant (size i : Int) (ds : List Text) : Option Text := if insideB size i = true ∧ (sides size.toNat i.toNat).length = ds.length then some (inclBytes size.toNat i.toNat ds) else none
end Go.Proofs.Ytmdkfhfkdcbpgaa.Ref17

namespace Go.Proofs.Ytmdkfhfkdcbpgaa.Ref17b
open Go Go.RowKit Go.Proofs.Ytmdkfhfkdcbpgaa Go.Proofs.Ytmdkfhfkdcbpgaa.Mem Go.Proofs.Ytmdkfhfkdcbpgaa.Sha Go.Proofs.Ytmdkfhfkdcbpgaa.Bytes Go.Proofs.Ytmdkfhfkdcbpgaa.Append Go.Proofs.Ytmdkfhfkdcbpgaa.Octet Go.Proofs.Ytmdkfhfkdcbpgaa.Octet2 Go.Proofs.Ytmdkfhfkdcbpgaa.QuietTail Go.Proofs.Ytmdkfhfkdcbpgaa.Grown Go.Proofs.Ytmdkfhfkdcbpgaa.TreeMath Go.Proofs.Ytmdkfhfkdcbpgaa.Sides Go.Proofs.Ytmdkfhfkdcbpgaa.ProofBeside Go.Proofs.Ytmdkfhfkdcbpgaa.ProofEnc Go.Proofs.Ytmdkfhfkdcbpgaa.Beside17 Go.Proofs.Ytmdkfhfkdcbpgaa.Held Go.Proofs.Ytmdkfhfkdcbpgaa.Own Go.Proofs.Ytmdkfhfkdcbpgaa.TreeMem Go.Proofs.Ytmdkfhfkdcbpgaa.Ref17

/-- What Beside answers. -/
def bsOf (size i : Int) : Int := if insideB size i = true then ((sides size.toNat i.toNat).length : Int) else -1
theorem beside17_any (size i : Int) (w : World) : Calls Try.prog 42 #[.int .i64 size, .int .i64 i] w fun e w' => e = .returned (.int .i64 (bsOf size i)) ∧ w' = w := by
  unfold bsOf
  by_cases h : insideB size i = true
  · rw [if_pos h]
    have h2 := h
    simp only [insideB, Bool.and_eq_true, decide_eq_true_eq] at h2
    obtain ⟨sz, rfl⟩ := Int.eq_ofNat_of_zero_le (show 0 ≤ size by omega)
    obtain ⟨j, rfl⟩ := Int.eq_ofNat_of_zero_le h2.1.2
    exact (beside17_yes sz j (by omega) (by omega) w).mono fun e w' ⟨h1, h2⟩ => ⟨h1, h2.symm⟩
  · rw [if_neg h]
    exact (beside17_no size i (by simpa using h) w).mono fun e w' ⟨h1, h2⟩ => ⟨h1, h2.symm⟩
theorem bsOf_le (size i : Int) : -1 ≤ bsOf size i ∧ bsOf size i ≤ 40 := by
  unfold bsOf
  split
  · rename_i h
    simp only [insideB, Bool.and_eq_true, decide_eq_true_eq] at h
    have := sides_len (n := size.toNat) (j := i.toNat) (L := 40) (by omega) (by rw [show (2 : Nat) ^ 40 = 1099511627776 by decide]; omega)
    omega
  · omega

end Go.Proofs.Ytmdkfhfkdcbpgaa.Ref17b

namespace Go.Proofs.Ytmdkfhfkdcbpgaa.Eight
open Go Go.RowKit Go.Proofs.Ytmdkfhfkdcbpgaa Go.Proofs.Ytmdkfhfkdcbpgaa.Mem Go.Proofs.Ytmdkfhfkdcbpgaa.Sha Go.Proofs.Ytmdkfhfkdcbpgaa.Bytes Go.Proofs.Ytmdkfhfkdcbpgaa.Append Go.Proofs.Ytmdkfhfkdcbpgaa.Octet Go.Proofs.Ytmdkfhfkdcbpgaa.Octet2 Go.Proofs.Ytmdkfhfkdcbpgaa.QuietTail Go.Proofs.Ytmdkfhfkdcbpgaa.Grown Go.Proofs.Ytmdkfhfkdcbpgaa.TreeMath Go.Proofs.Ytmdkfhfkdcbpgaa.Sides Go.Proofs.Ytmdkfhfkdcbpgaa.ProofBeside Go.Proofs.Ytmdkfhfkdcbpgaa.ProofEnc Go.Proofs.Ytmdkfhfkdcbpgaa.Beside17 Go.Proofs.Ytmdkfhfkdcbpgaa.Held Go.Proofs.Ytmdkfhfkdcbpgaa.Own Go.Proofs.Ytmdkfhfkdcbpgaa.TreeMem Go.Proofs.Ytmdkfhfkdcbpgaa.Ref17

set_option maxRecDepth 100000 in
set_option maxHeartbeats 1000000 in
theorem eight_wrap (x0 : Int) (N : Nat) (hN : N < 18446744073709551616) (hN2 : IntKind.u64.wrap x0 = (N : Int)) (w : World) :
    Calls Try.prog 30 #[.int .i64 x0] w fun e w' => e = .returned (.slice (some ⟨w.heap.size, 0, none⟩) 8 8) ∧ Below w.heap.size w w' ∧ w'.ownsRow w.heap.size 5 1 (.slice (some ⟨w.heap.size, 0, none⟩) 8 8) 8 (cells8 (be8 N)) := by
  have HN : Hid (N < 18446744073709551616) := hN
  have hN1 : (0 : Int) ≤ (N : Int) := by omega
  have hT0 : Hid (Tab (w.alloc (.cells #[.int .u8 0, .int .u8 0, .int .u8 0, .int .u8 0, .int .u8 0, .int .u8 0, .int .u8 0, .int .u8 0] 5)) w.heap.size 5 8 (eightTab N 0)) := Tab.new w _ _ 8 _ rfl (fun j hj => by
    match j, hj with
    | 0, _ => rfl
    | 1, _ => rfl
    | 2, _ => rfl
    | 3, _ => rfl
    | 4, _ => rfl
    | 5, _ => rfl
    | 6, _ => rfl
    | 7, _ => rfl
    | j + 8, h => omega)
  clear hN
  have hmk : ∀ w : World, (Instr.makeSlice 29 (.int .i64 8) (.int .i64 8)).run Try.prog w = .ok (.slice (some ⟨w.heap.size, 0, none⟩) 8 8) (w.alloc (.cells #[.int .u8 0, .int .u8 0, .int .u8 0, .int .u8 0, .int .u8 0, .int .u8 0, .int .u8 0, .int .u8 0] 5)) := fun _ => by kernel_rfl
  go_enter Try.func30, Try.ntmps30
  go_wp2_with fail
  clear hmk
  go_loopw [4] (fun v wr => ∃ i : Nat, v = .int .i64 (i : Int) ∧ i ≤ 8 ∧ Hid (Tab wr w.heap.size 5 8 (eightTab N i)) ∧ Hid (Below w.heap.size w wr)) (fun v _ => 8 - (intOf v).toNat)
  case atStart => exact ⟨0, rfl, by omega, hT0.out, Below.heap_below w _⟩
  case round =>
    clear hT0
    obtain ⟨i, rfl, hi, hT, hW⟩ := hrel
    by_cases hlt : i < 8
    · have hz : (i : Int) < 8 := by omega
      have hzi : (0 : Int) ≤ (i : Int) := by omega
      obtain ⟨x, hx⟩ : ∃ x, Hid (x = byteAt N (56 - 8 * i)) := ⟨_, rfl⟩
      have z1 : IntKind.i64.wrap (8 * (i : Int)) = 8 * (i : Int) := IntWalk.i64_in _ (by omega)
      have z2 : IntKind.i64.wrap (56 - 8 * (i : Int)) = 56 - 8 * (i : Int) := IntWalk.i64_in _ (by omega)
      have z3 : IntKind.u64.wrap (56 - 8 * (i : Int)) = 56 - 8 * (i : Int) := u64_in _ (by omega) (by omega)
      have y4 : (56 - 8 * (i : Int)).toNat = 56 - 8 * i := by omega
      have y3 : (N : Int) / 2 ^ (56 - 8 * i) % 256 = b8 x := by rw [hx.out]; exact b8_at N _
      have y5 : (56 - 8 * (i : Int)) < 64 := by omega
      have y6 : 0 ≤ (56 - 8 * (i : Int)) := by omega
      have y7 : (0 : Int) ≤ (N : Int) / 2 ^ (56 - 8 * i) := Int.ediv_nonneg (by omega) (by exact Int.le_of_lt (Int.pow_pos (by decide)))
      have hgd : Hid ((be8 N).getD i 0 = x) := by show _ = _; rw [List.getD, be8_at N i hlt, hx.out]; rfl
      have c0 : wr.cell? ⟨w.heap.size, i, none⟩ = some (eightTab N i i) := hT.out.cell hlt
      have f0 : wr.frozen? ⟨w.heap.size, i, none⟩ = false := hT.out.frozen _
      have hi8 : Hid (i < 8) := hlt
      clear hlt
      go_wp2_with fail
      go_roundw
      case rel => exact ⟨i + 1, by go_num, hi8.out, hT.out.set_ i _ (fun j _ => by rw [eightTab_succ, hgd.out]; rfl), hW.out.trans (Kept.below_of ((Kept.refl (· = w.heap.size) wr).setCell (.inl rfl) _) (Nat.le_refl _) hW.out.size)⟩
      case measure => (have := hi8.out; simp [intOf]; omega)
    · obtain rfl : i = 8 := by omega
      go_wp2_with fail
      go_ret
      exact ⟨rfl, hW.out, tab_own hT.out (be8_len N) (by decide) (fun j hj => by unfold eightTab; rw [if_pos hj]) (Nat.le_refl _)⟩
def be8i (x : Int) : Text := be8 (x % 18446744073709551616).toNat
theorem be8i_len (x : Int) : (be8i x).length = 8 := be8_len _
theorem be8i_nat (N : Nat) (h : N < 18446744073709551616) : be8i (N : Int) = be8 N := by
  unfold be8i
  congr 1
  omega
theorem eight_all (x : Int) (w : World) :
    Calls Try.prog 30 #[.int .i64 x] w fun e w' => e = .returned (.slice (some ⟨w.heap.size, 0, none⟩) 8 8) ∧ Below w.heap.size w w' ∧ w'.ownsRow w.heap.size 5 1 (.slice (some ⟨w.heap.size, 0, none⟩) 8 8) 8 (cells8 (be8i x)) := by
  refine eight_wrap x _ (by omega) ?_ w
  simp [IntKind.wrap, IntKind.signed, IntKind.bits]
  omega
end Go.Proofs.Ytmdkfhfkdcbpgaa.Eight

namespace Go.Proofs.Ytmdkfhfkdcbpgaa.Ref17K
open Go Go.RowKit Go.Proofs.Ytmdkfhfkdcbpgaa Go.Proofs.Ytmdkfhfkdcbpgaa.Mem Go.Proofs.Ytmdkfhfkdcbpgaa.Sha Go.Proofs.Ytmdkfhfkdcbpgaa.Bytes Go.Proofs.Ytmdkfhfkdcbpgaa.Append Go.Proofs.Ytmdkfhfkdcbpgaa.Octet Go.Proofs.Ytmdkfhfkdcbpgaa.Octet2 Go.Proofs.Ytmdkfhfkdcbpgaa.QuietTail Go.Proofs.Ytmdkfhfkdcbpgaa.Grown Go.Proofs.Ytmdkfhfkdcbpgaa.TreeMath Go.Proofs.Ytmdkfhfkdcbpgaa.Sides Go.Proofs.Ytmdkfhfkdcbpgaa.ProofBeside Go.Proofs.Ytmdkfhfkdcbpgaa.ProofEnc Go.Proofs.Ytmdkfhfkdcbpgaa.Beside17 Go.Proofs.Ytmdkfhfkdcbpgaa.Held Go.Proofs.Ytmdkfhfkdcbpgaa.Own Go.Proofs.Ytmdkfhfkdcbpgaa.TreeMem Go.Proofs.Ytmdkfhfkdcbpgaa.Ref17

/-- An append, beside a block that it does not touch. -/
theorem grew_text2 {w w' : World} {B n m : Nat} {A : Option Addr} {c : Nat} {q r : Text} {v' : Value} (h : Grew w B 5 1 (.slice A n c) n m (cells8 q) (cells8 r) v' w') {w0 : World} (hb : Below B w0 w) (hB : B ≤ w.heap.size) (hown : w.ownsRow B 5 1 (.slice A n c) n (cells8 q)) (s : Text) (hs : s = q ++ r) (k : Nat) (hk : k = n + m) {mb : Nat} {w5 : World} (hk5 : Kept (· ≠ mb) w5 w) (hmb : mb < w5.heap.size) (hne : ∀ j, Value.ownBlock (.slice A n c) = some j → j ≠ mb) :
    ∃ A' c', v' = .slice A' k c' ∧ Hid (w'.ownsRow B 5 1 (.slice A' k c') k (cells8 s)) ∧ Hid (Below B w0 w') ∧ Hid (Kept (· ≠ mb) w5 w') ∧ Hid (∀ j, Value.ownBlock (.slice A' k c') = some j → j ≠ mb) := by
  obtain ⟨A', c', rfl, h1, h2⟩ := grew_text h hb hB hown s hs k hk
  refine ⟨A', c', rfl, h1, h2, ⟨h.grow.os.trans hk5.os, h.grow.tape.trans hk5.tape, h.grow.output.trans hk5.output, Nat.le_trans hk5.size h.grow.size, fun q hq hn => (h.grow.block q (Nat.lt_of_lt_of_le hq hk5.size) (fun e => hn (fun e2 => hne q e.symm e2))).trans (hk5.block q hq hn)⟩, fun j e => ?_⟩
  rcases h.at_ with h3 | h3
  · exact hne j (h3.symm.trans e)
  · rw [h3] at e
    injection e with e
    have := hk5.size
    omega
set_option maxRecDepth 100000 in
set_option maxHeartbeats 1000000 in
theorem digests17_mb (B : Nat) (q : Text) (k : Nat) (A : Option Addr) (c : Nat) (ds : List Text) (n : Nat) (A2 : Option Addr) (c2 : Nat) (w : World) (hB : B ≤ w.heap.size) (hO : w.ownsRow B 5 1 (.slice A k c) k (cells8 q)) (hr : RdD w A2 n ds)
    (hA2 : 0 < n → ∀ b o, A2 = some ⟨b, o, none⟩ → b < B) (hlen : k + 32 * n ≤ 140737488355328) (mb : Nat) (hmb : mb < w.heap.size) (hne : ∀ j, Value.ownBlock (.slice A k c) = some j → j ≠ mb) :
    Calls Try.prog 31 #[.slice A k c, .slice A2 n c2] w fun e w' => ∃ v, e = .returned v ∧ w'.ownsRow B 5 1 v (k + 32 * n) (cells8 (q ++ ds.flatten)) ∧ Below B w w' ∧ Kept (· ≠ mb) w w' := by
  obtain ⟨i0, hi, hz0, hz1, hz2⟩ := info_parts8 info8
  have hdn := Lib.hid hr.1
  have hdd := Lib.hid hr.2.1
  have hO0 : Hid (w.ownsRow B 5 1 (.slice A (k + 32 * 0) c) (k + 32 * 0) (cells8 (q ++ (ds.take 0).flatten))) := by show World.ownsRow _ _ _ _ _ _ _; simpa using hO
  replace hr := Lib.hid hr
  replace hA2 := Lib.hid hA2
  replace hlen := Lib.hid hlen
  replace hB := Lib.hid hB
  have hmbh := Lib.hid hmb
  have hne0 : Hid (∀ j, Value.ownBlock (.slice A (k + 32 * 0) c) = some j → j ≠ mb) := hne
  clear hO hmb hne
  go_enter Try.func31, Try.ntmps31
  go_wp2_with fail
  go_loopw [0, 5] (fun bv iv wr => ∃ (i : Nat) (A1 : Option Addr) (c1 : Nat), bv = .slice A1 (k + 32 * i) c1 ∧ iv = .int .i64 (i : Int) ∧ i ≤ n ∧ Hid (wr.ownsRow B 5 1 (.slice A1 (k + 32 * i) c1) (k + 32 * i) (cells8 (q ++ (ds.take i).flatten))) ∧ Hid (Below B w wr) ∧ Hid (Kept (· ≠ mb) w wr) ∧ Hid (∀ j, Value.ownBlock (.slice A1 (k + 32 * i) c1) = some j → j ≠ mb)) (fun _ iv _ => n - (intOf iv).toNat)
  case atStart => exact ⟨0, A, c, rfl, rfl, Nat.zero_le _, hO0.out, Below.refl _ _, Kept.refl _ _, hne0.out⟩
  case round =>
    clear hO0 hne0
    obtain ⟨i, A1, c1, rfl, rfl, hin, hO, hW, hK, hN⟩ := hrel
    have hil : (i : Int) < 9223372036854775807 := by have := hlen.out; omega
    by_cases hlt : i < n
    · have hz : (i : Int) < (n : Int) := by omega
      have hz0' : (0 : Int) ≤ (i : Int) := by omega
      obtain ⟨d, hd⟩ : ∃ d, ds[i]? = some d := ⟨_, List.getElem?_eq_getElem (by rw [hdn.out]; exact hlt)⟩
      have hdl := hdd.out.at_ hd
      obtain ⟨b, o, e, hbb, hdc0⟩ := hr.out.at_ hd
      have hbB := hA2.out (by omega) b o e
      subst e
      have hsz : Hid (B ≤ wr.heap.size) := Nat.le_trans hB.out hW.out.size
      have hnew : Hid (Reads wr 1 (some ⟨b, o + i * 32, none⟩) 32 (cells8 d)) := ⟨by rw [cells8_len, hdl], fun _ => ⟨b, o + i * 32, rfl, Nat.lt_of_lt_of_le hbB hsz.out, fun j v hv => (hW.out.cell (p := ⟨b, o + i * 32 + j, none⟩) hbB).trans (hdc0 j v hv)⟩⟩
      have hft : Hid (q ++ (ds.take (i + 1)).flatten = (q ++ (ds.take i).flatten) ++ d) := by show _ = _; rw [flat_take hd, List.append_assoc]
      have hk1 : Hid (k + 32 * (i + 1) = k + 32 * i + 32) := by show _ = _; omega
      have hm1 : Hid (k + 32 * i + 32 ≤ maxLen) := by have := hlen.out; show _ ≤ _; unfold maxLen; omega
      have hm2 : Hid ((k + 32 * i + 32) * 1 ≤ 140737488355328) := by have := hlen.out; show _ ≤ _; omega
      have hil2 : Hid (i < n) := hlt
      clear hd hdl hdc0 hbb hbB hlt
      go_wp2_with (at_builtin; refine wpList_append_src _ rfl (.tmp 12) (.tmp 16) 29 rfl B 5 i0 (.int .u8 0) 1 1 Try.underlying29 hi hz0 hz1 hz2 rfl (by decide) (.slice A1 (k + 32 * i) c1) (k + 32 * i) (cells8 (q ++ (ds.take i).flatten)) rfl hO.out (some ⟨b, o + i * 32, none⟩) 32 32 (cells8 d) rfl hnew.out (fun e => by cases e) (cells8_one d) hm1.out hm2.out hsz.out ?_; intro v1 W hG; obtain ⟨A3, c3, rfl, hO3, hW3, hK3, hN3⟩ := grew_text2 hG hW.out hsz.out hO.out _ hft.out (k + 32 * (i + 1)) hk1.out hK.out hmbh.out hN.out; clear hG)
      go_roundw
      case rel => exact ⟨i + 1, A3, c3, rfl, by go_num, hil2.out, hO3.out, hW3.out, hK3.out, hN3.out⟩
      case measure => (have := hil2.out; simp [intOf]; omega)
    · obtain rfl : i = n := by omega
      have hT : Hid ((ds.take i).flatten = ds.flatten) := by show _ = _; rw [List.take_of_length_le (by rw [hdn.out]; exact Nat.le_refl _)]
      rw [hT.out] at hO
      have hz : ¬ ((i : Int) < (i : Int)) := by omega
      go_wp2_with fail
      go_ret
      exact ⟨_, rfl, hO.out, hW.out, hK.out⟩

end Go.Proofs.Ytmdkfhfkdcbpgaa.Ref17K
