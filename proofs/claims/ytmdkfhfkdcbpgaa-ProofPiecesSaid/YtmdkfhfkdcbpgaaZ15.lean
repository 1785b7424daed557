/-
  Texts of the claim, put into one file: Reader, Reader2, Reader3, Flag, Reader7, OctetBytes.
-/
import Derived.Test.YtmdkfhfkdcbpgaaZ14
import Derived.Test.YtmdkfhfkdcbpgaaZ6

namespace Go.Proofs.Ytmdkfhfkdcbpgaa.Reader
open Go Go.RowKit Go.Proofs.Ytmdkfhfkdcbpgaa Go.Proofs.Ytmdkfhfkdcbpgaa.Mem Go.Proofs.Ytmdkfhfkdcbpgaa.Sha Go.Proofs.Ytmdkfhfkdcbpgaa.Bytes Go.Proofs.Ytmdkfhfkdcbpgaa.Append Go.Proofs.Ytmdkfhfkdcbpgaa.Octet Go.Proofs.Ytmdkfhfkdcbpgaa.QuietTail Go.Proofs.Ytmdkfhfkdcbpgaa.Grown

/-- The number that bytes are, the highest first. -/
def num (l : Text) : Nat := l.foldl (fun a c => a * 256 + c.toNat) 0
theorem num_snoc (l : Text) (c : BitVec 8) : num (l ++ [c]) = num l * 256 + c.toNat := by simp [num]
theorem num_lt : ∀ (n : Nat) (l : Text), l.length = n → num l < 256 ^ n
  | 0, l, h => by
    obtain rfl : l = [] := List.eq_nil_of_length_eq_zero h
    simp [num]
  | n + 1, l, h => by
    have hl : l = l.take n ++ [l[n]'(by omega)] := by
      have := List.take_append_drop n l
      conv => lhs; rw [← this]
      congr 1
      rw [List.drop_eq_getElem_cons (by omega), List.drop_of_length_le (by omega)]
    have h1 := num_lt n (l.take n) (by rw [List.length_take]; omega)
    have h2 := (l[n]'(by omega)).isLt
    rw [hl, num_snoc, Nat.pow_succ]
    omega
theorem or_num (a : Nat) (c : BitVec 8) (ha : a < 72057594037927936) : bits .or .u64 ((a : Int) * 256) (b8 c) = ((a * 256 + c.toNat : Nat) : Int) := by
  have hc := c.isLt
  have h1 : ((a : Int) * 256) = ((a * 256 : Nat) : Int) := by omega
  have h2 : a * 256 ||| c.toNat = a * 256 + c.toNat := by
    have := Nat.two_pow_add_eq_or_of_lt (i := 8) (b := c.toNat) (by omega) a
    rw [show 2 ^ 8 * a = a * 256 by omega] at this
    exact this.symm
  have e1 : (BitVec.ofInt 64 ((a * 256 : Nat) : Int)).toNat = a * 256 := by
    rw [BitVec.ofInt_natCast, BitVec.toNat_ofNat]; exact Nat.mod_eq_of_lt (by omega)
  have e2 : (BitVec.ofInt 64 (c.toNat : Int)).toNat = c.toNat := by
    rw [BitVec.ofInt_natCast, BitVec.toNat_ofNat]; exact Nat.mod_eq_of_lt (by omega)
  unfold b8
  rw [h1]
  show IntKind.u64.wrap ((BitVec.ofInt 64 ((a * 256 : Nat) : Int) ||| BitVec.ofInt 64 (c.toNat : Int)).toNat : Int) = _
  rw [BitVec.toNat_or, e1, e2, h2]
  exact u64_in _ (by omega) (by omega)

/-- A reader at block g over the text q, after 'need' bytes were asked for. -/
def Rd (w : World) (g : Nat) (q : Text) (A : Option Addr) (c need : Nat) : Prop :=
  ∃ at_ why, Blk w g 121 #[.slice A q.length c, .int .i64 ((at_ : Nat) : Int), .int .i64 why] ∧ Reads w 1 A q.length (cells8 q) ∧ (A = none → q.length = 0 ∧ c = 0) ∧ (0 < q.length → ∀ a, A = some a → a.block ≠ g) ∧ q.length ≤ c ∧
    at_ ≤ q.length ∧ (need ≤ q.length → at_ = need ∧ why = 0) ∧ (q.length < need → why = 8)

section
variable {w w' : World} {g need c : Nat} {q : Text} {A : Option Addr}
theorem Rd.lt (h : Rd w g q A c need) : g < w.heap.size := by obtain ⟨_, _, hb, _⟩ := h; exact hb.lt
theorem Rd.kept {S : Nat → Prop} (h : Rd w g q A c need) (hk : Kept S w w') (hS : ∀ b, b < w.heap.size → ¬ S b) : Rd w' g q A c need := by
  obtain ⟨at_, why, hb, hr, h1⟩ := h
  refine ⟨at_, why, hb.kept hk (hS g hb.lt), hr.kept0 hk (fun hp b o e => ?_), h1⟩
  obtain ⟨b', o', e', hlt, _⟩ := hr.2 hp
  rw [e] at e'
  injection e' with e'
  injection e' with e1
  subst e1
  exact hS b hlt
theorem Rd.below (h : Rd w g q A c need) (hb : Below w.heap.size w w') : Rd w' g q A c need := h.kept (S := fun _ => False) (Kept.of_below hb) (fun _ _ x => x)
theorem Rd.alloc (h : Rd w g q A c need) (o : Obj) : Rd (w.alloc o) g q A c need := h.below (Below.heap_below w o)
theorem Rd.drewN (h : Rd w g q A c need) (n : Nat) : Rd (w.drewN n) g q A c need := h.below (below_drawn (Below.refl _ _) n)
end

set_option maxRecDepth 100000 in
set_option maxHeartbeats 1000000 in
theorem read_any (q : Text) (k : Nat) (hk : q.length = k) (hk47 : k < 140737488355328) (A : Option Addr) (c : Nat) (w : World) (hr : Reads w 1 A k (cells8 q)) (hnil : A = none → k = 0 ∧ c = 0) :
    Calls Try.prog 79 #[.slice A k c] w fun e w' => ∃ g A' c', e = .returned (.pointer (some ⟨g, 0, none⟩)) ∧ w.heap.size ≤ g ∧ Below w.heap.size w w' ∧ Rd w' g q A' c' 0 := by
  obtain ⟨i0, hi, hz0, hz1, hz2⟩ := info_parts8 info8
  subst hk
  have hc1 : Hid (0 + q.length ≤ maxLen) := by show _ ≤ _; unfold maxLen; omega
  have hc2 : Hid ((0 + q.length) * 1 ≤ 140737488355328) := by show _ ≤ _; omega
  replace hr := Lib.hid hr
  replace hnil := Lib.hid hnil
  clear hk47
  go_enter Try.func79, Try.ntmps79
  go_wp2_with (at_builtin; refine wpList_append_src _ rfl (.const (.slice none 0 0)) (.tmp 3) 29 rfl w.heap.size 5 i0 (.int .u8 0) 1 1 Try.underlying29 hi hz0 hz1 hz2 rfl (by decide) (.slice none 0 0) 0 [] rfl (World.ownsRow_nil _ _ _ _) A q.length c (cells8 q) rfl hr.out hnil.out (cells8_one q) hc1.out hc2.out (Nat.le_refl _) ?_; intro v1 w1 hG; have hbb : Hid (Below w.heap.size w w1) := hG.below (Below.refl _ _) (Nat.le_refl _) (fun k e => by cases e); have hO := hG.own; rw [Nat.zero_add, List.nil_append] at hO; obtain ⟨A1, c1, rfl, hn1, _, hnil1, hr1, -⟩ := Own.reads hO; clear hG hO; replace hr1 := Lib.hid hr1; replace hnil1 := Lib.hid hnil1; replace hn1 := Lib.hid hn1)
  go_ret
  refine ⟨w1.heap.size, A1, c1, rfl, hbb.out.size, hbb.out.alloc hbb.out.size _, 0, 0, Blk.new _ _ _, hr1.out.alloc _, hnil1.out, (fun h0 a e h => ?_), hn1.out, Nat.zero_le _, fun _ => ⟨rfl, rfl⟩, fun h => absurd h (by omega)⟩
  subst e
  obtain ⟨b, o, e2, hlt, _⟩ := hr1.out.2 (by omega)
  injection e2 with e2
  subst e2
  simp at h
  omega

/-- 's[l:h]', l and h within. -/
theorem run_mid {P : Program} {t : TypeId} {A : Option Addr} {n c l h : Nat} (ht : P.underlying t = some (.slice (P.elem t))) (hs : ∀ w, (sizeOf (P.elem t)).run P w = .ok 1 w) (h1 : l ≤ h) (h2 : h ≤ c) (x y : Int) (hx : x = l) (hy : y = h) (w : World) :
    (Instr.sliceAt t (.slice A n c) (some (.int .i64 x)) (some (.int .i64 y)) none).run P w = .ok (.slice (cutA A l c) (h - l) (c - l)) w := by
  subst hx hy
  rw [run_sliceAt_slice w t _ _ _ _ ht, run_slice_lh w t A n c ht .i64 .i64 (l : Int) (h : Int) (by omega) (by omega) (by omega), hs]
  simp [Result.andThen, sliced, cutA]

/-- What the walk of 'ahead' must know of a reader that has room. -/
theorem Rd.at_ {w : World} {need : Nat} {q : Text} {A : Option Addr} (hr : Reads w 1 A q.length (cells8 q)) {k : Nat} (h0 : 0 < k) (hk : need + k ≤ q.length) : ∃ b o, A = some ⟨b, o, none⟩ ∧ b < w.heap.size ∧ ∀ j, j < k → w.cell? ⟨b, o + need + j, none⟩ = some (.int .u8 (b8 (q.getD (need + j) 0))) := by
  obtain ⟨b, o, e, hb, hc⟩ := hr.2 (by omega)
  refine ⟨b, o, e, hb, fun j hj => ?_⟩
  rw [Nat.add_assoc]
  exact hc _ _ (cells8_at q _ (by omega))

theorem take_num (q : Text) (need k j : Nat) (hj : j < k) (hk : need + k ≤ q.length) : num (((q.drop need).take k).take (j + 1)) = num (((q.drop need).take k).take j) * 256 + (q.getD (need + j) 0).toNat := by
  have h : ((q.drop need).take k)[j]? = some (q.getD (need + j) 0) := by
    rw [List.getElem?_take, if_pos hj, List.getElem?_drop]
    simp [List.getD, show need + j < q.length by omega]
  rw [List.take_add_one, h, Option.toList_some, num_snoc]

set_option maxRecDepth 100000 in
set_option maxHeartbeats 1000000 in
theorem ahead8_yes (q : Text) (at_ : Nat) (h8 : at_ + 8 ≤ q.length) (hq : q.length < 140737488355328) (A : Option Addr) (c g : Nat) (why : Int) (w : World) (hb : Blk w g 121 #[.slice A q.length c, .int .i64 (at_ : Int), .int .i64 why]) (hr : Reads w 1 A q.length (cells8 q)) (hc : q.length ≤ c) :
    Calls Try.prog 85 #[.pointer (some ⟨g, 0, none⟩), .int .i64 (at_ : Int)] w fun e w' => e = .returned (.tuple #[.int .u64 (num ((q.drop at_).take 8) : Int), .int .i64 ((at_ : Int) + 8), .bool true]) ∧ w = w' := by
  obtain ⟨b, o, rfl, hbl, hcell⟩ := Rd.at_ hr (k := 8) (by omega) h8
  have g0 : w.cell? ⟨g, 0, none⟩ = some (.slice (some ⟨b, o, none⟩) q.length c) := by rw [hb.cell 0]; rfl
  have x1 : (0 : Int) ≤ (at_ : Int) := by omega
  have x2 : (at_ : Int) + 8 ≤ (q.length : Int) := by omega
  have x3 : (q.length : Int) < 9223372036854775807 := by omega
  have X : ∀ w', (Instr.sliceAt 29 (.slice (some ⟨b, o, none⟩) q.length c) (some (.int .i64 (at_ : Int))) (some (.int .i64 ((at_ : Int) + 8))) none).run Try.prog w' = .ok (.slice (some ⟨b, o + at_, none⟩) 8 (c - at_)) w' := fun w' => by
    rw [run_mid (l := at_) (h := at_ + 8) Try.underlying29 (fun _ => rfl) (by omega) (by omega) _ _ rfl (by omega) w']
    simp only [cutA, if_neg (show ¬ c = at_ by omega), Option.map_some, add_at]
    congr 2
    omega
  have x4 : (8 : Int) ≤ (q.length : Int) - (at_ : Int) := by omega
  obtain ⟨n, hn⟩ : ∃ n, Hid (n = q.length) := ⟨_, rfl⟩
  rw [← hn.out] at g0 x2 x3 x4
  simp only [← hn.out] at X
  have y1 : decide ((n : Int) - (at_ : Int) < 8) = false := by simp; omega
  have y2 : decide ((n : Int) < 8 + (at_ : Int)) = false := by simp; omega
  have y3 : decide ((n : Int) < (at_ : Int) + 8) = false := by simp; omega
  replace hcell := Lib.hid hcell
  have hq8 := Lib.hid h8
  clear hb hr hc h8 hq hbl
  go_enter Try.func85, Try.ntmps85
  go_wp2_with (go_at_call 78; refine (width8 _).mono ?_; rintro e w' ⟨rfl, rfl⟩)
  clear X y1 y2 y3
  go_loop [8, 32] (fun v u => ∃ j N : Nat, u = .int .i64 (j : Int) ∧ v = .int .u64 (N : Int) ∧ Hid (j ≤ 8) ∧ Hid (N = num (((q.drop at_).take 8).take j))) (fun _ u => 8 - (intOf u).toNat)
  case atStart => exact ⟨0, 0, rfl, rfl, (show 0 ≤ 8 by omega), rfl⟩
  case round =>
    obtain ⟨j, N, rfl, rfl, hj, hNd⟩ := hrel
    by_cases hlt : j < 8
    · have z1 : (j : Int) < 8 := by omega
      have z2 : (0 : Int) ≤ (j : Int) := by omega
      have hNl : N < 72057594037927936 := by
        rw [hNd.out]
        have h1 := num_lt (((q.drop at_).take 8).take j).length _ rfl
        have h2 : (((q.drop at_).take 8).take j).length ≤ 7 := by rw [List.length_take]; omega
        exact Nat.lt_of_lt_of_le h1 (Nat.le_trans (Nat.pow_le_pow_right (by decide) h2) (by decide))
      have hcj := hcell.out j hlt
      obtain ⟨y, hy⟩ : ∃ y, Hid (y = q.getD (at_ + j) 0) := ⟨_, rfl⟩
      rw [← hy.out] at hcj
      have hst : Hid (N * 256 + y.toNat = num (((q.drop at_).take 8).take (j + 1))) := by
        show _ = _
        rw [take_num q at_ 8 j hlt hq8.out, ← hNd.out, hy.out]
      have f0 := b8_nonneg y
      have f1 := b8_lt y
      have f2 : IntKind.u64.wrap (b8 y) = b8 y := u64_in _ f0 (by omega)
      have f3 : IntKind.u64.wrap ((N : Int) * 256) = (N : Int) * 256 := u64_in _ (by omega) (by omega)
      have f4 : (N : Int) * 256 % 18446744073709551616 = (N : Int) * 256 := by omega
      have f5 := or_num N y hNl
      obtain ⟨M, hM⟩ : ∃ M, Hid (M = N * 256 + y.toNat) := ⟨_, rfl⟩
      rw [← hM.out] at f5 hst
      replace hNl := Lib.hid hNl
      go_wp2_with fail
      go_round
      case rel => exact ⟨j + 1, M, by go_num, rfl, (show j + 1 ≤ 8 by omega), hst.out⟩
      case measure => simp [intOf]; omega
    · obtain rfl : j = 8 := by have := hj.out; omega
      have hT : Hid (((q.drop at_).take 8).take 8 = (q.drop at_).take 8) := by show _ = _; rw [List.take_take]; rfl
      go_wp2_with fail
      go_ret3
      rw [hT.out] at hNd
      obtain rfl := hNd.out
      exact ⟨rfl, rfl⟩
set_option maxRecDepth 100000 in
set_option maxHeartbeats 1000000 in
theorem ahead1_yes (q : Text) (at_ : Nat) (h8 : at_ + 1 ≤ q.length) (hq : q.length < 140737488355328) (A : Option Addr) (c g : Nat) (why : Int) (w : World) (hb : Blk w g 121 #[.slice A q.length c, .int .i64 (at_ : Int), .int .i64 why]) (hr : Reads w 1 A q.length (cells8 q)) (hc : q.length ≤ c) :
    Calls Try.prog 81 #[.pointer (some ⟨g, 0, none⟩), .int .i64 (at_ : Int)] w fun e w' => e = .returned (.tuple #[.int .u8 (b8 (q.getD at_ 0)), .int .i64 ((at_ : Int) + 1), .bool true]) ∧ w = w' := by
  obtain ⟨b, o, rfl, hbl, hcell⟩ := Rd.at_ hr (k := 1) (by omega) h8
  have g0 : w.cell? ⟨g, 0, none⟩ = some (.slice (some ⟨b, o, none⟩) q.length c) := by rw [hb.cell 0]; rfl
  have x1 : (0 : Int) ≤ (at_ : Int) := by omega
  have x2 : (at_ : Int) + 1 ≤ (q.length : Int) := by omega
  have x3 : (q.length : Int) < 9223372036854775807 := by omega
  have X : ∀ w', (Instr.sliceAt 29 (.slice (some ⟨b, o, none⟩) q.length c) (some (.int .i64 (at_ : Int))) (some (.int .i64 ((at_ : Int) + 1))) none).run Try.prog w' = .ok (.slice (some ⟨b, o + at_, none⟩) 1 (c - at_)) w' := fun w' => by
    rw [run_mid (l := at_) (h := at_ + 1) Try.underlying29 (fun _ => rfl) (by omega) (by omega) _ _ rfl (by omega) w']
    simp only [cutA, if_neg (show ¬ c = at_ by omega), Option.map_some, add_at]
    congr 2
    omega
  have x4 : (1 : Int) ≤ (q.length : Int) - (at_ : Int) := by omega
  obtain ⟨n, hn⟩ : ∃ n, Hid (n = q.length) := ⟨_, rfl⟩
  rw [← hn.out] at g0 x2 x3 x4
  simp only [← hn.out] at X
  have y1 : decide ((n : Int) - (at_ : Int) < 1) = false := by simp; omega
  have y2 : decide ((n : Int) < 1 + (at_ : Int)) = false := by simp; omega
  have y3 : decide ((n : Int) < (at_ : Int) + 1) = false := by simp; omega
  replace hcell := Lib.hid hcell
  have hq8 := Lib.hid h8
  clear hb hr hc h8 hq hbl
  go_enter Try.func81, Try.ntmps81
  go_wp2_with (go_at_call 49; refine (width1 _).mono ?_; rintro e w' ⟨rfl, rfl⟩)
  clear X y1 y2 y3
  go_loop [8, 32] (fun v u => ∃ j N : Nat, u = .int .i64 (j : Int) ∧ v = .int .u64 (N : Int) ∧ Hid (j ≤ 1) ∧ Hid (N = num (((q.drop at_).take 1).take j))) (fun _ u => 1 - (intOf u).toNat)
  case atStart => exact ⟨0, 0, rfl, rfl, (show 0 ≤ 1 by omega), rfl⟩
  case round =>
    obtain ⟨j, N, rfl, rfl, hj, hNd⟩ := hrel
    by_cases hlt : j < 1
    · have z1 : (j : Int) < 1 := by omega
      have z2 : (0 : Int) ≤ (j : Int) := by omega
      have hNl : N < 72057594037927936 := by
        rw [hNd.out]
        have h1 := num_lt (((q.drop at_).take 1).take j).length _ rfl
        have h2 : (((q.drop at_).take 1).take j).length ≤ 0 := by rw [List.length_take]; omega
        exact Nat.lt_of_lt_of_le h1 (Nat.le_trans (Nat.pow_le_pow_right (by decide) h2) (by decide))
      have hcj := hcell.out j hlt
      obtain ⟨y, hy⟩ : ∃ y, Hid (y = q.getD (at_ + j) 0) := ⟨_, rfl⟩
      rw [← hy.out] at hcj
      have hst : Hid (N * 256 + y.toNat = num (((q.drop at_).take 1).take (j + 1))) := by
        show _ = _
        rw [take_num q at_ 1 j hlt hq8.out, ← hNd.out, hy.out]
      have f0 := b8_nonneg y
      have f1 := b8_lt y
      have f2 : IntKind.u64.wrap (b8 y) = b8 y := u64_in _ f0 (by omega)
      have f3 : IntKind.u64.wrap ((N : Int) * 256) = (N : Int) * 256 := u64_in _ (by omega) (by omega)
      have f4 : (N : Int) * 256 % 18446744073709551616 = (N : Int) * 256 := by omega
      have f5 := or_num N y hNl
      obtain ⟨M, hM⟩ : ∃ M, Hid (M = N * 256 + y.toNat) := ⟨_, rfl⟩
      rw [← hM.out] at f5 hst
      replace hNl := Lib.hid hNl
      go_wp2_with fail
      go_round
      case rel => exact ⟨j + 1, M, by go_num, rfl, (show j + 1 ≤ 1 by omega), hst.out⟩
      case measure => simp [intOf]; omega
    · obtain rfl : j = 1 := by have := hj.out; omega
      have hT : Hid (N = (q.getD at_ 0).toNat) := by
        show _ = _
        have := take_num q at_ 1 0 (by omega) hq8.out
        rw [hNd.out, show (((q.drop at_).take 1).take 1) = (((q.drop at_).take 1).take (0 + 1)) from rfl, this]
        simp [num]
      obtain rfl := hT.out
      have f1 : IntKind.u8.wrap (((q.getD at_ 0).toNat : Nat) : Int) = b8 (q.getD at_ 0) := by
        have := (q.getD at_ 0).isLt
        unfold b8
        simp [IntKind.wrap, IntKind.bits, IntKind.signed]
        omega
      have f2 : (((q.getD at_ 0).toNat : Nat) : Int) % 256 = b8 (q.getD at_ 0) := by
        have := (q.getD at_ 0).isLt
        unfold b8
        omega
      go_wp2_with fail
      go_ret3
      exact ⟨rfl, rfl⟩

set_option maxRecDepth 100000 in
set_option maxHeartbeats 1000000 in
theorem ahead8_no (q : Text) (at_ : Nat) (hat : at_ ≤ q.length) (h8 : q.length < at_ + 8) (hq : q.length < 140737488355328) (A : Option Addr) (c g : Nat) (why : Int) (w : World) (hb : Blk w g 121 #[.slice A q.length c, .int .i64 (at_ : Int), .int .i64 why]) :
    Calls Try.prog 85 #[.pointer (some ⟨g, 0, none⟩), .int .i64 (at_ : Int)] w fun e w' => e = .returned (.tuple #[.int .u64 0, .int .i64 (at_ : Int), .bool false]) ∧ w = w' := by
  have g0 : w.cell? ⟨g, 0, none⟩ = some (.slice A q.length c) := by rw [hb.cell 0]; rfl
  have x1 : (0 : Int) ≤ (at_ : Int) := by omega
  have x2 : (at_ : Int) ≤ (q.length : Int) := by omega
  have x3 : (q.length : Int) < 9223372036854775807 := by omega
  obtain ⟨n, hn⟩ : ∃ n, Hid (n = q.length) := ⟨_, rfl⟩
  rw [← hn.out] at g0 x2 x3 h8
  have y1 : decide ((n : Int) - (at_ : Int) < 8) = true := by simp; omega
  have y2 : decide ((n : Int) < 8 + (at_ : Int)) = true := by simp; omega
  have y3 : decide ((n : Int) < (at_ : Int) + 8) = true := by simp; omega
  clear hb hq hat h8
  go_enter Try.func85, Try.ntmps85
  go_wp2_with (go_at_call 78; refine (width8 _).mono ?_; rintro e w' ⟨rfl, rfl⟩)
  go_ret3
  exact ⟨rfl, rfl⟩

set_option maxRecDepth 100000 in
set_option maxHeartbeats 1000000 in
theorem ahead1_no (q : Text) (at_ : Nat) (hat : at_ ≤ q.length) (h8 : q.length < at_ + 1) (hq : q.length < 140737488355328) (A : Option Addr) (c g : Nat) (why : Int) (w : World) (hb : Blk w g 121 #[.slice A q.length c, .int .i64 (at_ : Int), .int .i64 why]) :
    Calls Try.prog 81 #[.pointer (some ⟨g, 0, none⟩), .int .i64 (at_ : Int)] w fun e w' => e = .returned (.tuple #[.int .u8 0, .int .i64 (at_ : Int), .bool false]) ∧ w = w' := by
  have g0 : w.cell? ⟨g, 0, none⟩ = some (.slice A q.length c) := by rw [hb.cell 0]; rfl
  have x1 : (0 : Int) ≤ (at_ : Int) := by omega
  have x2 : (at_ : Int) ≤ (q.length : Int) := by omega
  have x3 : (q.length : Int) < 9223372036854775807 := by omega
  obtain ⟨n, hn⟩ : ∃ n, Hid (n = q.length) := ⟨_, rfl⟩
  rw [← hn.out] at g0 x2 x3 h8
  have y1 : decide ((n : Int) - (at_ : Int) < 1) = true := by simp; omega
  have y2 : decide ((n : Int) < 1 + (at_ : Int)) = true := by simp; omega
  have y3 : decide ((n : Int) < (at_ : Int) + 1) = true := by simp; omega
  clear hb hq hat h8
  go_enter Try.func81, Try.ntmps81
  go_wp2_with (go_at_call 49; refine (width1 _).mono ?_; rintro e w' ⟨rfl, rfl⟩)
  go_ret3
  exact ⟨rfl, rfl⟩
end Go.Proofs.Ytmdkfhfkdcbpgaa.Reader

namespace Go.Proofs.Ytmdkfhfkdcbpgaa.Reader2
open Go Go.RowKit Go.Proofs.Ytmdkfhfkdcbpgaa Go.Proofs.Ytmdkfhfkdcbpgaa.Mem Go.Proofs.Ytmdkfhfkdcbpgaa.Sha Go.Proofs.Ytmdkfhfkdcbpgaa.Bytes Go.Proofs.Ytmdkfhfkdcbpgaa.Append Go.Proofs.Ytmdkfhfkdcbpgaa.Octet Go.Proofs.Ytmdkfhfkdcbpgaa.QuietTail Go.Proofs.Ytmdkfhfkdcbpgaa.Grown Go.Proofs.Ytmdkfhfkdcbpgaa.Reader

section
variable {w : World} {g c at_ : Nat} {q : Text} {A : Option Addr}
theorem Rd.reads_set (hr : Reads w 1 A q.length (cells8 q)) (hA : 0 < q.length → ∀ a, A = some a → a.block ≠ g) (i : Nat) (u : Value) : Reads (w.setCell ⟨g, i, none⟩ u) 1 A q.length (cells8 q) :=
  hr.kept0 ((Kept.refl (· = g) w).setCell (.inl rfl) u) (fun hp b o e h => hA (by omega) _ e h)
theorem Rd.adv {k : Nat} (hb : Blk w g 121 #[.slice A q.length c, .int .i64 (at_ : Int), .int .i64 0]) (hr : Reads w 1 A q.length (cells8 q)) (hnil : A = none → q.length = 0 ∧ c = 0) (hA : 0 < q.length → ∀ a, A = some a → a.block ≠ g) (hc : q.length ≤ c) (h8 : at_ + k ≤ q.length) :
    Rd (w.setCell ⟨g, 1, none⟩ (.int .i64 ((at_ : Int) + (k : Int)))) g q A c (at_ + k) ∧ Kept (· = g) w (w.setCell ⟨g, 1, none⟩ (.int .i64 ((at_ : Int) + (k : Int)))) :=
  ⟨⟨at_ + k, 0, by have := hb.set_ 1 (.int .i64 ((at_ : Int) + (k : Int))); simpa using this, Rd.reads_set hr hA _ _, hnil, hA, hc, h8, fun _ => ⟨rfl, rfl⟩, fun h => absurd h (by omega)⟩, (Kept.refl (· = g) w).setCell (p := ⟨g, 1, none⟩) (.inl rfl) _⟩
theorem Rd.fail {need : Nat} (hb : Blk w g 121 #[.slice A q.length c, .int .i64 (at_ : Int), .int .i64 0]) (hr : Reads w 1 A q.length (cells8 q)) (hnil : A = none → q.length = 0 ∧ c = 0) (hA : 0 < q.length → ∀ a, A = some a → a.block ≠ g) (hc : q.length ≤ c) (hat : at_ ≤ q.length) (hn : q.length < need) :
    Rd (w.setCell ⟨g, 2, none⟩ (.int .i64 8)) g q A c need ∧ Kept (· = g) w (w.setCell ⟨g, 2, none⟩ (.int .i64 8)) :=
  ⟨⟨at_, 8, by have := hb.set_ 2 (.int .i64 8); simpa using this, Rd.reads_set hr hA _ _, hnil, hA, hc, hat, fun h => absurd h (by omega), fun _ => rfl⟩, (Kept.refl (· = g) w).setCell (p := ⟨g, 2, none⟩) (.inl rfl) _⟩
theorem Rd.stay {need : Nat} (hb : Blk w g 121 #[.slice A q.length c, .int .i64 (at_ : Int), .int .i64 8]) (hr : Reads w 1 A q.length (cells8 q)) (hnil : A = none → q.length = 0 ∧ c = 0) (hA : 0 < q.length → ∀ a, A = some a → a.block ≠ g) (hc : q.length ≤ c) (hat : at_ ≤ q.length) (hn : q.length < need) : Rd w g q A c need :=
  ⟨at_, 8, hb, hr, hnil, hA, hc, hat, fun h => absurd h (by omega), fun _ => rfl⟩
end
/-- What a reader refuses, when so much was asked for; and whether bytes are left. -/
def whyOf (need len : Nat) : Int := if need ≤ len then 0 else 8
def doneOf (need len : Nat) : Int := if need = len then 0 else 8
theorem num_lt8 (l : Text) (h : l.length ≤ 8) : num l < 18446744073709551616 := Nat.lt_of_lt_of_le (num_lt _ l rfl) (Nat.le_trans (Nat.pow_le_pow_right (by decide) h) (by decide))

set_option maxRecDepth 100000 in
theorem refuse_first (g : Nat) (s : Value) (at_ : Int) (w : World) (hb : Blk w g 121 #[s, .int .i64 at_, .int .i64 0]) :
    Calls Try.prog 80 #[.pointer (some ⟨g, 0, none⟩), .int .i64 8] w fun e w' => e = .returned (.tuple #[]) ∧ w.setCell ⟨g, 2, none⟩ (.int .i64 8) = w' := by
  have g2 : w.cell? ⟨g, 2, none⟩ = some (.int .i64 0) := by rw [hb.cell 2]; rfl
  have gf := hb.frozen 2
  clear hb
  go_enter Try.func80, Try.ntmps80
  go_wp2_with fail
  go_end0
  exact ⟨rfl, rfl⟩

set_option maxRecDepth 100000 in
set_option maxHeartbeats 1000000 in
theorem take8_any (q : Text) (hq : q.length < 140737488355328) (g need : Nat) (A : Option Addr) (c : Nat) (w : World) (h : Rd w g q A c need) :
    Calls Try.prog 82 #[.pointer (some ⟨g, 0, none⟩)] w fun e w' => ∃ N : Nat, e = .returned (.int .u64 (N : Int)) ∧ N < 18446744073709551616 ∧ (need + 8 ≤ q.length → N = num ((q.drop need).take 8)) ∧ Rd w' g q A c (need + 8) ∧ Kept (· = g) w w' := by
  obtain ⟨at_, why, hb, hr, hnil, hA, hc, hat, hyes, hno⟩ := h
  have g1 : w.cell? ⟨g, 1, none⟩ = some (.int .i64 (at_ : Int)) := by rw [hb.cell 1]; rfl
  have g2 : w.cell? ⟨g, 2, none⟩ = some (.int .i64 why) := by rw [hb.cell 2]; rfl
  have gf := hb.frozen 1
  by_cases hn : need ≤ q.length
  · obtain ⟨rfl, rfl⟩ := hyes hn
    by_cases h8 : at_ + 8 ≤ q.length
    · have H := Lib.hid (ahead8_yes q at_ h8 hq A c g 0 w hb hr hc)
      have hF := Lib.hid (Rd.adv hb hr hnil hA hc h8)
      clear hb hyes hno
      go_enter Try.func82, Try.ntmps82
      go_wp2_with (go_at_call 85; refine Calls.mono H.out ?_; rintro e w' ⟨rfl, rfl⟩)
      go_ret
      exact ⟨_, rfl, num_lt8 _ (by rw [List.length_take, List.length_drop]; omega), fun _ => rfl, hF.out.1, hF.out.2⟩
    · have H := Lib.hid (ahead8_no q at_ hn (by omega) hq A c g 0 w hb)
      have R := Lib.hid (refuse_first g _ _ w hb)
      have hF := Lib.hid (Rd.fail hb hr hnil hA hc hn (show q.length < at_ + 8 by omega))
      clear hb hyes hno
      go_enter Try.func82, Try.ntmps82
      go_wp2_with (first | (go_at_call 85; refine Calls.mono H.out ?_; rintro e w' ⟨rfl, rfl⟩) | (go_at_call 80; refine Calls.mono R.out ?_; rintro e w' ⟨rfl, rfl⟩))
      go_ret
      exact ⟨0, rfl, by decide, fun h => absurd h (by omega), hF.out.1, hF.out.2⟩
  · obtain rfl := hno (by omega)
    have hF := Lib.hid (Rd.stay hb hr hnil hA hc hat (show q.length < need + 8 by omega))
    clear hb hyes hno
    go_enter Try.func82, Try.ntmps82
    go_wp2_with fail
    go_ret
    exact ⟨0, rfl, by decide, fun h => absurd h (by omega), hF.out, Kept.refl _ w⟩

set_option maxRecDepth 100000 in
set_option maxHeartbeats 1000000 in
theorem take1_any (q : Text) (hq : q.length < 140737488355328) (g need : Nat) (A : Option Addr) (c : Nat) (w : World) (h : Rd w g q A c need) :
    Calls Try.prog 54 #[.pointer (some ⟨g, 0, none⟩)] w fun e w' => ∃ y : BitVec 8, e = .returned (.int .u8 (b8 y)) ∧ (need + 1 ≤ q.length → y = q.getD need 0) ∧ Rd w' g q A c (need + 1) ∧ Kept (· = g) w w' := by
  obtain ⟨at_, why, hb, hr, hnil, hA, hc, hat, hyes, hno⟩ := h
  have g1 : w.cell? ⟨g, 1, none⟩ = some (.int .i64 (at_ : Int)) := by rw [hb.cell 1]; rfl
  have g2 : w.cell? ⟨g, 2, none⟩ = some (.int .i64 why) := by rw [hb.cell 2]; rfl
  have gf := hb.frozen 1
  by_cases hn : need ≤ q.length
  · obtain ⟨rfl, rfl⟩ := hyes hn
    by_cases h8 : at_ + 1 ≤ q.length
    · have H := Lib.hid (ahead1_yes q at_ h8 hq A c g 0 w hb hr hc)
      have hF := Lib.hid (Rd.adv hb hr hnil hA hc h8)
      clear hb hyes hno
      go_enter Try.func54, Try.ntmps54
      go_wp2_with (go_at_call 81; refine Calls.mono H.out ?_; rintro e w' ⟨rfl, rfl⟩)
      go_ret
      exact ⟨_, rfl, fun _ => rfl, hF.out.1, hF.out.2⟩
    · have H := Lib.hid (ahead1_no q at_ hn (by omega) hq A c g 0 w hb)
      have R := Lib.hid (refuse_first g _ _ w hb)
      have hF := Lib.hid (Rd.fail hb hr hnil hA hc hn (show q.length < at_ + 1 by omega))
      clear hb hyes hno
      go_enter Try.func54, Try.ntmps54
      go_wp2_with (first | (go_at_call 81; refine Calls.mono H.out ?_; rintro e w' ⟨rfl, rfl⟩) | (go_at_call 80; refine Calls.mono R.out ?_; rintro e w' ⟨rfl, rfl⟩))
      go_ret
      exact ⟨0, rfl, fun h => absurd h (by omega), hF.out.1, hF.out.2⟩
  · obtain rfl := hno (by omega)
    have hF := Lib.hid (Rd.stay hb hr hnil hA hc hat (show q.length < need + 1 by omega))
    clear hb hyes hno
    go_enter Try.func54, Try.ntmps54
    go_wp2_with fail
    go_ret
    exact ⟨0, rfl, fun h => absurd h (by omega), hF.out, Kept.refl _ w⟩

set_option maxRecDepth 100000 in
theorem why_any (q : Text) (g need : Nat) (A : Option Addr) (c : Nat) (w : World) (h : Rd w g q A c need) :
    Calls Try.prog 73 #[.pointer (some ⟨g, 0, none⟩)] w fun e w' => e = .returned (.int .i64 (whyOf need q.length)) ∧ w = w' := by
  obtain ⟨at_, why, hb, hr, hnil, hA, hc, hat, hyes, hno⟩ := h
  have g2 : w.cell? ⟨g, 2, none⟩ = some (.int .i64 why) := by rw [hb.cell 2]; rfl
  have hw : Hid (why = whyOf need q.length) := by
    show _ = _
    unfold whyOf
    by_cases hn : need ≤ q.length
    · rw [if_pos hn]; exact (hyes hn).2
    · rw [if_neg hn]; exact hno (by omega)
  clear hb hr hyes hno
  go_enter Try.func73, Try.ntmps73
  go_wp2_with fail
  go_ret
  exact ⟨by rw [← hw.out]; rfl, rfl⟩

set_option maxRecDepth 100000 in
theorem left_any (q : Text) (hq : q.length < 140737488355328) (g : Nat) (A : Option Addr) (c at_ : Nat) (why : Int) (w : World) (hb : Blk w g 121 #[.slice A q.length c, .int .i64 (at_ : Int), .int .i64 why]) (hat : at_ ≤ q.length) :
    Calls Try.prog 83 #[.pointer (some ⟨g, 0, none⟩)] w fun e w' => e = .returned (.int .i64 ((q.length : Int) - (at_ : Int))) ∧ ∃ n, w' = w.drewN n := by
  have g0 : w.cell? ⟨g, 0, none⟩ = some (.slice A q.length c) := by rw [hb.cell 0]; rfl
  have g1 : w.cell? ⟨g, 1, none⟩ = some (.int .i64 (at_ : Int)) := by rw [hb.cell 1]; rfl
  have x1 : IntKind.i64.wrap ((q.length : Int) - (at_ : Int)) = (q.length : Int) - (at_ : Int) := IntWalk.i64_in _ (by omega)
  generalize q.length = n at *
  clear hb hq hat
  go_enter Try.func83, Try.ntmps83
  go_wp2_with fail
  go_quiet (fail)
  go_wp2_with fail
  go_ret
  exact ⟨rfl, _, rfl⟩

set_option maxRecDepth 100000 in
theorem done_any (q : Text) (hq : q.length < 140737488355328) (g need : Nat) (A : Option Addr) (c : Nat) (w : World) (h : Rd w g q A c need) :
    Calls Try.prog 59 #[.pointer (some ⟨g, 0, none⟩)] w fun e w' => e = .returned (.int .i64 (doneOf need q.length)) ∧ ∃ n, w' = w.drewN n := by
  obtain ⟨at_, why, hb, hr, hnil, hA, hc, hat, hyes, hno⟩ := h
  have g2 : w.cell? ⟨g, 2, none⟩ = some (.int .i64 why) := by rw [hb.cell 2]; rfl
  by_cases hn : need ≤ q.length
  · obtain ⟨rfl, rfl⟩ := hyes hn
    have L := Lib.hid (left_any q hq g A c at_ 0 w hb hat)
    clear hb hr hyes hno
    by_cases he : at_ = q.length
    · have y1 : decide ((0 : Int) < (q.length : Int) - (at_ : Int)) = false := by simp; omega
      have y2 : decide ((at_ : Int) < (q.length : Int)) = false := by simp; omega
      have y3 : decide (at_ < q.length) = false := by simp; omega
      have hk : Hid (doneOf at_ q.length = 0) := if_pos he
      clear he hat hn
      go_enter Try.func59, Try.ntmps59
      go_wp2_with (go_at_call 83; refine Calls.mono L.out ?_; rintro e w' ⟨rfl, n, rfl⟩)
      go_ret
      exact ⟨by rw [hk.out]; rfl, n, rfl⟩
    · have y1 : decide ((0 : Int) < (q.length : Int) - (at_ : Int)) = true := by simp; omega
      have y2 : decide ((at_ : Int) < (q.length : Int)) = true := by simp; omega
      have y3 : decide (at_ < q.length) = true := by simp; omega
      have hk : Hid (doneOf at_ q.length = 8) := if_neg he
      clear he hat hn
      go_enter Try.func59, Try.ntmps59
      go_wp2_with (go_at_call 83; refine Calls.mono L.out ?_; rintro e w' ⟨rfl, n, rfl⟩)
      go_ret
      exact ⟨by rw [hk.out]; rfl, n, rfl⟩
  · obtain rfl := hno (by omega)
    have hk : Hid (doneOf need q.length = 8) := if_neg (by omega)
    clear hb hr hyes hno hn
    go_enter Try.func59, Try.ntmps59
    go_wp2_with fail
    go_ret
    exact ⟨by rw [hk.out]; rfl, 0, rfl⟩
end Go.Proofs.Ytmdkfhfkdcbpgaa.Reader2

namespace Go.Proofs.Ytmdkfhfkdcbpgaa.Reader3
open Go Go.RowKit Go.Proofs.Ytmdkfhfkdcbpgaa Go.Proofs.Ytmdkfhfkdcbpgaa.Mem Go.Proofs.Ytmdkfhfkdcbpgaa.Sha Go.Proofs.Ytmdkfhfkdcbpgaa.Bytes Go.Proofs.Ytmdkfhfkdcbpgaa.Append Go.Proofs.Ytmdkfhfkdcbpgaa.Octet Go.Proofs.Ytmdkfhfkdcbpgaa.QuietTail Go.Proofs.Ytmdkfhfkdcbpgaa.Grown Go.Proofs.Ytmdkfhfkdcbpgaa.Reader Go.Proofs.Ytmdkfhfkdcbpgaa.Reader2

/-- What Raw hands out: bytes in memory of their own. -/
def Out (w w' : World) (A : Option Addr) (c : Nat) (p : Text) : Prop :=
  Reads w' 1 A p.length (cells8 p) ∧ (A = none → p.length = 0 ∧ c = 0) ∧ p.length ≤ c ∧ ∀ a, A = some a → w.heap.size ≤ a.block

theorem Reads.mid {w : World} {A : Option Addr} {c at_ n : Nat} {q : Text} (h : Reads w 1 A q.length (cells8 q)) (hn : at_ + n ≤ q.length) (hc : q.length ≤ c) : Reads w 1 (cutA A at_ c) n (cells8 ((q.drop at_).take n)) := by
  have h1 := Reads.cut h at_ (by omega) hc
  have e : (cells8 q).drop at_ = cells8 (q.drop at_) := by simp [cells8]
  rw [e] at h1
  have h2 : Reads w 1 (cutA A at_ c) (q.drop at_).length (cells8 (q.drop at_)) := by rw [List.length_drop]; exact h1
  exact Reads.front h2 n (by rw [List.length_drop]; omega)
theorem cutA_none {A : Option Addr} {at_ c : Nat} (h : cutA A at_ c = none) : A = none := by
  unfold cutA at h
  split at h
  · exact h
  · cases A with
    | none => rfl
    | some a => simp at h

set_option maxRecDepth 100000 in
set_option maxHeartbeats 1000000 in
theorem raw_any (q : Text) (hq : q.length < 140737488355328) (g need n : Nat) (hn63 : n < 140737488355328) (A : Option Addr) (c : Nat) (w : World) (h : Rd w g q A c need) :
    Calls Try.prog 53 #[.pointer (some ⟨g, 0, none⟩), .int .i64 (n : Int)] w fun e w' => ∃ A' c' p, e = .returned (.slice A' p.length c') ∧ (need + n ≤ q.length → p = (q.drop need).take n) ∧ (q.length < need + n → p = []) ∧ Out w w' A' c' p ∧ Rd w' g q A c (need + n) ∧ Kept (· = g) w w' := by
  obtain ⟨i0, hi, hz0, hz1, hz2⟩ := info_parts8 info8
  obtain ⟨at_, why, hb, hr, hnil, hA, hc, hat, hyes, hno⟩ := h
  have g0 : w.cell? ⟨g, 0, none⟩ = some (.slice A q.length c) := by rw [hb.cell 0]; rfl
  have g1 : w.cell? ⟨g, 1, none⟩ = some (.int .i64 (at_ : Int)) := by rw [hb.cell 1]; rfl
  have g2 : w.cell? ⟨g, 2, none⟩ = some (.int .i64 why) := by rw [hb.cell 2]; rfl
  have gf := hb.frozen 1
  have x0 : (0 : Int) ≤ (n : Int) := by omega
  have x1 : decide ((n : Int) < 0) = false := by simp
  have x2 : IntKind.i64.wrap ((q.length : Int) - (at_ : Int)) = (q.length : Int) - (at_ : Int) := IntWalk.i64_in _ (by omega)
  by_cases hn : need ≤ q.length
  · obtain ⟨rfl, rfl⟩ := hyes hn
    by_cases h8 : at_ + n ≤ q.length
    · have x3 : decide ((q.length : Int) - (at_ : Int) < (n : Int)) = false := by simp; omega
      have x5 : (at_ : Int) + (n : Int) ≤ 140737488355328 := by omega
      have x6 : IntKind.i64.wrap ((at_ : Int) + (n : Int) - (n : Int)) = (at_ : Int) := by rw [show (at_ : Int) + (n : Int) - (n : Int) = (at_ : Int) by omega]; exact IntWalk.i64_in _ (by omega)
      have x7 : (0 : Int) ≤ (at_ : Int) := by omega
      have x8 : IntKind.i64.wrap (at_ : Int) = (at_ : Int) := IntWalk.i64_in _ (by omega)
      replace x5 := Lib.hid x5
      have y5 : IntKind.i64.wrap ((at_ : Int) + (n : Int)) = (at_ : Int) + (n : Int) := IntWalk.i64_in _ (by omega)
      have X : ∀ w', (Instr.sliceAt 29 (.slice A q.length c) (some (.int .i64 (at_ : Int))) (some (.int .i64 ((at_ : Int) + (n : Int)))) none).run Try.prog w' = .ok (.slice (cutA A at_ c) n (c - at_)) w' := fun w' => by
        rw [run_mid (l := at_) (h := at_ + n) Try.underlying29 (fun _ => rfl) (by omega) (by omega) _ _ rfl (by omega) w']
        congr 2
        omega
      have hpl : Hid (((q.drop at_).take n).length = n) := by show _ = _; rw [List.length_take, List.length_drop]; omega
      have hcn : Hid (cutA A at_ c = none → n = 0 ∧ c - at_ = 0) := fun e => by have := hnil (cutA_none e); omega
      have hc1 : Hid (0 + n ≤ maxLen) := by show _ ≤ _; unfold maxLen; omega
      have hc2 : Hid ((0 + n) * 1 ≤ 140737488355328) := by show _ ≤ _; omega
      have hk := fun (w' : World) (hb : Blk w' g 121 #[.slice A q.length c, .int .i64 (at_ : Int), .int .i64 0]) (hr : Reads w' 1 A q.length (cells8 q)) => Rd.adv hb hr hnil hA hc h8
      have hm := fun (w' : World) (hr : Reads w' 1 A q.length (cells8 q)) => Reads.mid (Rd.reads_set hr hA 1 (.int .i64 ((at_ : Int) + (n : Int)))) h8 hc
      replace hk := Lib.hid hk
      replace hm := Lib.hid hm
      replace hb := Lib.hid hb
      replace hr := Lib.hid hr
      clear hyes hno
      go_enter Try.func53, Try.ntmps53
      go_wp2_with fail
      go_quiet (fail)
      have hK0 : Hid (Kept (· = g) w (w.drewN nq)) := (Kept.refl _ w).drewN nq
      have hb' : Hid (Blk (w.drewN nq) g 121 #[.slice A q.length c, .int .i64 (at_ : Int), .int .i64 0]) := hb.out
      have hr' : Hid (Reads (w.drewN nq) 1 A q.length (cells8 q)) := hr.out
      generalize w.drewN nq = w2 at *
      clear g0 g1 g2 gf
      have g1 : w2.cell? ⟨g, 1, none⟩ = some (.int .i64 (at_ : Int)) := by rw [Blk.cell hb'.out 1]; rfl
      have gf := Blk.frozen hb'.out 1
      have hF := Lib.hid (hk.out w2 hb'.out hr'.out)
      have hR : Hid (Reads (w2.setCell ⟨g, 1, none⟩ (.int .i64 ((at_ : Int) + (n : Int)))) 1 (cutA A at_ c) n (cells8 ((q.drop at_).take n))) := hm.out w2 hr'.out
      have hB2 : Hid (Blk (w2.setCell ⟨g, 1, none⟩ (.int .i64 ((at_ : Int) + (n : Int)))) g 121 #[.slice A q.length c, .int .i64 ((at_ : Int) + (n : Int)), .int .i64 0]) := by show Blk _ _ _ _; have := Blk.set_ hb'.out 1 (.int .i64 ((at_ : Int) + (n : Int))); simpa using this
      go_wp2_with fail
      clear g1 gf
      generalize w2.setCell ⟨g, 1, none⟩ (.int .i64 ((at_ : Int) + (n : Int))) = w3 at *
      have k0 : w3.cell? ⟨g, 0, none⟩ = some (.slice A q.length c) := by rw [Blk.cell hB2.out 0]; rfl
      have k1 : w3.cell? ⟨g, 1, none⟩ = some (.int .i64 ((at_ : Int) + (n : Int))) := by rw [Blk.cell hB2.out 1]; rfl
      refine wp_region_quiet_tail 15 (by kernel_rfl) (by kernel_rfl) ?_
      repeat (quiet_step (fail))
      refine wpQuiet_nil ?_
      intro _ hw'
      obtain ⟨nr, hw''⟩ := hw'
      subst hw''
      simp only [List.drop]
      have hs3 : Hid (w.heap.size ≤ (w3.drewN nr).heap.size) := Nat.le_trans hK0.out.size hF.out.2.size
      go_wp2_with (at_builtin; refine wpList_append_src (w3.drewN nr) rfl (.const (.slice none 0 0)) (.tmp 50) 29 rfl w.heap.size 5 i0 (.int .u8 0) 1 1 Try.underlying29 hi hz0 hz1 hz2 rfl (by decide) (.slice none 0 0) 0 [] rfl (World.ownsRow_nil _ _ _ _) (cutA A at_ c) n (c - at_) (cells8 ((q.drop at_).take n)) rfl (hR.out.drewN nr) hcn.out (cells8_one _) hc1.out hc2.out hs3.out ?_; intro v1 W hG; have hO := hG.own; rw [Nat.zero_add, List.nil_append] at hO; obtain ⟨A1, c1, rfl, hn1, _, hnil1, hr1, hat1⟩ := Own.reads hO; have hbW : Hid (Below w3.heap.size w3 W) := (below_drawn (Below.refl _ w3) nr).grown hG.grow (Nat.le_refl _) (fun k e => by cases e); clear hG hO; replace hr1 := Lib.hid hr1; replace hnil1 := Lib.hid hnil1; replace hn1 := Lib.hid hn1; replace hat1 := Lib.hid hat1)
      go_ret
      refine ⟨A1, c1, (q.drop at_).take n, by rw [hpl.out]; rfl, fun _ => rfl, fun h => absurd h (by omega), ⟨by rw [hpl.out]; exact hr1.out, by rw [hpl.out]; exact hnil1.out, by rw [hpl.out]; exact hn1.out, fun a e => (hat1.out a e).1⟩, hF.out.1.below hbW.out, ?_⟩
      exact (hK0.out.trans hF.out.2 (fun _ _ h => h)).trans (Kept.of_below (S := (· = g)) hbW.out) (fun _ _ h => h)
    · have x3 : decide ((q.length : Int) - (at_ : Int) < (n : Int)) = true := by simp; omega
      have hk := fun (w' : World) (hb : Blk w' g 121 #[.slice A q.length c, .int .i64 (at_ : Int), .int .i64 0]) (hr : Reads w' 1 A q.length (cells8 q)) => Rd.fail hb hr hnil hA hc hat (show q.length < at_ + n by omega)
      replace hk := Lib.hid hk
      replace hb := Lib.hid hb
      replace hr := Lib.hid hr
      clear hyes hno
      go_enter Try.func53, Try.ntmps53
      go_wp2_with fail
      go_quiet (fail)
      have hK0 : Hid (Kept (· = g) w (w.drewN nq)) := (Kept.refl _ w).drewN nq
      have hb' : Hid (Blk (w.drewN nq) g 121 #[.slice A q.length c, .int .i64 (at_ : Int), .int .i64 0]) := hb.out
      have hr' : Hid (Reads (w.drewN nq) 1 A q.length (cells8 q)) := hr.out
      generalize w.drewN nq = w2 at *
      have R := Lib.hid (refuse_first g _ _ w2 hb'.out)
      have hF := Lib.hid (hk.out w2 hb'.out hr'.out)
      clear g0 g1 g2 gf
      go_wp2_with (go_at_call 80; refine Calls.mono R.out ?_; rintro e w' ⟨rfl, rfl⟩)
      go_ret
      exact ⟨none, 0, [], rfl, fun h => absurd h (by omega), fun _ => rfl, ⟨Reads.nil_ _ _ _, fun _ => ⟨rfl, rfl⟩, Nat.le_refl _, fun _ e => by cases e⟩, hF.out.1, hK0.out.trans hF.out.2 (fun _ _ h => h)⟩
  · obtain rfl := hno (by omega)
    have hF := Lib.hid (Rd.stay hb hr hnil hA hc hat (show q.length < need + n by omega))
    clear hb hyes hno
    go_enter Try.func53, Try.ntmps53
    go_wp2_with fail
    go_ret
    exact ⟨none, 0, [], rfl, fun h => absurd h (by omega), fun _ => rfl, ⟨Reads.nil_ _ _ _, fun _ => ⟨rfl, rfl⟩, Nat.le_refl _, fun _ e => by cases e⟩, hF.out, Kept.refl _ w⟩

theorem _root_.Go.Proofs.Ytmdkfhfkdcbpgaa.Reader.Rd.keptOff {S : Nat → Prop} {w w' : World} {g need c : Nat} {q : Text} {A : Option Addr} (h : Rd w g q A c need) (hk : Kept S w w') (hg : ¬ S g) (hS : 0 < q.length → ∀ a, A = some a → ¬ S a.block) : Rd w' g q A c need := by
  obtain ⟨at_, why, hb, hr, h1⟩ := h
  exact ⟨at_, why, hb.kept hk hg, hr.kept0 hk (fun hp b o e => hS (by omega) _ e), h1⟩
theorem _root_.Go.Proofs.Ytmdkfhfkdcbpgaa.Reader.Rd.old {w : World} {g need c : Nat} {q : Text} {A : Option Addr} (h : Rd w g q A c need) : 0 < q.length → ∀ a, A = some a → a.block < w.heap.size := by
  obtain ⟨_, _, _, hr, _⟩ := h
  intro hp a e
  obtain ⟨b, o, e', hlt, _⟩ := hr.2 (by omega)
  rw [e] at e'
  injection e' with e'
  subst e'
  exact hlt
/-- A digest out of what Raw handed out. -/
def digP (p : Text) : Text := p ++ List.replicate (32 - p.length) 0
theorem digP_len (p : Text) (h : p.length ≤ 32) : (digP p).length = 32 := by simp [digP]; omega
theorem digP_cells (p : Text) (h : p.length ≤ 32) : (splice Z32.toList 0 (cells8 p)).toArray = (cells8 (digP p)).toArray := by
  congr 1
  apply List.ext_getElem?
  intro i
  rw [splice_get _ _ _ (by rw [cells8_len]; simp [Z32]; omega), if_neg (by omega), cells8_len]
  by_cases h1 : i < 0 + p.length
  · rw [if_pos h1, Nat.sub_zero]
    simp only [cells8, digP, List.map_append]
    rw [List.getElem?_append_left (by simp; omega)]
  · rw [if_neg h1]
    simp only [cells8, digP, List.map_append, List.map_replicate]
    rw [List.getElem?_append_right (by simp; omega), List.length_map, List.getElem?_replicate]
    by_cases h2 : i < 32
    · rw [if_pos (by omega)]
      have e : Z32.toList = List.replicate 32 (Value.int IntKind.u8 0) := by rfl
      rw [e, List.getElem?_replicate, if_pos h2]
      rfl
    · rw [if_neg (by omega), List.getElem?_eq_none (by simp [Z32]; omega)]
theorem digP_take (q : Text) (need : Nat) (h : need + 32 ≤ q.length) : digP ((q.drop need).take 32) = (q.drop need).take 32 := by
  have hl : ((q.drop need).take 32).length = 32 := by rw [List.length_take, List.length_drop]; omega
  simp [digP, hl]

theorem dig_size (x : Text) (hx : x.length = 32) : (Try.prog.info? 23).map (·.size) = some (cells8 x).toArray.size := size31.trans (congrArg some (by simp [cells8_len, hx]))
theorem dig_one (x : Text) : (cells8 x).toArray.all (fun v => v.oneCell') = true := by rw [List.all_toArray]; exact List.all_eq_true.2 (cells8_one x)
set_option maxRecDepth 100000 in
set_option maxHeartbeats 1000000 in
theorem digest_any (q : Text) (hq : q.length < 140737488355328) (g need : Nat) (A : Option Addr) (c : Nat) (w : World) (h : Rd w g q A c need) :
    Calls Try.prog 57 #[.pointer (some ⟨g, 0, none⟩)] w fun e w' => ∃ d : Text, e = .returned (.agg (cells8 d).toArray) ∧ d.length = 32 ∧ (need + 32 ≤ q.length → d = (q.drop need).take 32) ∧ Rd w' g q A c (need + 32) ∧ Kept (· = g) w w' := by
  obtain ⟨w0, hw0⟩ : ∃ w0, Hid (w0 = (w.alloc (.cells Z32 23)).alloc (.cells Z32 23)) := ⟨_, rfl⟩
  have hD : Hid (Blk w0 w.heap.size 23 Z32) := by show Blk _ _ _ _; rw [hw0.out]; exact (Blk.new w _ _).alloc _
  have hE : Hid (Blk w0 (w.heap.size + 1) 23 Z32) := by
    have := Blk.new (w.alloc (.cells Z32 23)) 23 Z32
    have e : (w.alloc (.cells Z32 23)).heap.size = w.heap.size + 1 := by simp
    rw [e] at this
    show Blk _ _ _ _; rw [hw0.out]
    exact this
  have hR : Hid (Rd w0 g q A c need) := by show Rd _ _ _ _ _ _; rw [hw0.out]; exact (h.alloc _).alloc _
  have hlt := Lib.hid h.lt
  have hold := Lib.hid h.old
  have hK0 : Hid (Kept (· = g) w w0) := by show Kept _ _ _; rw [hw0.out]; exact ((Kept.refl _ w).alloc _).alloc _
  replace hq := Lib.hid hq
  clear h
  go_enter Try.func57, Try.ntmps57
  go_wp2_with fail
  have hp32 : ∀ p : Text, (need + 32 ≤ q.length → p = (q.drop need).take 32) → (q.length < need + 32 → p = []) → p.length ≤ 32 := fun p h1 h2 => by
    by_cases hh : need + 32 ≤ q.length
    · rw [h1 hh, List.length_take]; omega
    · rw [h2 (by omega)]; simp
  replace hp32 := Lib.hid hp32
  have hsz : Hid (w0.heap.size = w.heap.size + 2) := by show _ = _; rw [hw0.out]; simp
  have hww : (w.alloc (.cells Z32 23)).alloc (.cells Z32 23) = w0 := hw0.out.symm
  unfold Z32 at hww
  rw [hww]
  clear hww hw0
  have hraw : Hid (∀ w', Rd w' g q A c need → Calls Try.prog 53 #[.pointer (some ⟨g, 0, none⟩), .int .i64 32] w' fun e w'' => ∃ A' c' p, e = .returned (.slice A' p.length c') ∧ (need + 32 ≤ q.length → p = (q.drop need).take 32) ∧ (q.length < need + 32 → p = []) ∧ Out w' w'' A' c' p ∧ Rd w'' g q A c (need + 32) ∧ Kept (· = g) w' w'') := fun w' h => raw_any q hq.out g need 32 (by omega) A c w' h
  have hid2 : Hid (g ≠ w.heap.size + 1) := by have := hlt.out; show _ ≠ _; omega
  have hid1 : Hid (g ≠ w.heap.size) := by have := hlt.out; show _ ≠ _; omega
  go_region_law (first
    | (go_simp; go_at_call 53; go_loud (refine (hraw.out w0.drew (hR.out.drewN 1)).mono ?_; rintro e w3 ⟨Ap, cp, p, rfl, hp1, hp2, hO3, hR3, hk3⟩; have hp := Lib.hid (hp32.out p hp1 hp2); have hcl : Hid ((cells8 p).length = Nat.min p.length 32) := (by show _ = min _ _; rw [cells8_len]; have := hp.out; omega); have hfit : Hid (0 + (cells8 p).length ≤ Z32.size) := (by show _ ≤ _; rw [cells8_len]; simp [Z32]; exact hp.out); have hpos : Hid (0 < (cells8 p).length → some (⟨w.heap.size + 1, 0, none⟩ : Addr) = some ⟨w.heap.size + 1, 0, none⟩ ∧ ∃ ad, Ap = some ad ∧ ∀ j v, (cells8 p)[j]? = some v → w3.cell? (ad.add j) = some v) := (fun h0 => ⟨rfl, by obtain ⟨b, o, e, _, hc⟩ := hO3.1.2 (by rw [cells8_len] at h0; omega); exact ⟨_, e, fun j v hv => by rw [add_at]; exact hc j v hv⟩⟩); have hE3 := Lib.hid ((Blk.drewN hE.out 1).kept hk3 (fun e => hid2.out e.symm)); have hD3 := Lib.hid ((Blk.drewN hD.out 1).kept hk3 (fun e => hid1.out e.symm)); have hK3 := Lib.hid ((hK0.out.drewN 1).trans hk3 (fun _ _ h => h)); replace hR3 := Lib.hid hR3; replace hp1 := Lib.hid hp1; clear hp2 hO3 hk3))
    | (refine step_copy_into (P := Try.prog) (w := w3) (o := ⟨some 7, _, _, _, _, _⟩) rfl (.tmp 4) (.tmp 6) 29 29 rfl 5 Try.underlying29 size8 (some ⟨w.heap.size + 1, 0, none⟩) Ap 32 32 p.length cp ?hd ?hs (w.heap.size + 1) 0 Z32 23 hE3.out (cells8 p) hcl.out hpos.out hfit.out (cells8_one p) w3 (Kept.refl _ w3) p.length (cells8_len p) ?_; (case hd => go_simp); (case hs => go_simp); intro w5 hb5 hk5; replace hb5 := hb5.out; rw [digP_cells p hp.out] at hb5; have hD5 := Lib.hid (hD3.out.kept hk5 (by omega)); have hR5 := Lib.hid (hR3.out.keptOff hk5 hid2.out (fun h0 a ea e => by have := hold.out h0 a ea; omega)); replace hb5 := Lib.hid hb5; replace hk5 := Lib.hid hk5))
  have hz := Lib.hid (dig_size (digP p) (digP_len p hp.out))
  have hz32 : Hid ((Z32 : Array Value).size = (cells8 (digP p)).toArray.size) := by show _ = _; simp [cells8_len, digP_len p hp.out, Z32]
  have ho := Lib.hid (dig_one (digP p))
  have hKK : Hid (Kept (· = g) w w5) := by
    show Kept _ _ _
    exact hK3.out.trans hk5.out (fun i h1 h2 => by omega)
  go_wp2_with (first
    | ((with_reducible change wpList _ _ _ ({ dst := some 8, op := _, type := _, pos := _, after := _, guard := _ } :: _) _ _); refine wpList_load_row (o := ⟨some 8, _, _, _, _, _⟩) rfl 23 (.tmp 3) rfl (w.heap.size + 1) rfl 23 (cells8 (digP p)).toArray (0, 0) _ hb5.out Try.underlying23 rfl hz.out ?_)
    | ((with_reducible change wpList _ _ _ ({ dst := none, op := Op.store 23 _ _, type := _, pos := _, after := _, guard := _ } :: _) _ _); refine wpList_store_row (o := ⟨none, _, _, _, _, _⟩) rfl 23 (.tmp 2) (.tmp 8) rfl w.heap.size (cells8 (digP p)).toArray rfl rfl 23 Z32 hD5.out hz.out hz32.out ho.out ?_))
  refine bodyPost_ret (results_cell_row rfl _ _ w.heap.size 23 (cells8 (digP p)).toArray (0, 0) _ rfl (setRow_heap _ _ _ _ _ _ hD5.out) Try.underlying23 rfl hz.out) rfl ?_
  have hS : Kept (· = w.heap.size) w5 (w5.setRow w.heap.size (cells8 (digP p)).toArray) := Bytes.Kept.setRow (S := (· = w.heap.size)) (Kept.refl _ w5) rfl _
  exact ⟨digP p, rfl, digP_len p hp.out, fun h => by rw [hp1.out h]; exact digP_take q need h, hR5.out.keptOff hS hid1.out (fun h0 a ea e => by have := hold.out h0 a ea; omega), hKK.out.trans hS (fun i h1 h2 => by omega)⟩
end Go.Proofs.Ytmdkfhfkdcbpgaa.Reader3

namespace Go.Proofs.Ytmdkfhfkdcbpgaa.Flag
open Go Go.RowKit Go.Proofs.Ytmdkfhfkdcbpgaa Go.Proofs.Ytmdkfhfkdcbpgaa.Mem Go.Proofs.Ytmdkfhfkdcbpgaa.Sha Go.Proofs.Ytmdkfhfkdcbpgaa.Bytes Go.Proofs.Ytmdkfhfkdcbpgaa.Append Go.Proofs.Ytmdkfhfkdcbpgaa.Octet Go.Proofs.Ytmdkfhfkdcbpgaa.QuietTail Go.Proofs.Ytmdkfhfkdcbpgaa.Grown Go.Proofs.Ytmdkfhfkdcbpgaa.Reader Go.Proofs.Ytmdkfhfkdcbpgaa.Reader2

end Go.Proofs.Ytmdkfhfkdcbpgaa.Flag

namespace Go.Proofs.Ytmdkfhfkdcbpgaa.Reader7
open Go Go.RowKit Go.Proofs.Ytmdkfhfkdcbpgaa Go.Proofs.Ytmdkfhfkdcbpgaa.Mem Go.Proofs.Ytmdkfhfkdcbpgaa.Sha Go.Proofs.Ytmdkfhfkdcbpgaa.Bytes Go.Proofs.Ytmdkfhfkdcbpgaa.Append Go.Proofs.Ytmdkfhfkdcbpgaa.Octet Go.Proofs.Ytmdkfhfkdcbpgaa.QuietTail Go.Proofs.Ytmdkfhfkdcbpgaa.Grown Go.Proofs.Ytmdkfhfkdcbpgaa.Reader Go.Proofs.Ytmdkfhfkdcbpgaa.Reader2 Go.Proofs.Ytmdkfhfkdcbpgaa.Octet4

theorem u32_in (x : Int) (h0 : 0 ≤ x) (h1 : x < 4294967296) : IntKind.u32.wrap x = x := by
  simp [IntKind.wrap, IntKind.bits, IntKind.signed]
  omega
theorem num_lt4 (l : Text) (h : l.length ≤ 4) : num l < 4294967296 := Nat.lt_of_lt_of_le (num_lt _ l rfl) (Nat.le_trans (Nat.pow_le_pow_right (by decide) h) (by decide))

set_option maxRecDepth 100000 in
set_option maxHeartbeats 1000000 in
theorem ahead4_yes (q : Text) (at_ : Nat) (h8 : at_ + 4 ≤ q.length) (hq : q.length < 140737488355328) (A : Option Addr) (c g : Nat) (why : Int) (w : World) (hb : Blk w g 121 #[.slice A q.length c, .int .i64 (at_ : Int), .int .i64 why]) (hr : Reads w 1 A q.length (cells8 q)) (hc : q.length ≤ c) :
    Calls Try.prog 84 #[.pointer (some ⟨g, 0, none⟩), .int .i64 (at_ : Int)] w fun e w' => e = .returned (.tuple #[.int .u32 (num ((q.drop at_).take 4) : Int), .int .i64 ((at_ : Int) + 4), .bool true]) ∧ w = w' := by
  obtain ⟨b, o, rfl, hbl, hcell⟩ := Rd.at_ hr (k := 4) (by omega) h8
  have g0 : w.cell? ⟨g, 0, none⟩ = some (.slice (some ⟨b, o, none⟩) q.length c) := by rw [hb.cell 0]; rfl
  have x1 : (0 : Int) ≤ (at_ : Int) := by omega
  have x2 : (at_ : Int) + 4 ≤ (q.length : Int) := by omega
  have x3 : (q.length : Int) < 9223372036854775807 := by omega
  have X : ∀ w', (Instr.sliceAt 29 (.slice (some ⟨b, o, none⟩) q.length c) (some (.int .i64 (at_ : Int))) (some (.int .i64 ((at_ : Int) + 4))) none).run Try.prog w' = .ok (.slice (some ⟨b, o + at_, none⟩) 4 (c - at_)) w' := fun w' => by
    rw [run_mid (l := at_) (h := at_ + 4) Try.underlying29 (fun _ => rfl) (by omega) (by omega) _ _ rfl (by omega) w']
    simp only [cutA, if_neg (show ¬ c = at_ by omega), Option.map_some, add_at]
    congr 2
    omega
  have x4 : (4 : Int) ≤ (q.length : Int) - (at_ : Int) := by omega
  obtain ⟨n, hn⟩ : ∃ n, Hid (n = q.length) := ⟨_, rfl⟩
  rw [← hn.out] at g0 x2 x3 x4
  simp only [← hn.out] at X
  have y1 : decide ((n : Int) - (at_ : Int) < 4) = false := by simp; omega
  have y2 : decide ((n : Int) < 4 + (at_ : Int)) = false := by simp; omega
  have y3 : decide ((n : Int) < (at_ : Int) + 4) = false := by simp; omega
  replace hcell := Lib.hid hcell
  have hq4 := Lib.hid h8
  clear hb hr hc h8 hq hbl
  go_enter Try.func84, Try.ntmps84
  go_wp2_with (go_at_call 69; refine (width4 _).mono ?_; rintro e w' ⟨rfl, rfl⟩)
  clear X y1 y2 y3
  go_loop [8, 32] (fun v u => ∃ j N : Nat, u = .int .i64 (j : Int) ∧ v = .int .u64 (N : Int) ∧ Hid (j ≤ 4) ∧ Hid (N = num (((q.drop at_).take 4).take j))) (fun _ u => 4 - (intOf u).toNat)
  case atStart => exact ⟨0, 0, rfl, rfl, (show 0 ≤ 4 by omega), rfl⟩
  case round =>
    obtain ⟨j, N, rfl, rfl, hj, hNd⟩ := hrel
    by_cases hlt : j < 4
    · have z1 : (j : Int) < 4 := by omega
      have z2 : (0 : Int) ≤ (j : Int) := by omega
      have hNl : N < 16777216 := by
        rw [hNd.out]
        have h1 := num_lt (((q.drop at_).take 4).take j).length _ rfl
        have h2 : (((q.drop at_).take 4).take j).length ≤ 3 := by rw [List.length_take]; omega
        exact Nat.lt_of_lt_of_le h1 (Nat.le_trans (Nat.pow_le_pow_right (by decide) h2) (by decide))
      have hcj := hcell.out j hlt
      obtain ⟨y, hy⟩ : ∃ y, Hid (y = q.getD (at_ + j) 0) := ⟨_, rfl⟩
      rw [← hy.out] at hcj
      have hst : Hid (N * 256 + y.toNat = num (((q.drop at_).take 4).take (j + 1))) := by
        show _ = _
        rw [take_num q at_ 4 j hlt hq4.out, ← hNd.out, hy.out]
      have f0 := b8_nonneg y
      have f1 := b8_lt y
      have f2 : IntKind.u64.wrap (b8 y) = b8 y := u64_in _ f0 (by omega)
      have f3 : IntKind.u64.wrap ((N : Int) * 256) = (N : Int) * 256 := u64_in _ (by omega) (by omega)
      have f4 : (N : Int) * 256 % 18446744073709551616 = (N : Int) * 256 := by omega
      have f5 := or_num N y (by omega)
      obtain ⟨M, hM⟩ : ∃ M, Hid (M = N * 256 + y.toNat) := ⟨_, rfl⟩
      rw [← hM.out] at f5 hst
      replace hNl := Lib.hid hNl
      go_wp2_with fail
      go_round
      case rel => exact ⟨j + 1, M, by go_num, rfl, (show j + 1 ≤ 4 by omega), hst.out⟩
      case measure => simp [intOf]; omega
    · obtain rfl : j = 4 := by have := hj.out; omega
      have fN : IntKind.u32.wrap (N : Int) = (N : Int) := by
        have h2 : N < 4294967296 := by
          rw [hNd.out]
          exact Nat.lt_of_lt_of_le (num_lt (((q.drop at_).take 4).take 4).length _ rfl) (Nat.le_trans (Nat.pow_le_pow_right (by decide) (show (((q.drop at_).take 4).take 4).length ≤ 4 by rw [List.length_take]; omega)) (by decide))
        exact u32_in _ (by omega) (by omega)
      have hT : Hid (((q.drop at_).take 4).take 4 = (q.drop at_).take 4) := by show _ = _; rw [List.take_take]; rfl
      go_wp2_with fail
      go_ret3
      rw [hT.out] at hNd
      obtain rfl := hNd.out
      exact ⟨rfl, rfl⟩

set_option maxRecDepth 100000 in
set_option maxHeartbeats 1000000 in
theorem ahead4_no (q : Text) (at_ : Nat) (hat : at_ ≤ q.length) (h8 : q.length < at_ + 4) (hq : q.length < 140737488355328) (A : Option Addr) (c g : Nat) (why : Int) (w : World) (hb : Blk w g 121 #[.slice A q.length c, .int .i64 (at_ : Int), .int .i64 why]) :
    Calls Try.prog 84 #[.pointer (some ⟨g, 0, none⟩), .int .i64 (at_ : Int)] w fun e w' => e = .returned (.tuple #[.int .u32 0, .int .i64 (at_ : Int), .bool false]) ∧ w = w' := by
  have g0 : w.cell? ⟨g, 0, none⟩ = some (.slice A q.length c) := by rw [hb.cell 0]; rfl
  have x1 : (0 : Int) ≤ (at_ : Int) := by omega
  have x2 : (at_ : Int) ≤ (q.length : Int) := by omega
  have x3 : (q.length : Int) < 9223372036854775807 := by omega
  obtain ⟨n, hn⟩ : ∃ n, Hid (n = q.length) := ⟨_, rfl⟩
  rw [← hn.out] at g0 x2 x3 h8
  have y1 : decide ((n : Int) - (at_ : Int) < 4) = true := by simp; omega
  have y2 : decide ((n : Int) < 4 + (at_ : Int)) = true := by simp; omega
  have y3 : decide ((n : Int) < (at_ : Int) + 4) = true := by simp; omega
  clear hb hq hat h8
  go_enter Try.func84, Try.ntmps84
  go_wp2_with (go_at_call 69; refine (width4 _).mono ?_; rintro e w' ⟨rfl, rfl⟩)
  go_ret3
  exact ⟨rfl, rfl⟩

set_option maxRecDepth 100000 in
set_option maxHeartbeats 1000000 in
theorem take4_any (q : Text) (hq : q.length < 140737488355328) (g need : Nat) (A : Option Addr) (c : Nat) (w : World) (h : Rd w g q A c need) :
    Calls Try.prog 72 #[.pointer (some ⟨g, 0, none⟩)] w fun e w' => ∃ N : Nat, e = .returned (.int .u32 (N : Int)) ∧ N < 4294967296 ∧ (need + 4 ≤ q.length → N = num ((q.drop need).take 4)) ∧ Rd w' g q A c (need + 4) ∧ Kept (· = g) w w' := by
  obtain ⟨at_, why, hb, hr, hnil, hA, hc, hat, hyes, hno⟩ := h
  have g1 : w.cell? ⟨g, 1, none⟩ = some (.int .i64 (at_ : Int)) := by rw [hb.cell 1]; rfl
  have g2 : w.cell? ⟨g, 2, none⟩ = some (.int .i64 why) := by rw [hb.cell 2]; rfl
  have gf := hb.frozen 1
  by_cases hn : need ≤ q.length
  · obtain ⟨rfl, rfl⟩ := hyes hn
    by_cases h8 : at_ + 4 ≤ q.length
    · have H := Lib.hid (ahead4_yes q at_ h8 hq A c g 0 w hb hr hc)
      have hF := Lib.hid (Rd.adv hb hr hnil hA hc h8)
      clear hb hyes hno
      go_enter Try.func72, Try.ntmps72
      go_wp2_with (go_at_call 84; refine Calls.mono H.out ?_; rintro e w' ⟨rfl, rfl⟩)
      go_ret
      exact ⟨_, rfl, num_lt4 _ (by rw [List.length_take, List.length_drop]; omega), fun _ => rfl, hF.out.1, hF.out.2⟩
    · have H := Lib.hid (ahead4_no q at_ hn (by omega) hq A c g 0 w hb)
      have R := Lib.hid (refuse_first g _ _ w hb)
      have hF := Lib.hid (Rd.fail hb hr hnil hA hc hn (show q.length < at_ + 4 by omega))
      clear hb hyes hno
      go_enter Try.func72, Try.ntmps72
      go_wp2_with (first | (go_at_call 84; refine Calls.mono H.out ?_; rintro e w' ⟨rfl, rfl⟩) | (go_at_call 80; refine Calls.mono R.out ?_; rintro e w' ⟨rfl, rfl⟩))
      go_ret
      exact ⟨0, rfl, by decide, fun h => absurd h (by omega), hF.out.1, hF.out.2⟩
  · obtain rfl := hno (by omega)
    have hF := Lib.hid (Rd.stay hb hr hnil hA hc hat (show q.length < need + 4 by omega))
    clear hb hyes hno
    go_enter Try.func72, Try.ntmps72
    go_wp2_with fail
    go_ret
    exact ⟨0, rfl, by decide, fun h => absurd h (by omega), hF.out, Kept.refl _ w⟩
end Go.Proofs.Ytmdkfhfkdcbpgaa.Reader7

namespace Go.Proofs.Ytmdkfhfkdcbpgaa.OctetBytes
open Go Go.RowKit Go.Proofs.Ytmdkfhfkdcbpgaa Go.Proofs.Ytmdkfhfkdcbpgaa.Mem Go.Proofs.Ytmdkfhfkdcbpgaa.Sha Go.Proofs.Ytmdkfhfkdcbpgaa.Bytes Go.Proofs.Ytmdkfhfkdcbpgaa.Append Go.Proofs.Ytmdkfhfkdcbpgaa.Octet Go.Proofs.Ytmdkfhfkdcbpgaa.Octet2 Go.Proofs.Ytmdkfhfkdcbpgaa.Octet4 Go.Proofs.Ytmdkfhfkdcbpgaa.Reader Go.Proofs.Ytmdkfhfkdcbpgaa.Reader2 Go.Proofs.Ytmdkfhfkdcbpgaa.Reader3 Go.Proofs.Ytmdkfhfkdcbpgaa.Reader7

set_option maxRecDepth 100000 in
theorem bound_any (w : World) : Calls Try.prog 70 #[.int .i64 65536, .int .i64 2147483647] w fun e w' => e = .returned (.int .i64 65536) ∧ w = w' := by
  go_enter Try.func70, Try.ntmps70
  go_wp2_with fail
  go_ret
  exact ⟨rfl, rfl⟩
set_option maxRecDepth 100000 in
set_option maxHeartbeats 1000000 in
theorem wbytes_any (g : Nat) (r : Option Nat) (l q : Text) (m : Nat) (hqm : q.length = m) (hm : m ≤ 65536) (A : Option Addr) (c : Nat) (w : World) (hl : l.length + 4 + m ≤ 140737488355328) (hw : WrAt w g r l) (hrd : Reads w 1 A m (cells8 q)) (hnil : A = none → m = 0 ∧ c = 0) (hA : 0 < m → ∀ a, A = some a → a.block ≠ g ∧ some a.block ≠ r) :
    Calls Try.prog 41 #[.pointer (some ⟨g, 0, none⟩), .slice A m c, .int .i64 65536] w fun e w' => e = .returned (.int .i64 0) ∧ Wrote w g r (l ++ be4 m ++ q) w' := by
  obtain ⟨i0, hi, hz0, hz1, hz2⟩ := info_parts8 info8
  have hB := Lib.hid (fun w' => bound_any w')
  have hP := Lib.hid (put4 g r l m (by show _ < _; omega) w (by omega) hw)
  have hRk : Hid (∀ w2, Kept (fun k => k = g ∨ some k = r) w w2 → Reads w2 1 A m (cells8 q)) := fun w2 hk => hrd.kept0 hk (fun h0 b o e h => by
    have := hA (by omega) _ e
    rcases h with h | h
    · exact this.1 h
    · exact this.2 h)
  have z1 : ¬ (65536 : Int) < (m : Int) := by omega
  have z2 : IntKind.u32.wrap (m : Int) = (m : Int) := u32_in _ (by omega) (by omega)
  have hc1 : Hid ((l ++ be4 m).length + m ≤ maxLen) := by show _ ≤ _; rw [List.length_append, be4_len]; unfold maxLen; omega
  have hc2 : Hid (((l ++ be4 m).length + m) * 1 ≤ 140737488355328) := by show _ ≤ _; rw [List.length_append, be4_len]; omega
  replace hqm := Lib.hid hqm
  replace hnil := Lib.hid hnil
  clear hm hl hw hrd hA
  generalize l ++ be4 m = L at *
  go_enter Try.func41, Try.ntmps41
  go_wp2_with (first
    | (go_at_call 70; refine (hB.out _).mono ?_; rintro e w' ⟨rfl, rfl⟩)
    | (go_at_call 40; refine hP.out.mono ?_; rintro e w2 ⟨rfl, hW⟩; obtain ⟨r1, h1, k1, c1⟩ := id hW; obtain ⟨v, hb, ho, hvr, hr1⟩ := h1; have hgc : w2.cell? ⟨g, 0, none⟩ = some v := (by rw [hb.cell 0]; rfl); have hrd2 := Lib.hid (hRk.out w2 k1); have hne : Hid (some g ≠ v.ownBlock) := (fun e => by have := (hr1 g (by rw [← hvr]; exact e.symm)).1; omega); have hV : Hid (∀ u, Blk w2 g 92 #[u] → u = v) := (fun u hu => by have h1 : some (Obj.cells #[u] 92 (0, 0)) = some (Obj.cells #[v] 92 (0, 0)) := (show w2.heap[g]? = _ from hu).symm.trans hb; simpa using h1); replace hb := Lib.hid hb; replace ho := Lib.hid ho; replace hW := Lib.hid hW; clear hr1 hvr k1 c1 hP)
    | (at_builtin; refine wpList_append_src w2 rfl (.tmp 21) (.tmp 22) 29 rfl 0 5 i0 (.int .u8 0) 1 1 Try.underlying29 hi hz0 hz1 hz2 rfl (by decide) v L.length (cells8 L) rfl ho.out A m c (cells8 q) rfl hrd2.out hnil.out (cells8_one q) hc1.out hc2.out (Nat.zero_le _) ?_; intro v1 W hG; obtain ⟨Av, cv, rfl, -⟩ := Own.reads hG.own; have hX := Lib.hid (hW.out.step (fun r1 h1 => Wrote.append (q := q) h1 hV.out (by rw [hqm.out]; exact hG))); obtain ⟨hf1, hf2⟩ := far_cell hb.out hne.out (Kept.refl _ w2) hG.grow; clear hG))
  go_ret
  exact ⟨rfl, hX.out⟩
set_option maxRecDepth 100000 in
theorem refuse_six (g : Nat) (s : Value) (at_ : Int) (w : World) (hb : Blk w g 121 #[s, .int .i64 at_, .int .i64 0]) :
    Calls Try.prog 80 #[.pointer (some ⟨g, 0, none⟩), .int .i64 6] w fun e w' => e = .returned (.tuple #[]) ∧ w.setCell ⟨g, 2, none⟩ (.int .i64 6) = w' := by
  have g2 : w.cell? ⟨g, 2, none⟩ = some (.int .i64 0) := by rw [hb.cell 2]; rfl
  have gf := hb.frozen 2
  clear hb
  go_enter Try.func80, Try.ntmps80
  go_wp2_with fail
  go_end0
  exact ⟨rfl, rfl⟩
/-- A reader that has refused. -/
def Bad (w : World) (g : Nat) : Prop := ∃ (s : Value) (a why : Int), Blk w g 121 #[s, .int .i64 a, .int .i64 why] ∧ why ≠ 0
theorem Rd.bad {w : World} {g need c : Nat} {q : Text} {A : Option Addr} (h : Rd w g q A c need) (hn : q.length < need) : Bad w g := by
  obtain ⟨at_, why, hb, _, _, _, _, _, _, hno⟩ := h
  exact ⟨_, _, _, hb, by rw [hno hn]; decide⟩
theorem Bad.blk {w w' : World} {g : Nat} (h : Bad w g) (hk : w'.heap[g]? = w.heap[g]?) : Bad w' g := by
  obtain ⟨s, a, y, hb, h0⟩ := h
  exact ⟨s, a, y, hk.trans hb, h0⟩
theorem Out.since {S : Nat → Prop} {w w1 w2 : World} {A : Option Addr} {c : Nat} {p : Text} (h : Out w1 w2 A c p) (hk : Kept S w w1) : Out w w2 A c p := ⟨h.1, h.2.1, h.2.2.1, fun a e => Nat.le_trans hk.size (h.2.2.2 a e)⟩
/-- Can Bytes be taken there? -/
def bytesOk (q : Text) (need : Nat) : Prop := need + 4 ≤ q.length ∧ num ((q.drop need).take 4) ≤ 65536 ∧ need + 4 + num ((q.drop need).take 4) ≤ q.length
set_option maxRecDepth 100000 in
set_option maxHeartbeats 1000000 in
theorem rbytes_any (q : Text) (hq : q.length < 140737488355328) (g need : Nat) (A : Option Addr) (c : Nat) (w : World) (h : Rd w g q A c need) :
    Calls Try.prog 74 #[.pointer (some ⟨g, 0, none⟩), .int .i64 65536] w fun e w' => ∃ A' c' p, e = .returned (.slice A' p.length c') ∧ (bytesOk q need → p = (q.drop (need + 4)).take (num ((q.drop need).take 4)) ∧ Rd w' g q A c (need + 4 + num ((q.drop need).take 4))) ∧ (¬ bytesOk q need → p = [] ∧ Bad w' g) ∧ Out w w' A' c' p ∧ Kept (· = g) w w' := by
  have hRd := Lib.hid h
  obtain ⟨at_, why, hb, hr, hnil, hA, hc, hat, hyes, hno⟩ := h
  have g0 : w.cell? ⟨g, 0, none⟩ = some (.slice A q.length c) := by rw [hb.cell 0]; rfl
  have g1 : w.cell? ⟨g, 1, none⟩ = some (.int .i64 (at_ : Int)) := by rw [hb.cell 1]; rfl
  have g2 : w.cell? ⟨g, 2, none⟩ = some (.int .i64 why) := by rw [hb.cell 2]; rfl
  have gf := hb.frozen 1
  have hB := Lib.hid (fun w' => bound_any w')
  have outn : ∀ w', Out w w' none 0 [] := fun w' => ⟨Reads.nil_ _ _ _, fun _ => ⟨rfl, rfl⟩, Nat.le_refl _, fun _ e => by cases e⟩
  by_cases hn : need ≤ q.length
  · obtain ⟨rfl, rfl⟩ := hyes hn
    by_cases h4 : at_ + 4 ≤ q.length
    · have H := Lib.hid (ahead4_yes q at_ h4 hq A c g 0 w hb hr hc)
      obtain ⟨k, hk⟩ : ∃ k, Hid (num ((q.drop at_).take 4) = k) := ⟨_, Lib.hid rfl⟩
      have hk32 : k < 4294967296 := by rw [← hk.out]; exact num_lt4 _ (by rw [List.length_take]; omega)
      have hok : bytesOk q at_ ↔ k ≤ 65536 ∧ at_ + 4 + k ≤ q.length := by unfold bytesOk; rw [hk.out]; exact ⟨fun h => h.2, fun h => ⟨h4, h⟩⟩
      rw [hk.out] at H ⊢
      have x2 : IntKind.i64.wrap ((q.length : Int) - ((at_ : Int) + 4)) = (q.length : Int) - ((at_ : Int) + 4) := IntWalk.i64_in _ (by omega)
      have x3 : IntKind.i64.wrap (k : Int) = (k : Int) := IntWalk.i64_in _ (by omega)
      by_cases hm : k ≤ 65536
      · have z1 : ¬ (65536 : Int) < (k : Int) := by omega
        by_cases hl : at_ + 4 + k ≤ q.length
        · have z2 : ¬ (q.length : Int) - ((at_ : Int) + 4) < (k : Int) := by omega
          have hF := Lib.hid (Rd.adv hb hr hnil hA hc h4)
          have hT := Lib.hid (fun w' h => raw_any q hq g (at_ + 4) k (by omega) A c w' h)
          replace hok := Lib.hid (hok.2 ⟨hm, hl⟩)
          clear hb hyes hno hr hk32 hm hl outn hnil hA hc
          go_enter Try.func74, Try.ntmps74
          go_wp2_with (first
            | (go_at_call 84; refine Calls.mono H.out ?_; rintro e w' ⟨rfl, rfl⟩)
            | (go_at_call 70; refine (hB.out _).mono ?_; rintro e w' ⟨rfl, rfl⟩)
            | (go_at_call 53; refine (hT.out _ hF.out.1).mono ?_; rintro e w5 ⟨A', c', p, rfl, hp1, hp2, hO5, hR5, hk5⟩))
          go_ret
          refine ⟨A', c', p, rfl, fun _ => ⟨?_, hR5⟩, fun h => absurd hok.out h, Out.since hO5 hF.out.2, hF.out.2.trans hk5 (fun _ _ h => h)⟩
          exact hp1 (by have := hok.out.2.2; rw [hk.out] at this; exact this)
        · have z2 : (q.length : Int) - ((at_ : Int) + 4) < (k : Int) := by omega
          have R := Lib.hid (refuse_first g _ _ w hb)
          have hF := Lib.hid (Rd.fail hb hr hnil hA hc hat (show q.length < at_ + 4 + k by omega))
          have hlt := Lib.hid (show q.length < at_ + 4 + k by omega)
          replace hok := Lib.hid (fun h => hl (hok.1 h).2)
          have outn := Lib.hid outn
          clear hb hyes hno hr hk32 hm hl hnil hA hc
          go_enter Try.func74, Try.ntmps74
          go_wp2_with (first
            | (go_at_call 84; refine Calls.mono H.out ?_; rintro e w' ⟨rfl, rfl⟩)
            | (go_at_call 70; refine (hB.out _).mono ?_; rintro e w' ⟨rfl, rfl⟩)
            | (go_at_call 80; refine Calls.mono R.out ?_; rintro e w' ⟨rfl, rfl⟩))
          go_ret
          exact ⟨none, 0, [], rfl, fun h => absurd h hok.out, fun _ => ⟨rfl, Rd.bad hF.out.1 hlt.out⟩, outn.out _, hF.out.2⟩
      · have z1 : (65536 : Int) < (k : Int) := by omega
        have R := Lib.hid (refuse_six g _ _ w hb)
        have hF : Hid (Bad (w.setCell ⟨g, 2, none⟩ (.int .i64 6)) g) := ⟨_, _, 6, by have := hb.set_ 2 (.int .i64 6); simpa using this, by decide⟩
        have hK : Hid (Kept (· = g) w (w.setCell ⟨g, 2, none⟩ (.int .i64 6))) := (Kept.refl (· = g) w).setCell (p := ⟨g, 2, none⟩) (.inl rfl) _
        replace hok := Lib.hid (fun h => hm (hok.1 h).1)
        have outn := Lib.hid outn
        clear hb hyes hno hr hk32 hm hnil hA hc
        go_enter Try.func74, Try.ntmps74
        go_wp2_with (first
          | (go_at_call 84; refine Calls.mono H.out ?_; rintro e w' ⟨rfl, rfl⟩)
          | (go_at_call 70; refine (hB.out _).mono ?_; rintro e w' ⟨rfl, rfl⟩)
          | (go_at_call 80; refine Calls.mono R.out ?_; rintro e w' ⟨rfl, rfl⟩))
        go_ret
        exact ⟨none, 0, [], rfl, fun h => absurd h hok.out, fun _ => ⟨rfl, hF.out⟩, outn.out _, hK.out⟩
    · have H := Lib.hid (ahead4_no q at_ hn (by omega) hq A c g 0 w hb)
      have R := Lib.hid (refuse_first g _ _ w hb)
      have hF := Lib.hid (Rd.fail hb hr hnil hA hc hn (show q.length < at_ + 4 by omega))
      have hlt := Lib.hid (show q.length < at_ + 4 by omega)
      have hok := Lib.hid (fun h : bytesOk q at_ => h4 h.1)
      have outn := Lib.hid outn
      clear hb hyes hno hr hnil hA hc h4
      go_enter Try.func74, Try.ntmps74
      go_wp2_with (first
        | (go_at_call 84; refine Calls.mono H.out ?_; rintro e w' ⟨rfl, rfl⟩)
        | (go_at_call 80; refine Calls.mono R.out ?_; rintro e w' ⟨rfl, rfl⟩))
      go_ret
      exact ⟨none, 0, [], rfl, fun h => absurd h hok.out, fun _ => ⟨rfl, Rd.bad hF.out.1 hlt.out⟩, outn.out _, hF.out.2⟩
  · obtain rfl := hno (by omega)
    have hok := Lib.hid (fun h : bytesOk q need => hn (by have := h.1; omega))
    have hF := Lib.hid (Rd.bad hRd.out (by omega))
    have outn := Lib.hid outn
    clear hb hyes hno hr hnil hA hc hn
    go_enter Try.func74, Try.ntmps74
    go_wp2_with fail
    go_ret
    exact ⟨none, 0, [], rfl, fun h => absurd h hok.out, fun _ => ⟨rfl, hF.out⟩, outn.out _, Kept.refl _ w⟩
end Go.Proofs.Ytmdkfhfkdcbpgaa.OctetBytes
