/-
  Texts of the claim, put into one file: Reader, Reader2, Reader3, ProofIdx, ProofIdx2, ProofFlag, ProofIdx3, ProofIdx4, IdxAny, IdxEnc, Reader7, OctetBytes, Flag.
-/
import Derived.Test.YtgldkfaiofkhbaaDoorZ13
import Derived.Test.YtgldkfaiofkhbaaDoorZ7
import Derived.Test.YtgldkfaiofkhbaaDoorShelf
import Derived.Laws.IdiomStrings
import Derived.Test.YtgldkfaiofkhbaaDoorZ5

namespace Go.Proofs.YtgldkfaiofkhbaaDoor.Reader
open Go Go.RowKit Go.Proofs.YtgldkfaiofkhbaaDoor Go.Proofs.YtgldkfaiofkhbaaDoor.Mem Go.Proofs.YtgldkfaiofkhbaaDoor.Sha Go.Proofs.YtgldkfaiofkhbaaDoor.Bytes Go.Proofs.YtgldkfaiofkhbaaDoor.Append Go.Proofs.YtgldkfaiofkhbaaDoor.Octet Go.Proofs.YtgldkfaiofkhbaaDoor.QuietTail Go.Proofs.YtgldkfaiofkhbaaDoor.Grown

/-- The number that bytes are, the highest first. -/
def num (l : Text) : Nat := l.foldl (fun a c => a * 256 + c.toNat) 0
theorem num_snoc (l : Text) (c : BitVec 8) : num (l ++ [c]) = num l * 256 + c.toNat := by simp [num]
theorem num_lt : ∀ (n : Nat) (l : Text), l.length = n → num l < 256 ^ n
  | 0, l, h => by
    obtain rfl : l = [] := List.eq_nil_of_length_eq_zero h
    simp [num]
  | n + 1, l, h => by
    have hl : l = l.take n ++ [l[n]'(by omega)] := by
      have := List.take_append_drop n l
      conv => lhs; rw [← this]
      congr 1
      rw [List.drop_eq_getElem_cons (by omega), List.drop_of_length_le (by omega)]
    have h1 := num_lt n (l.take n) (by rw [List.length_take]; omega)
    have h2 := (l[n]'(by omega)).isLt
    rw [hl, num_snoc, Nat.pow_succ]
    omega
theorem or_num (a : Nat) (c : BitVec 8) (ha : a < 72057594037927936) : bits .or .u64 ((a : Int) * 256) (b8 c) = ((a * 256 + c.toNat : Nat) : Int) := by
  have hc := c.isLt
  have h1 : ((a : Int) * 256) = ((a * 256 : Nat) : Int) := by omega
  have h2 : a * 256 ||| c.toNat = a * 256 + c.toNat := by
    have := Nat.two_pow_add_eq_or_of_lt (i := 8) (b := c.toNat) (by omega) a
    rw [show 2 ^ 8 * a = a * 256 by omega] at this
    exact this.symm
  have e1 : (BitVec.ofInt 64 ((a * 256 : Nat) : Int)).toNat = a * 256 := by
    rw [BitVec.ofInt_natCast, BitVec.toNat_ofNat]; exact Nat.mod_eq_of_lt (by omega)
  have e2 : (BitVec.ofInt 64 (c.toNat : Int)).toNat = c.toNat := by
    rw [BitVec.ofInt_natCast, BitVec.toNat_ofNat]; exact Nat.mod_eq_of_lt (by omega)
  unfold b8
  rw [h1]
  show IntKind.u64.wrap ((BitVec.ofInt 64 ((a * 256 : Nat) : Int) ||| BitVec.ofInt 64 (c.toNat : Int)).toNat : Int) = _
  rw [BitVec.toNat_or, e1, e2, h2]
  exact u64_in _ (by omega) (by omega)

/-- A reader at block g over the text q, after 'need' bytes were asked for. -/
def Rd (w : World) (g : Nat) (q : Text) (A : Option Addr) (c need : Nat) : Prop :=
  ∃ at_ why, Blk w g 186 #[.slice A q.length c, .int .i64 ((at_ : Nat) : Int), .int .i64 why] ∧ Reads w 1 A q.length (cells8 q) ∧ (A = none → q.length = 0 ∧ c = 0) ∧ (0 < q.length → ∀ a, A = some a → a.block ≠ g) ∧ q.length ≤ c ∧
    at_ ≤ q.length ∧ (need ≤ q.length → at_ = need ∧ why = 0) ∧ (q.length < need → why = 8)

section
variable {w w' : World} {g need c : Nat} {q : Text} {A : Option Addr}
theorem Rd.lt (h : Rd w g q A c need) : g < w.heap.size := by obtain ⟨_, _, hb, _⟩ := h; exact hb.lt
theorem Rd.kept {S : Nat → Prop} (h : Rd w g q A c need) (hk : Kept S w w') (hS : ∀ b, b < w.heap.size → ¬ S b) : Rd w' g q A c need := by
  obtain ⟨at_, why, hb, hr, h1⟩ := h
  refine ⟨at_, why, hb.kept hk (hS g hb.lt), hr.kept0 hk (fun hp b o e => ?_), h1⟩
  obtain ⟨b', o', e', hlt, _⟩ := hr.2 hp
  rw [e] at e'
  injection e' with e'
  injection e' with e1
  subst e1
  exact hS b hlt
theorem Rd.below (h : Rd w g q A c need) (hb : Below w.heap.size w w') : Rd w' g q A c need := h.kept (S := fun _ => False) (Kept.of_below hb) (fun _ _ x => x)
theorem Rd.alloc (h : Rd w g q A c need) (o : Obj) : Rd (w.alloc o) g q A c need := h.below (Below.heap_below w o)
theorem Rd.drewN (h : Rd w g q A c need) (n : Nat) : Rd (w.drewN n) g q A c need := h.below (below_drawn (Below.refl _ _) n)
end

set_option maxRecDepth 100000 in
set_option maxHeartbeats 1000000 in
theorem read_any (q : Text) (k : Nat) (hk : q.length = k) (hk47 : k < 140737488355328) (A : Option Addr) (c : Nat) (w : World) (hr : Reads w 1 A k (cells8 q)) (hnil : A = none → k = 0 ∧ c = 0) :
    Calls Tryd.prog 113 #[.slice A k c] w fun e w' => ∃ g A' c', e = .returned (.pointer (some ⟨g, 0, none⟩)) ∧ w.heap.size ≤ g ∧ Below w.heap.size w w' ∧ Rd w' g q A' c' 0 := by
  obtain ⟨i0, hi, hz0, hz1, hz2⟩ := info_parts8 info8
  subst hk
  have hc1 : Hid (0 + q.length ≤ maxLen) := by show _ ≤ _; unfold maxLen; omega
  have hc2 : Hid ((0 + q.length) * 1 ≤ 140737488355328) := by show _ ≤ _; omega
  replace hr := Lib.hid hr
  replace hnil := Lib.hid hnil
  clear hk47
  go_enter Tryd.func113, Tryd.ntmps113
  go_wp2_with (at_builtin; refine wpList_append_src _ rfl (.const (.slice none 0 0)) (.tmp 3) 31 rfl w.heap.size 5 i0 (.int .u8 0) 1 1 Tryd.underlying31 hi hz0 hz1 hz2 rfl (by decide) (.slice none 0 0) 0 [] rfl (World.ownsRow_nil _ _ _ _) A q.length c (cells8 q) rfl hr.out hnil.out (cells8_one q) hc1.out hc2.out (Nat.le_refl _) ?_; intro v1 w1 hG; have hbb : Hid (Below w.heap.size w w1) := hG.below (Below.refl _ _) (Nat.le_refl _) (fun k e => by cases e); have hO := hG.own; rw [Nat.zero_add, List.nil_append] at hO; obtain ⟨A1, c1, rfl, hn1, _, hnil1, hr1, -⟩ := Own.reads hO; clear hG hO; replace hr1 := Lib.hid hr1; replace hnil1 := Lib.hid hnil1; replace hn1 := Lib.hid hn1)
  go_ret
  refine ⟨w1.heap.size, A1, c1, rfl, hbb.out.size, hbb.out.alloc hbb.out.size _, 0, 0, Blk.new _ _ _, hr1.out.alloc _, hnil1.out, (fun h0 a e h => ?_), hn1.out, Nat.zero_le _, fun _ => ⟨rfl, rfl⟩, fun h => absurd h (by omega)⟩
  subst e
  obtain ⟨b, o, e2, hlt, _⟩ := hr1.out.2 (by omega)
  injection e2 with e2
  subst e2
  simp at h
  omega

/-- 's[l:h]', l and h within. -/
theorem run_mid {P : Program} {t : TypeId} {A : Option Addr} {n c l h : Nat} (ht : P.underlying t = some (.slice (P.elem t))) (hs : ∀ w, (sizeOf (P.elem t)).run P w = .ok 1 w) (h1 : l ≤ h) (h2 : h ≤ c) (x y : Int) (hx : x = l) (hy : y = h) (w : World) :
    (Instr.sliceAt t (.slice A n c) (some (.int .i64 x)) (some (.int .i64 y)) none).run P w = .ok (.slice (cutA A l c) (h - l) (c - l)) w := by
  subst hx hy
  rw [run_sliceAt_slice w t _ _ _ _ ht, run_slice_lh w t A n c ht .i64 .i64 (l : Int) (h : Int) (by omega) (by omega) (by omega), hs]
  simp [Result.andThen, sliced, cutA]

/-- What the walk of 'ahead' must know of a reader that has room. -/
theorem Rd.at_ {w : World} {need : Nat} {q : Text} {A : Option Addr} (hr : Reads w 1 A q.length (cells8 q)) {k : Nat} (h0 : 0 < k) (hk : need + k ≤ q.length) : ∃ b o, A = some ⟨b, o, none⟩ ∧ b < w.heap.size ∧ ∀ j, j < k → w.cell? ⟨b, o + need + j, none⟩ = some (.int .u8 (b8 (q.getD (need + j) 0))) := by
  obtain ⟨b, o, e, hb, hc⟩ := hr.2 (by omega)
  refine ⟨b, o, e, hb, fun j hj => ?_⟩
  rw [Nat.add_assoc]
  exact hc _ _ (cells8_at q _ (by omega))

theorem take_num (q : Text) (need k j : Nat) (hj : j < k) (hk : need + k ≤ q.length) : num (((q.drop need).take k).take (j + 1)) = num (((q.drop need).take k).take j) * 256 + (q.getD (need + j) 0).toNat := by
  have h : ((q.drop need).take k)[j]? = some (q.getD (need + j) 0) := by
    rw [List.getElem?_take, if_pos hj, List.getElem?_drop]
    simp [List.getD, show need + j < q.length by omega]
  rw [List.take_add_one, h, Option.toList_some, num_snoc]

set_option maxRecDepth 100000 in
set_option maxHeartbeats 1000000 in
theorem ahead8_yes (q : Text) (at_ : Nat) (h8 : at_ + 8 ≤ q.length) (hq : q.length < 140737488355328) (A : Option Addr) (c g : Nat) (why : Int) (w : World) (hb : Blk w g 186 #[.slice A q.length c, .int .i64 (at_ : Int), .int .i64 why]) (hr : Reads w 1 A q.length (cells8 q)) (hc : q.length ≤ c) :
    Calls Tryd.prog 162 #[.pointer (some ⟨g, 0, none⟩), .int .i64 (at_ : Int)] w fun e w' => e = .returned (.tuple #[.int .u64 (num ((q.drop at_).take 8) : Int), .int .i64 ((at_ : Int) + 8), .bool true]) ∧ w = w' := by
  obtain ⟨b, o, rfl, hbl, hcell⟩ := Rd.at_ hr (k := 8) (by omega) h8
  have g0 : w.cell? ⟨g, 0, none⟩ = some (.slice (some ⟨b, o, none⟩) q.length c) := by rw [hb.cell 0]; rfl
  have x1 : (0 : Int) ≤ (at_ : Int) := by omega
  have x2 : (at_ : Int) + 8 ≤ (q.length : Int) := by omega
  have x3 : (q.length : Int) < 9223372036854775807 := by omega
  have X : ∀ w', (Instr.sliceAt 31 (.slice (some ⟨b, o, none⟩) q.length c) (some (.int .i64 (at_ : Int))) (some (.int .i64 ((at_ : Int) + 8))) none).run Tryd.prog w' = .ok (.slice (some ⟨b, o + at_, none⟩) 8 (c - at_)) w' := fun w' => by
    rw [run_mid (l := at_) (h := at_ + 8) Tryd.underlying31 (fun _ => rfl) (by omega) (by omega) _ _ rfl (by omega) w']
    simp only [cutA, if_neg (show ¬ c = at_ by omega), Option.map_some, add_at]
    congr 2
    omega
  have x4 : (8 : Int) ≤ (q.length : Int) - (at_ : Int) := by omega
  obtain ⟨n, hn⟩ : ∃ n, Hid (n = q.length) := ⟨_, rfl⟩
  rw [← hn.out] at g0 x2 x3 x4
  simp only [← hn.out] at X
  have y1 : decide ((n : Int) - (at_ : Int) < 8) = false := by simp; omega
  have y2 : decide ((n : Int) < 8 + (at_ : Int)) = false := by simp; omega
  have y3 : decide ((n : Int) < (at_ : Int) + 8) = false := by simp; omega
  replace hcell := Lib.hid hcell
  have hq8 := Lib.hid h8
  clear hb hr hc h8 hq hbl
  go_enter Tryd.func162, Tryd.ntmps162
  go_wp2_with (go_at_call 159; refine (width8 _).mono ?_; rintro e w' ⟨rfl, rfl⟩)
  clear X y1 y2 y3
  go_loop [8, 32] (fun v u => ∃ j N : Nat, u = .int .i64 (j : Int) ∧ v = .int .u64 (N : Int) ∧ Hid (j ≤ 8) ∧ Hid (N = num (((q.drop at_).take 8).take j))) (fun _ u => 8 - (intOf u).toNat)
  case atStart => exact ⟨0, 0, rfl, rfl, (show 0 ≤ 8 by omega), rfl⟩
  case round =>
    obtain ⟨j, N, rfl, rfl, hj, hNd⟩ := hrel
    by_cases hlt : j < 8
    · have z1 : (j : Int) < 8 := by omega
      have z2 : (0 : Int) ≤ (j : Int) := by omega
      have hNl : N < 72057594037927936 := by
        rw [hNd.out]
        have h1 := num_lt (((q.drop at_).take 8).take j).length _ rfl
        have h2 : (((q.drop at_).take 8).take j).length ≤ 7 := by rw [List.length_take]; omega
        exact Nat.lt_of_lt_of_le h1 (Nat.le_trans (Nat.pow_le_pow_right (by decide) h2) (by decide))
      have hcj := hcell.out j hlt
      obtain ⟨y, hy⟩ : ∃ y, Hid (y = q.getD (at_ + j) 0) := ⟨_, rfl⟩
      rw [← hy.out] at hcj
      have hst : Hid (N * 256 + y.toNat = num (((q.drop at_).take 8).take (j + 1))) := by
        show _ = _
        rw [take_num q at_ 8 j hlt hq8.out, ← hNd.out, hy.out]
      have f0 := b8_nonneg y
      have f1 := b8_lt y
      have f2 : IntKind.u64.wrap (b8 y) = b8 y := u64_in _ f0 (by omega)
      have f3 : IntKind.u64.wrap ((N : Int) * 256) = (N : Int) * 256 := u64_in _ (by omega) (by omega)
      have f4 : (N : Int) * 256 % 18446744073709551616 = (N : Int) * 256 := by omega
      have f5 := or_num N y hNl
      obtain ⟨M, hM⟩ : ∃ M, Hid (M = N * 256 + y.toNat) := ⟨_, rfl⟩
      rw [← hM.out] at f5 hst
      replace hNl := Lib.hid hNl
      go_wp2_with fail
      go_round
      case rel => exact ⟨j + 1, M, by go_num, rfl, (show j + 1 ≤ 8 by omega), hst.out⟩
      case measure => simp [intOf]; omega
    · obtain rfl : j = 8 := by have := hj.out; omega
      have hT : Hid (((q.drop at_).take 8).take 8 = (q.drop at_).take 8) := by show _ = _; rw [List.take_take]; rfl
      go_wp2_with fail
      go_ret3
      rw [hT.out] at hNd
      obtain rfl := hNd.out
      exact ⟨rfl, rfl⟩
set_option maxRecDepth 100000 in
set_option maxHeartbeats 1000000 in
theorem ahead1_yes (q : Text) (at_ : Nat) (h8 : at_ + 1 ≤ q.length) (hq : q.length < 140737488355328) (A : Option Addr) (c g : Nat) (why : Int) (w : World) (hb : Blk w g 186 #[.slice A q.length c, .int .i64 (at_ : Int), .int .i64 why]) (hr : Reads w 1 A q.length (cells8 q)) (hc : q.length ≤ c) :
    Calls Tryd.prog 120 #[.pointer (some ⟨g, 0, none⟩), .int .i64 (at_ : Int)] w fun e w' => e = .returned (.tuple #[.int .u8 (b8 (q.getD at_ 0)), .int .i64 ((at_ : Int) + 1), .bool true]) ∧ w = w' := by
  obtain ⟨b, o, rfl, hbl, hcell⟩ := Rd.at_ hr (k := 1) (by omega) h8
  have g0 : w.cell? ⟨g, 0, none⟩ = some (.slice (some ⟨b, o, none⟩) q.length c) := by rw [hb.cell 0]; rfl
  have x1 : (0 : Int) ≤ (at_ : Int) := by omega
  have x2 : (at_ : Int) + 1 ≤ (q.length : Int) := by omega
  have x3 : (q.length : Int) < 9223372036854775807 := by omega
  have X : ∀ w', (Instr.sliceAt 31 (.slice (some ⟨b, o, none⟩) q.length c) (some (.int .i64 (at_ : Int))) (some (.int .i64 ((at_ : Int) + 1))) none).run Tryd.prog w' = .ok (.slice (some ⟨b, o + at_, none⟩) 1 (c - at_)) w' := fun w' => by
    rw [run_mid (l := at_) (h := at_ + 1) Tryd.underlying31 (fun _ => rfl) (by omega) (by omega) _ _ rfl (by omega) w']
    simp only [cutA, if_neg (show ¬ c = at_ by omega), Option.map_some, add_at]
    congr 2
    omega
  have x4 : (1 : Int) ≤ (q.length : Int) - (at_ : Int) := by omega
  obtain ⟨n, hn⟩ : ∃ n, Hid (n = q.length) := ⟨_, rfl⟩
  rw [← hn.out] at g0 x2 x3 x4
  simp only [← hn.out] at X
  have y1 : decide ((n : Int) - (at_ : Int) < 1) = false := by simp; omega
  have y2 : decide ((n : Int) < 1 + (at_ : Int)) = false := by simp; omega
  have y3 : decide ((n : Int) < (at_ : Int) + 1) = false := by simp; omega
  replace hcell := Lib.hid hcell
  have hq8 := Lib.hid h8
  clear hb hr hc h8 hq hbl
  go_enter Tryd.func120, Tryd.ntmps120
  go_wp2_with (go_at_call 106; refine (width1 _).mono ?_; rintro e w' ⟨rfl, rfl⟩)
  clear X y1 y2 y3
  go_loop [8, 32] (fun v u => ∃ j N : Nat, u = .int .i64 (j : Int) ∧ v = .int .u64 (N : Int) ∧ Hid (j ≤ 1) ∧ Hid (N = num (((q.drop at_).take 1).take j))) (fun _ u => 1 - (intOf u).toNat)
  case atStart => exact ⟨0, 0, rfl, rfl, (show 0 ≤ 1 by omega), rfl⟩
  case round =>
    obtain ⟨j, N, rfl, rfl, hj, hNd⟩ := hrel
    by_cases hlt : j < 1
    · have z1 : (j : Int) < 1 := by omega
      have z2 : (0 : Int) ≤ (j : Int) := by omega
      have hNl : N < 72057594037927936 := by
        rw [hNd.out]
        have h1 := num_lt (((q.drop at_).take 1).take j).length _ rfl
        have h2 : (((q.drop at_).take 1).take j).length ≤ 0 := by rw [List.length_take]; omega
        exact Nat.lt_of_lt_of_le h1 (Nat.le_trans (Nat.pow_le_pow_right (by decide) h2) (by decide))
      have hcj := hcell.out j hlt
      obtain ⟨y, hy⟩ : ∃ y, Hid (y = q.getD (at_ + j) 0) := ⟨_, rfl⟩
      rw [← hy.out] at hcj
      have hst : Hid (N * 256 + y.toNat = num (((q.drop at_).take 1).take (j + 1))) := by
        show _ = _
        rw [take_num q at_ 1 j hlt hq8.out, ← hNd.out, hy.out]
      have f0 := b8_nonneg y
      have f1 := b8_lt y
      have f2 : IntKind.u64.wrap (b8 y) = b8 y := u64_in _ f0 (by omega)
      have f3 : IntKind.u64.wrap ((N : Int) * 256) = (N : Int) * 256 := u64_in _ (by omega) (by omega)
      have f4 : (N : Int) * 256 % 18446744073709551616 = (N : Int) * 256 := by omega
      have f5 := or_num N y hNl
      obtain ⟨M, hM⟩ : ∃ M, Hid (M = N * 256 + y.toNat) := ⟨_, rfl⟩
      rw [← hM.out] at f5 hst
      replace hNl := Lib.hid hNl
      go_wp2_with fail
      go_round
      case rel => exact ⟨j + 1, M, by go_num, rfl, (show j + 1 ≤ 1 by omega), hst.out⟩
      case measure => simp [intOf]; omega
    · obtain rfl : j = 1 := by have := hj.out; omega
      have hT : Hid (N = (q.getD at_ 0).toNat) := by
        show _ = _
        have := take_num q at_ 1 0 (by omega) hq8.out
        rw [hNd.out, show (((q.drop at_).take 1).take 1) = (((q.drop at_).take 1).take (0 + 1)) from rfl, this]
        simp [num]
      obtain rfl := hT.out
      have f1 : IntKind.u8.wrap (((q.getD at_ 0).toNat : Nat) : Int) = b8 (q.getD at_ 0) := by
        have := (q.getD at_ 0).isLt
        unfold b8
        simp [IntKind.wrap, IntKind.bits, IntKind.signed]
        omega
      have f2 : (((q.getD at_ 0).toNat : Nat) : Int) % 256 = b8 (q.getD at_ 0) := by
        have := (q.getD at_ 0).isLt
        unfold b8
        omega
      go_wp2_with fail
      go_ret3
      exact ⟨rfl, rfl⟩

set_option maxRecDepth 100000 in
set_option maxHeartbeats 1000000 in
theorem ahead8_no (q : Text) (at_ : Nat) (hat : at_ ≤ q.length) (h8 : q.length < at_ + 8) (hq : q.length < 140737488355328) (A : Option Addr) (c g : Nat) (why : Int) (w : World) (hb : Blk w g 186 #[.slice A q.length c, .int .i64 (at_ : Int), .int .i64 why]) :
    Calls Tryd.prog 162 #[.pointer (some ⟨g, 0, none⟩), .int .i64 (at_ : Int)] w fun e w' => e = .returned (.tuple #[.int .u64 0, .int .i64 (at_ : Int), .bool false]) ∧ w = w' := by
  have g0 : w.cell? ⟨g, 0, none⟩ = some (.slice A q.length c) := by rw [hb.cell 0]; rfl
  have x1 : (0 : Int) ≤ (at_ : Int) := by omega
  have x2 : (at_ : Int) ≤ (q.length : Int) := by omega
  have x3 : (q.length : Int) < 9223372036854775807 := by omega
  obtain ⟨n, hn⟩ : ∃ n, Hid (n = q.length) := ⟨_, rfl⟩
  rw [← hn.out] at g0 x2 x3 h8
  have y1 : decide ((n : Int) - (at_ : Int) < 8) = true := by simp; omega
  have y2 : decide ((n : Int) < 8 + (at_ : Int)) = true := by simp; omega
  have y3 : decide ((n : Int) < (at_ : Int) + 8) = true := by simp; omega
  clear hb hq hat h8
  go_enter Tryd.func162, Tryd.ntmps162
  go_wp2_with (go_at_call 159; refine (width8 _).mono ?_; rintro e w' ⟨rfl, rfl⟩)
  go_ret3
  exact ⟨rfl, rfl⟩

set_option maxRecDepth 100000 in
set_option maxHeartbeats 1000000 in
theorem ahead1_no (q : Text) (at_ : Nat) (hat : at_ ≤ q.length) (h8 : q.length < at_ + 1) (hq : q.length < 140737488355328) (A : Option Addr) (c g : Nat) (why : Int) (w : World) (hb : Blk w g 186 #[.slice A q.length c, .int .i64 (at_ : Int), .int .i64 why]) :
    Calls Tryd.prog 120 #[.pointer (some ⟨g, 0, none⟩), .int .i64 (at_ : Int)] w fun e w' => e = .returned (.tuple #[.int .u8 0, .int .i64 (at_ : Int), .bool false]) ∧ w = w' := by
  have g0 : w.cell? ⟨g, 0, none⟩ = some (.slice A q.length c) := by rw [hb.cell 0]; rfl
  have x1 : (0 : Int) ≤ (at_ : Int) := by omega
  have x2 : (at_ : Int) ≤ (q.length : Int) := by omega
  have x3 : (q.length : Int) < 9223372036854775807 := by omega
  obtain ⟨n, hn⟩ : ∃ n, Hid (n = q.length) := ⟨_, rfl⟩
  rw [← hn.out] at g0 x2 x3 h8
  have y1 : decide ((n : Int) - (at_ : Int) < 1) = true := by simp; omega
  have y2 : decide ((n : Int) < 1 + (at_ : Int)) = true := by simp; omega
  have y3 : decide ((n : Int) < (at_ : Int) + 1) = true := by simp; omega
  clear hb hq hat h8
  go_enter Tryd.func120, Tryd.ntmps120
  go_wp2_with (go_at_call 106; refine (width1 _).mono ?_; rintro e w' ⟨rfl, rfl⟩)
  go_ret3
  exact ⟨rfl, rfl⟩
end Go.Proofs.YtgldkfaiofkhbaaDoor.Reader

namespace Go.Proofs.YtgldkfaiofkhbaaDoor.Reader2
open Go Go.RowKit Go.Proofs.YtgldkfaiofkhbaaDoor Go.Proofs.YtgldkfaiofkhbaaDoor.Mem Go.Proofs.YtgldkfaiofkhbaaDoor.Sha Go.Proofs.YtgldkfaiofkhbaaDoor.Bytes Go.Proofs.YtgldkfaiofkhbaaDoor.Append Go.Proofs.YtgldkfaiofkhbaaDoor.Octet Go.Proofs.YtgldkfaiofkhbaaDoor.QuietTail Go.Proofs.YtgldkfaiofkhbaaDoor.Grown Go.Proofs.YtgldkfaiofkhbaaDoor.Reader

section
variable {w : World} {g c at_ : Nat} {q : Text} {A : Option Addr}
theorem Rd.reads_set (hr : Reads w 1 A q.length (cells8 q)) (hA : 0 < q.length → ∀ a, A = some a → a.block ≠ g) (i : Nat) (u : Value) : Reads (w.setCell ⟨g, i, none⟩ u) 1 A q.length (cells8 q) :=
  hr.kept0 ((Kept.refl (· = g) w).setCell (.inl rfl) u) (fun hp b o e h => hA (by omega) _ e h)
theorem Rd.adv {k : Nat} (hb : Blk w g 186 #[.slice A q.length c, .int .i64 (at_ : Int), .int .i64 0]) (hr : Reads w 1 A q.length (cells8 q)) (hnil : A = none → q.length = 0 ∧ c = 0) (hA : 0 < q.length → ∀ a, A = some a → a.block ≠ g) (hc : q.length ≤ c) (h8 : at_ + k ≤ q.length) :
    Rd (w.setCell ⟨g, 1, none⟩ (.int .i64 ((at_ : Int) + (k : Int)))) g q A c (at_ + k) ∧ Kept (· = g) w (w.setCell ⟨g, 1, none⟩ (.int .i64 ((at_ : Int) + (k : Int)))) :=
  ⟨⟨at_ + k, 0, by have := hb.set_ 1 (.int .i64 ((at_ : Int) + (k : Int))); simpa using this, Rd.reads_set hr hA _ _, hnil, hA, hc, h8, fun _ => ⟨rfl, rfl⟩, fun h => absurd h (by omega)⟩, (Kept.refl (· = g) w).setCell (p := ⟨g, 1, none⟩) (.inl rfl) _⟩
theorem Rd.fail {need : Nat} (hb : Blk w g 186 #[.slice A q.length c, .int .i64 (at_ : Int), .int .i64 0]) (hr : Reads w 1 A q.length (cells8 q)) (hnil : A = none → q.length = 0 ∧ c = 0) (hA : 0 < q.length → ∀ a, A = some a → a.block ≠ g) (hc : q.length ≤ c) (hat : at_ ≤ q.length) (hn : q.length < need) :
    Rd (w.setCell ⟨g, 2, none⟩ (.int .i64 8)) g q A c need ∧ Kept (· = g) w (w.setCell ⟨g, 2, none⟩ (.int .i64 8)) :=
  ⟨⟨at_, 8, by have := hb.set_ 2 (.int .i64 8); simpa using this, Rd.reads_set hr hA _ _, hnil, hA, hc, hat, fun h => absurd h (by omega), fun _ => rfl⟩, (Kept.refl (· = g) w).setCell (p := ⟨g, 2, none⟩) (.inl rfl) _⟩
theorem Rd.stay {need : Nat} (hb : Blk w g 186 #[.slice A q.length c, .int .i64 (at_ : Int), .int .i64 8]) (hr : Reads w 1 A q.length (cells8 q)) (hnil : A = none → q.length = 0 ∧ c = 0) (hA : 0 < q.length → ∀ a, A = some a → a.block ≠ g) (hc : q.length ≤ c) (hat : at_ ≤ q.length) (hn : q.length < need) : Rd w g q A c need :=
  ⟨at_, 8, hb, hr, hnil, hA, hc, hat, fun h => absurd h (by omega), fun _ => rfl⟩
end
/-- What a reader refuses, when so much was asked for; and whether bytes are left. -/
def whyOf (need len : Nat) : Int := if need ≤ len then 0 else 8
def doneOf (need len : Nat) : Int := if need = len then 0 else 8
theorem num_lt8 (l : Text) (h : l.length ≤ 8) : num l < 18446744073709551616 := Nat.lt_of_lt_of_le (num_lt _ l rfl) (Nat.le_trans (Nat.pow_le_pow_right (by decide) h) (by decide))

set_option maxRecDepth 100000 in
theorem refuse_first (g : Nat) (s : Value) (at_ : Int) (w : World) (hb : Blk w g 186 #[s, .int .i64 at_, .int .i64 0]) :
    Calls Tryd.prog 115 #[.pointer (some ⟨g, 0, none⟩), .int .i64 8] w fun e w' => e = .returned (.tuple #[]) ∧ w.setCell ⟨g, 2, none⟩ (.int .i64 8) = w' := by
  have g2 : w.cell? ⟨g, 2, none⟩ = some (.int .i64 0) := by rw [hb.cell 2]; rfl
  have gf := hb.frozen 2
  clear hb
  go_enter Tryd.func115, Tryd.ntmps115
  go_wp2_with fail
  go_end0
  exact ⟨rfl, rfl⟩

set_option maxRecDepth 100000 in
set_option maxHeartbeats 1000000 in
theorem take8_any (q : Text) (hq : q.length < 140737488355328) (g need : Nat) (A : Option Addr) (c : Nat) (w : World) (h : Rd w g q A c need) :
    Calls Tryd.prog 114 #[.pointer (some ⟨g, 0, none⟩)] w fun e w' => ∃ N : Nat, e = .returned (.int .u64 (N : Int)) ∧ N < 18446744073709551616 ∧ (need + 8 ≤ q.length → N = num ((q.drop need).take 8)) ∧ Rd w' g q A c (need + 8) ∧ Kept (· = g) w w' := by
  obtain ⟨at_, why, hb, hr, hnil, hA, hc, hat, hyes, hno⟩ := h
  have g1 : w.cell? ⟨g, 1, none⟩ = some (.int .i64 (at_ : Int)) := by rw [hb.cell 1]; rfl
  have g2 : w.cell? ⟨g, 2, none⟩ = some (.int .i64 why) := by rw [hb.cell 2]; rfl
  have gf := hb.frozen 1
  by_cases hn : need ≤ q.length
  · obtain ⟨rfl, rfl⟩ := hyes hn
    by_cases h8 : at_ + 8 ≤ q.length
    · have H := Lib.hid (ahead8_yes q at_ h8 hq A c g 0 w hb hr hc)
      have hF := Lib.hid (Rd.adv hb hr hnil hA hc h8)
      clear hb hyes hno
      go_enter Tryd.func114, Tryd.ntmps114
      go_wp2_with (go_at_call 162; refine Calls.mono H.out ?_; rintro e w' ⟨rfl, rfl⟩)
      go_ret
      exact ⟨_, rfl, num_lt8 _ (by rw [List.length_take, List.length_drop]; omega), fun _ => rfl, hF.out.1, hF.out.2⟩
    · have H := Lib.hid (ahead8_no q at_ hn (by omega) hq A c g 0 w hb)
      have R := Lib.hid (refuse_first g _ _ w hb)
      have hF := Lib.hid (Rd.fail hb hr hnil hA hc hn (show q.length < at_ + 8 by omega))
      clear hb hyes hno
      go_enter Tryd.func114, Tryd.ntmps114
      go_wp2_with (first | (go_at_call 162; refine Calls.mono H.out ?_; rintro e w' ⟨rfl, rfl⟩) | (go_at_call 115; refine Calls.mono R.out ?_; rintro e w' ⟨rfl, rfl⟩))
      go_ret
      exact ⟨0, rfl, by decide, fun h => absurd h (by omega), hF.out.1, hF.out.2⟩
  · obtain rfl := hno (by omega)
    have hF := Lib.hid (Rd.stay hb hr hnil hA hc hat (show q.length < need + 8 by omega))
    clear hb hyes hno
    go_enter Tryd.func114, Tryd.ntmps114
    go_wp2_with fail
    go_ret
    exact ⟨0, rfl, by decide, fun h => absurd h (by omega), hF.out, Kept.refl _ w⟩

set_option maxRecDepth 100000 in
set_option maxHeartbeats 1000000 in
theorem take1_any (q : Text) (hq : q.length < 140737488355328) (g need : Nat) (A : Option Addr) (c : Nat) (w : World) (h : Rd w g q A c need) :
    Calls Tryd.prog 77 #[.pointer (some ⟨g, 0, none⟩)] w fun e w' => ∃ y : BitVec 8, e = .returned (.int .u8 (b8 y)) ∧ (need + 1 ≤ q.length → y = q.getD need 0) ∧ Rd w' g q A c (need + 1) ∧ Kept (· = g) w w' := by
  obtain ⟨at_, why, hb, hr, hnil, hA, hc, hat, hyes, hno⟩ := h
  have g1 : w.cell? ⟨g, 1, none⟩ = some (.int .i64 (at_ : Int)) := by rw [hb.cell 1]; rfl
  have g2 : w.cell? ⟨g, 2, none⟩ = some (.int .i64 why) := by rw [hb.cell 2]; rfl
  have gf := hb.frozen 1
  by_cases hn : need ≤ q.length
  · obtain ⟨rfl, rfl⟩ := hyes hn
    by_cases h8 : at_ + 1 ≤ q.length
    · have H := Lib.hid (ahead1_yes q at_ h8 hq A c g 0 w hb hr hc)
      have hF := Lib.hid (Rd.adv hb hr hnil hA hc h8)
      clear hb hyes hno
      go_enter Tryd.func77, Tryd.ntmps77
      go_wp2_with (go_at_call 120; refine Calls.mono H.out ?_; rintro e w' ⟨rfl, rfl⟩)
      go_ret
      exact ⟨_, rfl, fun _ => rfl, hF.out.1, hF.out.2⟩
    · have H := Lib.hid (ahead1_no q at_ hn (by omega) hq A c g 0 w hb)
      have R := Lib.hid (refuse_first g _ _ w hb)
      have hF := Lib.hid (Rd.fail hb hr hnil hA hc hn (show q.length < at_ + 1 by omega))
      clear hb hyes hno
      go_enter Tryd.func77, Tryd.ntmps77
      go_wp2_with (first | (go_at_call 120; refine Calls.mono H.out ?_; rintro e w' ⟨rfl, rfl⟩) | (go_at_call 115; refine Calls.mono R.out ?_; rintro e w' ⟨rfl, rfl⟩))
      go_ret
      exact ⟨0, rfl, fun h => absurd h (by omega), hF.out.1, hF.out.2⟩
  · obtain rfl := hno (by omega)
    have hF := Lib.hid (Rd.stay hb hr hnil hA hc hat (show q.length < need + 1 by omega))
    clear hb hyes hno
    go_enter Tryd.func77, Tryd.ntmps77
    go_wp2_with fail
    go_ret
    exact ⟨0, rfl, fun h => absurd h (by omega), hF.out, Kept.refl _ w⟩

set_option maxRecDepth 100000 in
theorem why_any (q : Text) (g need : Nat) (A : Option Addr) (c : Nat) (w : World) (h : Rd w g q A c need) :
    Calls Tryd.prog 66 #[.pointer (some ⟨g, 0, none⟩)] w fun e w' => e = .returned (.int .i64 (whyOf need q.length)) ∧ w = w' := by
  obtain ⟨at_, why, hb, hr, hnil, hA, hc, hat, hyes, hno⟩ := h
  have g2 : w.cell? ⟨g, 2, none⟩ = some (.int .i64 why) := by rw [hb.cell 2]; rfl
  have hw : Hid (why = whyOf need q.length) := by
    show _ = _
    unfold whyOf
    by_cases hn : need ≤ q.length
    · rw [if_pos hn]; exact (hyes hn).2
    · rw [if_neg hn]; exact hno (by omega)
  clear hb hr hyes hno
  go_enter Tryd.func66, Tryd.ntmps66
  go_wp2_with fail
  go_ret
  exact ⟨by rw [← hw.out]; rfl, rfl⟩

set_option maxRecDepth 100000 in
theorem left_any (q : Text) (hq : q.length < 140737488355328) (g : Nat) (A : Option Addr) (c at_ : Nat) (why : Int) (w : World) (hb : Blk w g 186 #[.slice A q.length c, .int .i64 (at_ : Int), .int .i64 why]) (hat : at_ ≤ q.length) :
    Calls Tryd.prog 116 #[.pointer (some ⟨g, 0, none⟩)] w fun e w' => e = .returned (.int .i64 ((q.length : Int) - (at_ : Int))) ∧ ∃ n, w' = w.drewN n := by
  have g0 : w.cell? ⟨g, 0, none⟩ = some (.slice A q.length c) := by rw [hb.cell 0]; rfl
  have g1 : w.cell? ⟨g, 1, none⟩ = some (.int .i64 (at_ : Int)) := by rw [hb.cell 1]; rfl
  have x1 : IntKind.i64.wrap ((q.length : Int) - (at_ : Int)) = (q.length : Int) - (at_ : Int) := IntWalk.i64_in _ (by omega)
  generalize q.length = n at *
  clear hb hq hat
  go_enter Tryd.func116, Tryd.ntmps116
  go_wp2_with fail
  go_quiet (fail)
  go_wp2_with fail
  go_ret
  exact ⟨rfl, _, rfl⟩

set_option maxRecDepth 100000 in
theorem done_any (q : Text) (hq : q.length < 140737488355328) (g need : Nat) (A : Option Addr) (c : Nat) (w : World) (h : Rd w g q A c need) :
    Calls Tryd.prog 68 #[.pointer (some ⟨g, 0, none⟩)] w fun e w' => e = .returned (.int .i64 (doneOf need q.length)) ∧ ∃ n, w' = w.drewN n := by
  obtain ⟨at_, why, hb, hr, hnil, hA, hc, hat, hyes, hno⟩ := h
  have g2 : w.cell? ⟨g, 2, none⟩ = some (.int .i64 why) := by rw [hb.cell 2]; rfl
  by_cases hn : need ≤ q.length
  · obtain ⟨rfl, rfl⟩ := hyes hn
    have L := Lib.hid (left_any q hq g A c at_ 0 w hb hat)
    clear hb hr hyes hno
    by_cases he : at_ = q.length
    · have y1 : decide ((0 : Int) < (q.length : Int) - (at_ : Int)) = false := by simp; omega
      have y2 : decide ((at_ : Int) < (q.length : Int)) = false := by simp; omega
      have y3 : decide (at_ < q.length) = false := by simp; omega
      have hk : Hid (doneOf at_ q.length = 0) := if_pos he
      clear he hat hn
      go_enter Tryd.func68, Tryd.ntmps68
      go_wp2_with (go_at_call 116; refine Calls.mono L.out ?_; rintro e w' ⟨rfl, n, rfl⟩)
      go_ret
      exact ⟨by rw [hk.out]; rfl, n, rfl⟩
    · have y1 : decide ((0 : Int) < (q.length : Int) - (at_ : Int)) = true := by simp; omega
      have y2 : decide ((at_ : Int) < (q.length : Int)) = true := by simp; omega
      have y3 : decide (at_ < q.length) = true := by simp; omega
      have hk : Hid (doneOf at_ q.length = 8) := if_neg he
      clear he hat hn
      go_enter Tryd.func68, Tryd.ntmps68
      go_wp2_with (go_at_call 116; refine Calls.mono L.out ?_; rintro e w' ⟨rfl, n, rfl⟩)
      go_ret
      exact ⟨by rw [hk.out]; rfl, n, rfl⟩
  · obtain rfl := hno (by omega)
    have hk : Hid (doneOf need q.length = 8) := if_neg (by omega)
    clear hb hr hyes hno hn
    go_enter Tryd.func68, Tryd.ntmps68
    go_wp2_with fail
    go_ret
    exact ⟨by rw [hk.out]; rfl, 0, rfl⟩
end Go.Proofs.YtgldkfaiofkhbaaDoor.Reader2

namespace Go.Proofs.YtgldkfaiofkhbaaDoor.Reader3
open Go Go.RowKit Go.Proofs.YtgldkfaiofkhbaaDoor Go.Proofs.YtgldkfaiofkhbaaDoor.Mem Go.Proofs.YtgldkfaiofkhbaaDoor.Sha Go.Proofs.YtgldkfaiofkhbaaDoor.Bytes Go.Proofs.YtgldkfaiofkhbaaDoor.Append Go.Proofs.YtgldkfaiofkhbaaDoor.Octet Go.Proofs.YtgldkfaiofkhbaaDoor.QuietTail Go.Proofs.YtgldkfaiofkhbaaDoor.Grown Go.Proofs.YtgldkfaiofkhbaaDoor.Reader Go.Proofs.YtgldkfaiofkhbaaDoor.Reader2

/-- What Raw hands out: bytes in memory of their own. -/
def Out (w w' : World) (A : Option Addr) (c : Nat) (p : Text) : Prop :=
  Reads w' 1 A p.length (cells8 p) ∧ (A = none → p.length = 0 ∧ c = 0) ∧ p.length ≤ c ∧ ∀ a, A = some a → w.heap.size ≤ a.block

theorem Reads.mid {w : World} {A : Option Addr} {c at_ n : Nat} {q : Text} (h : Reads w 1 A q.length (cells8 q)) (hn : at_ + n ≤ q.length) (hc : q.length ≤ c) : Reads w 1 (cutA A at_ c) n (cells8 ((q.drop at_).take n)) := by
  have h1 := Reads.cut h at_ (by omega) hc
  have e : (cells8 q).drop at_ = cells8 (q.drop at_) := by simp [cells8]
  rw [e] at h1
  have h2 : Reads w 1 (cutA A at_ c) (q.drop at_).length (cells8 (q.drop at_)) := by rw [List.length_drop]; exact h1
  exact Reads.front h2 n (by rw [List.length_drop]; omega)
theorem cutA_none {A : Option Addr} {at_ c : Nat} (h : cutA A at_ c = none) : A = none := by
  unfold cutA at h
  split at h
  · exact h
  · cases A with
    | none => rfl
    | some a => simp at h

set_option maxRecDepth 100000 in
set_option maxHeartbeats 1000000 in
theorem raw_any (q : Text) (hq : q.length < 140737488355328) (g need n : Nat) (hn63 : n < 140737488355328) (A : Option Addr) (c : Nat) (w : World) (h : Rd w g q A c need) :
    Calls Tryd.prog 76 #[.pointer (some ⟨g, 0, none⟩), .int .i64 (n : Int)] w fun e w' => ∃ A' c' p, e = .returned (.slice A' p.length c') ∧ (need + n ≤ q.length → p = (q.drop need).take n) ∧ (q.length < need + n → p = []) ∧ Out w w' A' c' p ∧ Rd w' g q A c (need + n) ∧ Kept (· = g) w w' := by
  obtain ⟨i0, hi, hz0, hz1, hz2⟩ := info_parts8 info8
  obtain ⟨at_, why, hb, hr, hnil, hA, hc, hat, hyes, hno⟩ := h
  have g0 : w.cell? ⟨g, 0, none⟩ = some (.slice A q.length c) := by rw [hb.cell 0]; rfl
  have g1 : w.cell? ⟨g, 1, none⟩ = some (.int .i64 (at_ : Int)) := by rw [hb.cell 1]; rfl
  have g2 : w.cell? ⟨g, 2, none⟩ = some (.int .i64 why) := by rw [hb.cell 2]; rfl
  have gf := hb.frozen 1
  have x0 : (0 : Int) ≤ (n : Int) := by omega
  have x1 : decide ((n : Int) < 0) = false := by simp
  have x2 : IntKind.i64.wrap ((q.length : Int) - (at_ : Int)) = (q.length : Int) - (at_ : Int) := IntWalk.i64_in _ (by omega)
  by_cases hn : need ≤ q.length
  · obtain ⟨rfl, rfl⟩ := hyes hn
    by_cases h8 : at_ + n ≤ q.length
    · have x3 : decide ((q.length : Int) - (at_ : Int) < (n : Int)) = false := by simp; omega
      have x5 : (at_ : Int) + (n : Int) ≤ 140737488355328 := by omega
      have x6 : IntKind.i64.wrap ((at_ : Int) + (n : Int) - (n : Int)) = (at_ : Int) := by rw [show (at_ : Int) + (n : Int) - (n : Int) = (at_ : Int) by omega]; exact IntWalk.i64_in _ (by omega)
      have x7 : (0 : Int) ≤ (at_ : Int) := by omega
      have x8 : IntKind.i64.wrap (at_ : Int) = (at_ : Int) := IntWalk.i64_in _ (by omega)
      replace x5 := Lib.hid x5
      have y5 : IntKind.i64.wrap ((at_ : Int) + (n : Int)) = (at_ : Int) + (n : Int) := IntWalk.i64_in _ (by omega)
      have X : ∀ w', (Instr.sliceAt 31 (.slice A q.length c) (some (.int .i64 (at_ : Int))) (some (.int .i64 ((at_ : Int) + (n : Int)))) none).run Tryd.prog w' = .ok (.slice (cutA A at_ c) n (c - at_)) w' := fun w' => by
        rw [run_mid (l := at_) (h := at_ + n) Tryd.underlying31 (fun _ => rfl) (by omega) (by omega) _ _ rfl (by omega) w']
        congr 2
        omega
      have hpl : Hid (((q.drop at_).take n).length = n) := by show _ = _; rw [List.length_take, List.length_drop]; omega
      have hcn : Hid (cutA A at_ c = none → n = 0 ∧ c - at_ = 0) := fun e => by have := hnil (cutA_none e); omega
      have hc1 : Hid (0 + n ≤ maxLen) := by show _ ≤ _; unfold maxLen; omega
      have hc2 : Hid ((0 + n) * 1 ≤ 140737488355328) := by show _ ≤ _; omega
      have hk := fun (w' : World) (hb : Blk w' g 186 #[.slice A q.length c, .int .i64 (at_ : Int), .int .i64 0]) (hr : Reads w' 1 A q.length (cells8 q)) => Rd.adv hb hr hnil hA hc h8
      have hm := fun (w' : World) (hr : Reads w' 1 A q.length (cells8 q)) => Reads.mid (Rd.reads_set hr hA 1 (.int .i64 ((at_ : Int) + (n : Int)))) h8 hc
      replace hk := Lib.hid hk
      replace hm := Lib.hid hm
      replace hb := Lib.hid hb
      replace hr := Lib.hid hr
      clear hyes hno
      go_enter Tryd.func76, Tryd.ntmps76
      go_wp2_with fail
      go_quiet (fail)
      have hK0 : Hid (Kept (· = g) w (w.drewN nq)) := (Kept.refl _ w).drewN nq
      have hb' : Hid (Blk (w.drewN nq) g 186 #[.slice A q.length c, .int .i64 (at_ : Int), .int .i64 0]) := hb.out
      have hr' : Hid (Reads (w.drewN nq) 1 A q.length (cells8 q)) := hr.out
      generalize w.drewN nq = w2 at *
      clear g0 g1 g2 gf
      have g1 : w2.cell? ⟨g, 1, none⟩ = some (.int .i64 (at_ : Int)) := by rw [Blk.cell hb'.out 1]; rfl
      have gf := Blk.frozen hb'.out 1
      have hF := Lib.hid (hk.out w2 hb'.out hr'.out)
      have hR : Hid (Reads (w2.setCell ⟨g, 1, none⟩ (.int .i64 ((at_ : Int) + (n : Int)))) 1 (cutA A at_ c) n (cells8 ((q.drop at_).take n))) := hm.out w2 hr'.out
      have hB2 : Hid (Blk (w2.setCell ⟨g, 1, none⟩ (.int .i64 ((at_ : Int) + (n : Int)))) g 186 #[.slice A q.length c, .int .i64 ((at_ : Int) + (n : Int)), .int .i64 0]) := by show Blk _ _ _ _; have := Blk.set_ hb'.out 1 (.int .i64 ((at_ : Int) + (n : Int))); simpa using this
      go_wp2_with fail
      clear g1 gf
      generalize w2.setCell ⟨g, 1, none⟩ (.int .i64 ((at_ : Int) + (n : Int))) = w3 at *
      have k0 : w3.cell? ⟨g, 0, none⟩ = some (.slice A q.length c) := by rw [Blk.cell hB2.out 0]; rfl
      have k1 : w3.cell? ⟨g, 1, none⟩ = some (.int .i64 ((at_ : Int) + (n : Int))) := by rw [Blk.cell hB2.out 1]; rfl
      refine wp_region_quiet_tail 15 (by kernel_rfl) (by kernel_rfl) ?_
      repeat (quiet_step (fail))
      refine wpQuiet_nil ?_
      intro _ hw'
      obtain ⟨nr, hw''⟩ := hw'
      subst hw''
      simp only [List.drop]
      have hs3 : Hid (w.heap.size ≤ (w3.drewN nr).heap.size) := Nat.le_trans hK0.out.size hF.out.2.size
      go_wp2_with (at_builtin; refine wpList_append_src (w3.drewN nr) rfl (.const (.slice none 0 0)) (.tmp 50) 31 rfl w.heap.size 5 i0 (.int .u8 0) 1 1 Tryd.underlying31 hi hz0 hz1 hz2 rfl (by decide) (.slice none 0 0) 0 [] rfl (World.ownsRow_nil _ _ _ _) (cutA A at_ c) n (c - at_) (cells8 ((q.drop at_).take n)) rfl (hR.out.drewN nr) hcn.out (cells8_one _) hc1.out hc2.out hs3.out ?_; intro v1 W hG; have hO := hG.own; rw [Nat.zero_add, List.nil_append] at hO; obtain ⟨A1, c1, rfl, hn1, _, hnil1, hr1, hat1⟩ := Own.reads hO; have hbW : Hid (Below w3.heap.size w3 W) := (below_drawn (Below.refl _ w3) nr).grown hG.grow (Nat.le_refl _) (fun k e => by cases e); clear hG hO; replace hr1 := Lib.hid hr1; replace hnil1 := Lib.hid hnil1; replace hn1 := Lib.hid hn1; replace hat1 := Lib.hid hat1)
      go_ret
      refine ⟨A1, c1, (q.drop at_).take n, by rw [hpl.out]; rfl, fun _ => rfl, fun h => absurd h (by omega), ⟨by rw [hpl.out]; exact hr1.out, by rw [hpl.out]; exact hnil1.out, by rw [hpl.out]; exact hn1.out, fun a e => (hat1.out a e).1⟩, hF.out.1.below hbW.out, ?_⟩
      exact (hK0.out.trans hF.out.2 (fun _ _ h => h)).trans (Kept.of_below (S := (· = g)) hbW.out) (fun _ _ h => h)
    · have x3 : decide ((q.length : Int) - (at_ : Int) < (n : Int)) = true := by simp; omega
      have hk := fun (w' : World) (hb : Blk w' g 186 #[.slice A q.length c, .int .i64 (at_ : Int), .int .i64 0]) (hr : Reads w' 1 A q.length (cells8 q)) => Rd.fail hb hr hnil hA hc hat (show q.length < at_ + n by omega)
      replace hk := Lib.hid hk
      replace hb := Lib.hid hb
      replace hr := Lib.hid hr
      clear hyes hno
      go_enter Tryd.func76, Tryd.ntmps76
      go_wp2_with fail
      go_quiet (fail)
      have hK0 : Hid (Kept (· = g) w (w.drewN nq)) := (Kept.refl _ w).drewN nq
      have hb' : Hid (Blk (w.drewN nq) g 186 #[.slice A q.length c, .int .i64 (at_ : Int), .int .i64 0]) := hb.out
      have hr' : Hid (Reads (w.drewN nq) 1 A q.length (cells8 q)) := hr.out
      generalize w.drewN nq = w2 at *
      have R := Lib.hid (refuse_first g _ _ w2 hb'.out)
      have hF := Lib.hid (hk.out w2 hb'.out hr'.out)
      clear g0 g1 g2 gf
      go_wp2_with (go_at_call 115; refine Calls.mono R.out ?_; rintro e w' ⟨rfl, rfl⟩)
      go_ret
      exact ⟨none, 0, [], rfl, fun h => absurd h (by omega), fun _ => rfl, ⟨Reads.nil_ _ _ _, fun _ => ⟨rfl, rfl⟩, Nat.le_refl _, fun _ e => by cases e⟩, hF.out.1, hK0.out.trans hF.out.2 (fun _ _ h => h)⟩
  · obtain rfl := hno (by omega)
    have hF := Lib.hid (Rd.stay hb hr hnil hA hc hat (show q.length < need + n by omega))
    clear hb hyes hno
    go_enter Tryd.func76, Tryd.ntmps76
    go_wp2_with fail
    go_ret
    exact ⟨none, 0, [], rfl, fun h => absurd h (by omega), fun _ => rfl, ⟨Reads.nil_ _ _ _, fun _ => ⟨rfl, rfl⟩, Nat.le_refl _, fun _ e => by cases e⟩, hF.out, Kept.refl _ w⟩

theorem _root_.Go.Proofs.YtgldkfaiofkhbaaDoor.Reader.Rd.keptOff {S : Nat → Prop} {w w' : World} {g need c : Nat} {q : Text} {A : Option Addr} (h : Rd w g q A c need) (hk : Kept S w w') (hg : ¬ S g) (hS : 0 < q.length → ∀ a, A = some a → ¬ S a.block) : Rd w' g q A c need := by
  obtain ⟨at_, why, hb, hr, h1⟩ := h
  exact ⟨at_, why, hb.kept hk hg, hr.kept0 hk (fun hp b o e => hS (by omega) _ e), h1⟩
theorem _root_.Go.Proofs.YtgldkfaiofkhbaaDoor.Reader.Rd.old {w : World} {g need c : Nat} {q : Text} {A : Option Addr} (h : Rd w g q A c need) : 0 < q.length → ∀ a, A = some a → a.block < w.heap.size := by
  obtain ⟨_, _, _, hr, _⟩ := h
  intro hp a e
  obtain ⟨b, o, e', hlt, _⟩ := hr.2 (by omega)
  rw [e] at e'
  injection e' with e'
  subst e'
  exact hlt
/-- A digest out of what Raw handed out. -/
def digP (p : Text) : Text := p ++ List.replicate (32 - p.length) 0
theorem digP_len (p : Text) (h : p.length ≤ 32) : (digP p).length = 32 := by simp [digP]; omega
theorem digP_cells (p : Text) (h : p.length ≤ 32) : (splice Z32.toList 0 (cells8 p)).toArray = (cells8 (digP p)).toArray := by
  congr 1
  apply List.ext_getElem?
  intro i
  rw [splice_get _ _ _ (by rw [cells8_len]; simp [Z32]; omega), if_neg (by omega), cells8_len]
  by_cases h1 : i < 0 + p.length
  · rw [if_pos h1, Nat.sub_zero]
    simp only [cells8, digP, List.map_append]
    rw [List.getElem?_append_left (by simp; omega)]
  · rw [if_neg h1]
    simp only [cells8, digP, List.map_append, List.map_replicate]
    rw [List.getElem?_append_right (by simp; omega), List.length_map, List.getElem?_replicate]
    by_cases h2 : i < 32
    · rw [if_pos (by omega)]
      have e : Z32.toList = List.replicate 32 (Value.int IntKind.u8 0) := by rfl
      rw [e, List.getElem?_replicate, if_pos h2]
      rfl
    · rw [if_neg (by omega), List.getElem?_eq_none (by simp [Z32]; omega)]
theorem digP_take (q : Text) (need : Nat) (h : need + 32 ≤ q.length) : digP ((q.drop need).take 32) = (q.drop need).take 32 := by
  have hl : ((q.drop need).take 32).length = 32 := by rw [List.length_take, List.length_drop]; omega
  simp [digP, hl]

theorem dig_size (x : Text) (hx : x.length = 32) : (Tryd.prog.info? 23).map (·.size) = some (cells8 x).toArray.size := size31.trans (congrArg some (by simp [cells8_len, hx]))
theorem dig_one (x : Text) : (cells8 x).toArray.all (fun v => v.oneCell') = true := by rw [List.all_toArray]; exact List.all_eq_true.2 (cells8_one x)
set_option maxRecDepth 100000 in
set_option maxHeartbeats 1000000 in
theorem digest_any (q : Text) (hq : q.length < 140737488355328) (g need : Nat) (A : Option Addr) (c : Nat) (w : World) (h : Rd w g q A c need) :
    Calls Tryd.prog 79 #[.pointer (some ⟨g, 0, none⟩)] w fun e w' => ∃ d : Text, e = .returned (.agg (cells8 d).toArray) ∧ d.length = 32 ∧ (need + 32 ≤ q.length → d = (q.drop need).take 32) ∧ Rd w' g q A c (need + 32) ∧ Kept (· = g) w w' := by
  obtain ⟨w0, hw0⟩ : ∃ w0, Hid (w0 = (w.alloc (.cells Z32 23)).alloc (.cells Z32 23)) := ⟨_, rfl⟩
  have hD : Hid (Blk w0 w.heap.size 23 Z32) := by show Blk _ _ _ _; rw [hw0.out]; exact (Blk.new w _ _).alloc _
  have hE : Hid (Blk w0 (w.heap.size + 1) 23 Z32) := by
    have := Blk.new (w.alloc (.cells Z32 23)) 23 Z32
    have e : (w.alloc (.cells Z32 23)).heap.size = w.heap.size + 1 := by simp
    rw [e] at this
    show Blk _ _ _ _; rw [hw0.out]
    exact this
  have hR : Hid (Rd w0 g q A c need) := by show Rd _ _ _ _ _ _; rw [hw0.out]; exact (h.alloc _).alloc _
  have hlt := Lib.hid h.lt
  have hold := Lib.hid h.old
  have hK0 : Hid (Kept (· = g) w w0) := by show Kept _ _ _; rw [hw0.out]; exact ((Kept.refl _ w).alloc _).alloc _
  replace hq := Lib.hid hq
  clear h
  go_enter Tryd.func79, Tryd.ntmps79
  go_wp2_with fail
  have hp32 : ∀ p : Text, (need + 32 ≤ q.length → p = (q.drop need).take 32) → (q.length < need + 32 → p = []) → p.length ≤ 32 := fun p h1 h2 => by
    by_cases hh : need + 32 ≤ q.length
    · rw [h1 hh, List.length_take]; omega
    · rw [h2 (by omega)]; simp
  replace hp32 := Lib.hid hp32
  have hsz : Hid (w0.heap.size = w.heap.size + 2) := by show _ = _; rw [hw0.out]; simp
  have hww : (w.alloc (.cells Z32 23)).alloc (.cells Z32 23) = w0 := hw0.out.symm
  unfold Z32 at hww
  rw [hww]
  clear hww hw0
  have hraw : Hid (∀ w', Rd w' g q A c need → Calls Tryd.prog 76 #[.pointer (some ⟨g, 0, none⟩), .int .i64 32] w' fun e w'' => ∃ A' c' p, e = .returned (.slice A' p.length c') ∧ (need + 32 ≤ q.length → p = (q.drop need).take 32) ∧ (q.length < need + 32 → p = []) ∧ Out w' w'' A' c' p ∧ Rd w'' g q A c (need + 32) ∧ Kept (· = g) w' w'') := fun w' h => raw_any q hq.out g need 32 (by omega) A c w' h
  have hid2 : Hid (g ≠ w.heap.size + 1) := by have := hlt.out; show _ ≠ _; omega
  have hid1 : Hid (g ≠ w.heap.size) := by have := hlt.out; show _ ≠ _; omega
  go_region_law (first
    | (go_simp; go_at_call 76; go_loud (refine (hraw.out w0.drew (hR.out.drewN 1)).mono ?_; rintro e w3 ⟨Ap, cp, p, rfl, hp1, hp2, hO3, hR3, hk3⟩; have hp := Lib.hid (hp32.out p hp1 hp2); have hcl : Hid ((cells8 p).length = Nat.min p.length 32) := (by show _ = min _ _; rw [cells8_len]; have := hp.out; omega); have hfit : Hid (0 + (cells8 p).length ≤ Z32.size) := (by show _ ≤ _; rw [cells8_len]; simp [Z32]; exact hp.out); have hpos : Hid (0 < (cells8 p).length → some (⟨w.heap.size + 1, 0, none⟩ : Addr) = some ⟨w.heap.size + 1, 0, none⟩ ∧ ∃ ad, Ap = some ad ∧ ∀ j v, (cells8 p)[j]? = some v → w3.cell? (ad.add j) = some v) := (fun h0 => ⟨rfl, by obtain ⟨b, o, e, _, hc⟩ := hO3.1.2 (by rw [cells8_len] at h0; omega); exact ⟨_, e, fun j v hv => by rw [add_at]; exact hc j v hv⟩⟩); have hE3 := Lib.hid ((Blk.drewN hE.out 1).kept hk3 (fun e => hid2.out e.symm)); have hD3 := Lib.hid ((Blk.drewN hD.out 1).kept hk3 (fun e => hid1.out e.symm)); have hK3 := Lib.hid ((hK0.out.drewN 1).trans hk3 (fun _ _ h => h)); replace hR3 := Lib.hid hR3; replace hp1 := Lib.hid hp1; clear hp2 hO3 hk3))
    | (refine step_copy_into (P := Tryd.prog) (w := w3) (o := ⟨some 7, _, _, _, _, _⟩) rfl (.tmp 4) (.tmp 6) 31 31 rfl 5 Tryd.underlying31 size8 (some ⟨w.heap.size + 1, 0, none⟩) Ap 32 32 p.length cp ?hd ?hs (w.heap.size + 1) 0 Z32 23 hE3.out (cells8 p) hcl.out hpos.out hfit.out (cells8_one p) w3 (Kept.refl _ w3) p.length (cells8_len p) ?_; (case hd => go_simp); (case hs => go_simp); intro w5 hb5 hk5; replace hb5 := hb5.out; rw [digP_cells p hp.out] at hb5; have hD5 := Lib.hid (hD3.out.kept hk5 (by omega)); have hR5 := Lib.hid (hR3.out.keptOff hk5 hid2.out (fun h0 a ea e => by have := hold.out h0 a ea; omega)); replace hb5 := Lib.hid hb5; replace hk5 := Lib.hid hk5))
  have hz := Lib.hid (dig_size (digP p) (digP_len p hp.out))
  have hz32 : Hid ((Z32 : Array Value).size = (cells8 (digP p)).toArray.size) := by show _ = _; simp [cells8_len, digP_len p hp.out, Z32]
  have ho := Lib.hid (dig_one (digP p))
  have hKK : Hid (Kept (· = g) w w5) := by
    show Kept _ _ _
    exact hK3.out.trans hk5.out (fun i h1 h2 => by omega)
  go_wp2_with (first
    | ((with_reducible change wpList _ _ _ ({ dst := some 8, op := _, type := _, pos := _, after := _, guard := _ } :: _) _ _); refine wpList_load_row (o := ⟨some 8, _, _, _, _, _⟩) rfl 23 (.tmp 3) rfl (w.heap.size + 1) rfl 23 (cells8 (digP p)).toArray (0, 0) _ hb5.out Tryd.underlying23 rfl hz.out ?_)
    | ((with_reducible change wpList _ _ _ ({ dst := none, op := Op.store 23 _ _, type := _, pos := _, after := _, guard := _ } :: _) _ _); refine wpList_store_row (o := ⟨none, _, _, _, _, _⟩) rfl 23 (.tmp 2) (.tmp 8) rfl w.heap.size (cells8 (digP p)).toArray rfl rfl 23 Z32 hD5.out hz.out hz32.out ho.out ?_))
  refine bodyPost_ret (results_cell_row rfl _ _ w.heap.size 23 (cells8 (digP p)).toArray (0, 0) _ rfl (setRow_heap _ _ _ _ _ _ hD5.out) Tryd.underlying23 rfl hz.out) rfl ?_
  have hS : Kept (· = w.heap.size) w5 (w5.setRow w.heap.size (cells8 (digP p)).toArray) := Bytes.Kept.setRow (S := (· = w.heap.size)) (Kept.refl _ w5) rfl _
  exact ⟨digP p, rfl, digP_len p hp.out, fun h => by rw [hp1.out h]; exact digP_take q need h, hR5.out.keptOff hS hid1.out (fun h0 a ea e => by have := hold.out h0 a ea; omega), hKK.out.trans hS (fun i h1 h2 => by omega)⟩
end Go.Proofs.YtgldkfaiofkhbaaDoor.Reader3

namespace Go.Proofs.YtgldkfaiofkhbaaDoor.ProofIdx
open Go Go.RowKit Go.Proofs.YtgldkfaiofkhbaaDoor Go.Proofs.YtgldkfaiofkhbaaDoor.Mem Go.Proofs.YtgldkfaiofkhbaaDoor.Sha Go.Proofs.YtgldkfaiofkhbaaDoor.Bytes Go.Proofs.YtgldkfaiofkhbaaDoor.Append Go.Proofs.YtgldkfaiofkhbaaDoor.Octet Go.Proofs.YtgldkfaiofkhbaaDoor.Octet2 Go.Proofs.YtgldkfaiofkhbaaDoor.HeadMem Go.Proofs.YtgldkfaiofkhbaaDoor.ProofBeside Go.Proofs.YtgldkfaiofkhbaaDoor.ProofEnc Go.Proofs.YtgldkfaiofkhbaaDoor.QuietTail Go.Proofs.YtgldkfaiofkhbaaDoor.Grown

def okc (x : UInt8) : Bool := decide (97 ≤ x.toNat ∧ x.toNat ≤ 122 ∨ 48 ≤ x.toNat ∧ x.toNat ≤ 57 ∨ x.toNat = 45)
def legalB (l : List UInt8) : Bool := decide (0 < l.length ∧ l.length ≤ 64) && l.all okc
def namedB (l : List UInt8) : Bool := decide (l.length ≤ 64) && l.all okc

theorem legal_step {l : List UInt8} {k : Nat} (h : k < l.length) (h1 : (l.take k).all okc = true) (h2 : okc l[k] = true) : (l.take (k + 1)).all okc = true := by
  rw [List.take_succ_eq_append_getElem h, List.all_append, h1]
  simp [h2]
theorem legal_stop {l : List UInt8} {k : Nat} (h : k < l.length) (h2 : okc l[k] = false) : l.all okc = false := by
  rw [List.all_eq_false]
  exact ⟨l[k], List.getElem_mem h, by rw [h2]; decide⟩

set_option maxRecDepth 100000 in
set_option maxHeartbeats 1000000 in
theorem legal_any (s : ByteArray) (hs : s.size ≤ 140737488355328) (w : World) :
    Calls Tryd.prog 163 #[.string s, .int .i64 64] w fun e w' => e = .returned (.bool (legalB s.data.toList)) ∧ w = w' := by
  have hsl : Hid (s.data.toList.length = s.size) := by show _ = _; simp
  by_cases h0 : s.size = 0
  · have hF : Hid (legalB s.data.toList = false) := by show _ = _; unfold legalB; rw [hsl.out, h0]; simp
    have y1 : ((s.size : Int) == 0) = true := by simp [h0]
    clear h0 hs hsl
    go_enter Tryd.func163, Tryd.ntmps163
    go_wp2_with fail
    go_ret
    exact ⟨by show Ending.returned (.bool false) = _; rw [hF.out], rfl⟩
  · by_cases h64 : 64 < s.size
    · have hF : Hid (legalB s.data.toList = false) := by show _ = _; unfold legalB; rw [hsl.out, decide_eq_false (by omega)]; rfl
      have y1 : ((s.size : Int) == 0) = false := beq_eq_false_iff_ne.2 (by omega)
      have y2 : (64 : Int) < (s.size : Int) := by omega
      clear h0 hs hsl h64
      go_enter Tryd.func163, Tryd.ntmps163
      go_wp2_with fail
      go_ret
      exact ⟨by show Ending.returned (.bool false) = _; rw [hF.out], rfl⟩
    · have y1 : ((s.size : Int) == 0) = false := beq_eq_false_iff_ne.2 (by omega)
      have y2 : decide ((64 : Int) < (s.size : Int)) = false := decide_eq_false (by omega)
      have hL : Hid (decide (0 < s.data.toList.length ∧ s.data.toList.length ≤ 64) = true) := by show _ = _; rw [hsl.out]; exact decide_eq_true (by omega)
      have hs64 : (s.size : Int) ≤ 64 := by omega
      clear h0 hs h64
      go_enter Tryd.func163, Tryd.ntmps163
      go_wp2_with fail
      clear y1 y2
      go_loop [18] (fun v => ∃ k : Nat, v = .int .i64 (k : Int) ∧ k ≤ s.size ∧ Hid ((s.data.toList.take k).all okc = true)) (fun v => s.size - (intOf v).toNat)
      case atStart => exact ⟨0, rfl, Nat.zero_le _, by show _ = _; simp⟩
      case round =>
        obtain ⟨k, rfl, hk, hA⟩ := hrel
        by_cases hlt : k < s.size
        · have hb : Hid (s.data.toList[k]'(by rw [hsl.out]; exact hlt) = s[k]) := rfl
          by_cases hc : okc s[k] = true
          · have hN : Hid ((s.data.toList.take (k + 1)).all okc = true) := legal_step (by rw [hsl.out]; exact hlt) hA.out (by rw [hb.out]; exact hc)
            have hcase : (97 ≤ s[k].toNat ∧ s[k].toNat ≤ 122) ∨ (48 ≤ s[k].toNat ∧ s[k].toNat ≤ 57) ∨ s[k].toNat = 45 := by simpa [okc] using hc
            clear hc hb hA
            rcases hcase with ⟨a, b⟩ | ⟨a, b⟩ | a
            · have y1 : decide ((s[k].toNat : Int) < 97) = false := decide_eq_false (by omega)
              have y2 : decide ((122 : Int) < (s[k].toNat : Int)) = false := decide_eq_false (by omega)
              clear a b
              go_wp2_with fail
              go_round
              case rel => exact ⟨k + 1, by go_num, by omega, hN.out⟩
              case measure => simp [intOf]; omega
            · have y1 : decide ((s[k].toNat : Int) < 97) = true := decide_eq_true (by omega)
              have y2 : decide ((s[k].toNat : Int) < 48) = false := decide_eq_false (by omega)
              have y3 : decide ((57 : Int) < (s[k].toNat : Int)) = false := decide_eq_false (by omega)
              clear a b
              go_wp2_with fail
              go_round
              case rel => exact ⟨k + 1, by go_num, by omega, hN.out⟩
              case measure => simp [intOf]; omega
            · have y1 : decide ((s[k].toNat : Int) < 97) = true := decide_eq_true (by omega)
              have y2 : decide ((s[k].toNat : Int) < 48) = true := decide_eq_true (by omega)
              have y3 : ((s[k].toNat : Int) != 45) = false := bne_eq_false_iff_eq.2 (by omega)
              have y4 : ((s[k].toNat : Int) == 45) = true := beq_iff_eq.2 (by omega)
              clear a
              go_wp2_with fail
              go_round
              case rel => exact ⟨k + 1, by go_num, by omega, hN.out⟩
              case measure => simp [intOf]; omega
          · replace hc : okc s[k] = false := by simpa using hc
            have hF : Hid (legalB s.data.toList = false) := by show _ = _; unfold legalB; rw [legal_stop (k := k) (by rw [hsl.out]; exact hlt) (by rw [hb.out]; exact hc), Bool.and_false]
            have hcase : s[k].toNat < 45 ∨ (45 < s[k].toNat ∧ s[k].toNat < 48) ∨ (57 < s[k].toNat ∧ s[k].toNat < 97) ∨ 122 < s[k].toNat := by
              have := of_decide_eq_false hc
              omega
            clear hc hb hA
            rcases hcase with a | ⟨a, b⟩ | ⟨a, b⟩ | a
            · have y1 : decide ((s[k].toNat : Int) < 97) = true := decide_eq_true (by omega)
              have y2 : decide ((s[k].toNat : Int) < 48) = true := decide_eq_true (by omega)
              have y3 : ((s[k].toNat : Int) != 45) = true := bne_iff_ne.2 (by omega)
              have y4 : ((s[k].toNat : Int) == 45) = false := beq_eq_false_iff_ne.2 (by omega)
              clear a
              go_wp2_with fail
              go_ret
              exact ⟨by show Ending.returned (.bool false) = _; rw [hF.out], rfl⟩
            · have y1 : decide ((s[k].toNat : Int) < 97) = true := decide_eq_true (by omega)
              have y2 : decide ((s[k].toNat : Int) < 48) = true := decide_eq_true (by omega)
              have y3 : ((s[k].toNat : Int) != 45) = true := bne_iff_ne.2 (by omega)
              have y4 : ((s[k].toNat : Int) == 45) = false := beq_eq_false_iff_ne.2 (by omega)
              clear a b
              go_wp2_with fail
              go_ret
              exact ⟨by show Ending.returned (.bool false) = _; rw [hF.out], rfl⟩
            · have y1 : decide ((s[k].toNat : Int) < 97) = true := decide_eq_true (by omega)
              have y2 : decide ((s[k].toNat : Int) < 48) = false := decide_eq_false (by omega)
              have y3 : ((s[k].toNat : Int) != 45) = true := bne_iff_ne.2 (by omega)
              have y4 : ((s[k].toNat : Int) == 45) = false := beq_eq_false_iff_ne.2 (by omega)
              have y5 : decide ((57 : Int) < (s[k].toNat : Int)) = true := decide_eq_true (by omega)
              clear a b
              go_wp2_with fail
              go_ret
              exact ⟨by show Ending.returned (.bool false) = _; rw [hF.out], rfl⟩
            · have y1 : decide ((s[k].toNat : Int) < 97) = false := decide_eq_false (by omega)
              have y2 : decide ((s[k].toNat : Int) < 48) = false := decide_eq_false (by omega)
              have y3 : ((s[k].toNat : Int) != 45) = true := bne_iff_ne.2 (by omega)
              have y4 : ((s[k].toNat : Int) == 45) = false := beq_eq_false_iff_ne.2 (by omega)
              have y5 : decide ((57 : Int) < (s[k].toNat : Int)) = true := decide_eq_true (by omega)
              have y6 : decide ((122 : Int) < (s[k].toNat : Int)) = true := decide_eq_true (by omega)
              clear a
              go_wp2_with fail
              go_ret
              exact ⟨by show Ending.returned (.bool false) = _; rw [hF.out], rfl⟩
        · have hF : Hid (legalB s.data.toList = true) := by
            have := hA.out
            rw [List.take_of_length_le (by rw [hsl.out]; omega)] at this
            show _ = _
            unfold legalB
            rw [hL.out, this]
            rfl
          have hge : (s.size : Int) ≤ (k : Int) := by omega
          go_wp2_with fail
          go_ret
          exact ⟨by show Ending.returned (.bool true) = _; rw [hF.out], rfl⟩

theorem loop_len (s : ByteArray) : ∀ (n i : Nat) (r : List UInt8), s.size - i = n → (ByteArray.toList.loop s i r).length = r.length + n
  | 0, i, r, h => by
    unfold ByteArray.toList.loop
    rw [if_neg (by omega)]
    simp
  | n + 1, i, r, h => by
    unfold ByteArray.toList.loop
    rw [if_pos (by omega), loop_len s n (i + 1) _ (by omega)]
    simp
    omega
theorem isEmpty_size (s : ByteArray) : s.toList.isEmpty = decide (s.size = 0) := by
  have h : s.toList.length = s.size := by
    unfold ByteArray.toList
    rw [loop_len s s.size 0 [] rfl]
    simp
  rw [← h]
  cases s.toList <;> simp

set_option maxRecDepth 100000 in
set_option maxHeartbeats 1000000 in
theorem named_any (s : ByteArray) (hs : s.size ≤ 140737488355328) (w : World) :
    Calls Tryd.prog 118 #[.string s] w fun e w' => e = .returned (.bool (namedB s.data.toList)) ∧ w = w' := by
  have hsl : s.data.toList.length = s.size := by simp
  by_cases h0 : s.size = 0
  · have hF : Hid (namedB s.data.toList = true) := by
      show _ = _
      rw [h0] at hsl
      rw [List.eq_nil_of_length_eq_zero hsl]
      rfl
    have y1 : s.toList.isEmpty = true := by rw [isEmpty_size]; exact decide_eq_true h0
    clear hs hsl h0
    go_enter Tryd.func118, Tryd.ntmps118
    go_wp2_with fail
    go_ret
    exact ⟨by show Ending.returned (.bool true) = _; rw [hF.out], rfl⟩
  · have hF : Hid (legalB s.data.toList = namedB s.data.toList) := by
      show _ = _
      unfold legalB namedB
      congr 1
      rw [decide_eq_decide]
      omega
    have y1 : s.toList.isEmpty = false := by rw [isEmpty_size]; exact decide_eq_false h0
    replace hs := Lib.hid hs
    clear h0 hsl
    go_enter Tryd.func118, Tryd.ntmps118
    go_wp2_with (go_at_call 163; refine (legal_any s hs.out _).mono ?_; rw [hF.out]; rintro e w1 ⟨rfl, rfl⟩)
    go_ret
    exact ⟨rfl, rfl⟩

/-- How many bits of a digest are set. -/
def onesOf (d : Text) : Nat := (d.map fun b => Lib.onesCount b.toNat).sum
theorem onesOf_step (d : Text) (k : Nat) (x : BitVec 8) (h : d[k]? = some x) : onesOf (d.take (k + 1)) = onesOf (d.take k) + Lib.onesCount x.toNat := by
  unfold onesOf
  rw [List.take_add_one, h]
  simp
theorem onesCount_le (x : BitVec 8) : Lib.onesCount x.toNat ≤ 8 := Lib.onesCount_le8 ⟨x.toNat, x.isLt⟩
theorem onesOf_le : ∀ d : Text, onesOf d ≤ 8 * d.length
  | [] => by simp [onesOf]
  | x :: d => by
    have h1 := onesOf_le d
    have h2 := onesCount_le x
    unfold onesOf at h1 ⊢
    simp only [List.map_cons, List.sum_cons, List.length_cons]
    omega

set_option maxRecDepth 100000 in
set_option maxHeartbeats 1000000 in
theorem ones_any (d : Text) (hd : d.length = 32) (w : World) :
    Calls Tryd.prog 80 #[.agg (cells8 d).toArray] w fun e w' => e = .returned (.int .i64 (onesOf d : Nat)) ∧ Below w.heap.size w w' := by
  have hb0 : Hid (Below w.heap.size w (w.alloc (.cells (cells8 d).toArray 23))) := Below.heap_below w _
  have hB0 : Hid (Blk (w.alloc (.cells (cells8 d).toArray 23)) w.heap.size 23 (cells8 d).toArray) := Blk.new w _ _
  have hsz : Hid ((Tryd.prog.info? 23).map (·.size) = some (cells8 d).toArray.size) := by show _ = _; rw [List.size_toArray, cells8_len, hd]; exact size32
  replace hd := Lib.hid hd
  obtain ⟨cs, hcs⟩ : ∃ cs, Hid ((cells8 d).toArray = cs) := ⟨_, Lib.hid rfl⟩
  rw [hcs.out] at hB0 hb0 hsz ⊢
  have hX : Hid (∀ (k : Nat) (x : BitVec 8), d[k]? = some x → k < 32 → ∀ w, (Instr.index 23 (.agg cs) (.int .i64 (k : Int))).run Tryd.prog w = .ok (.int .u8 (b8 x)) w) := fun k x h hk w =>
    run_index_agg cs .i64 (k : Int) (.int .u8 (b8 x)) Tryd.underlying23 (fun _ => rfl) (run_isAgg_int Tryd.underlying5) (by omega) (by omega) (by rw [← hcs.out, List.getElem?_toArray]; show (cells8 d)[k]? = _; unfold cells8; rw [List.getElem?_map, h]; rfl) w
  go_enter Tryd.func80, Tryd.ntmps80
  go_wp2_with ((with_reducible change wpList _ _ _ ({ dst := some 6, op := _, type := _, pos := _, after := _, guard := _ } :: _) _ _); refine wpList_load_row (o := ⟨some 6, _, _, _, _, _⟩) rfl 23 (.tmp 1) rfl w.heap.size rfl 23 cs (0, 0) _ hB0.out Tryd.underlying23 rfl hsz.out ?_)
  go_loop [3, 7] (fun n v => ∃ k : Nat, v = .int .i64 (k : Int) ∧ n = .int .i64 (onesOf (d.take k) : Nat) ∧ k ≤ 32) (fun _ v => 32 - (intOf v).toNat)
  case atStart => exact ⟨0, rfl, rfl, by omega⟩
  case round =>
    obtain ⟨k, rfl, rfl, hk⟩ := hrel
    by_cases hlt : k < 32
    · obtain ⟨x, hx⟩ : ∃ x, Hid (d[k]? = some x) := ⟨_, List.getElem?_eq_getElem (by rw [hd.out]; exact hlt)⟩
      have hi := hX.out k x hx.out hlt
      have hst := Lib.hid (onesOf_step d k x hx.out)
      have hb := onesOf_le (d.take k)
      have hc := onesCount_le x
      rw [List.length_take, hd.out] at hb
      obtain ⟨N, hN⟩ : ∃ N, Hid (onesOf (d.take k) = N) := ⟨_, Lib.hid rfl⟩
      rw [hN.out] at hb hst
      rw [hN.out]
      have hN256 : (N : Int) ≤ 256 := by omega
      have hx0 := b8_nonneg x
      have hx1 := b8_lt x
      have hM : Hid ((b8 x).toNat = x.toNat) := by show _ = _; unfold b8; simp
      obtain ⟨M, hM2⟩ : ∃ M, Hid (Lib.onesCount x.toNat = M) := ⟨_, Lib.hid rfl⟩
      rw [hM2.out] at hc hst
      have hM8 : (M : Int) ≤ 8 := by omega
      have hz : (k : Int) < 32 := by omega
      have hz0 : (0 : Int) ≤ (k : Int) := by omega
      have hk1 : Hid (k + 1 ≤ 32) := by show _ ≤ _; omega
      clear hk hlt hX hc hB0 hsz hb
      go_wp2_with (go_at_call 121; refine (Tryd.bits_OnesCount8 (b8 x) _ hx0 (by omega)).mono ?_; rw [hM.out, hM2.out]; rintro e w1 ⟨rfl, rfl⟩)
      go_round
      case rel => exact ⟨k + 1, by go_num, by rw [hst.out]; go_num, hk1.out⟩
      case measure => (have := hk1.out; simp [intOf]; omega)
    · have hT : Hid (onesOf (d.take k) = onesOf d) := by show _ = _; rw [List.take_of_length_le (by rw [hd.out]; omega)]
      have hk32 : (32 : Int) ≤ (k : Int) := by omega
      rw [hT.out]
      go_wp2_with fail
      go_ret
      exact ⟨rfl, hb0.out⟩
end Go.Proofs.YtgldkfaiofkhbaaDoor.ProofIdx

namespace Go.Proofs.YtgldkfaiofkhbaaDoor.ProofIdx2
open Go Go.RowKit Go.Proofs.YtgldkfaiofkhbaaDoor Go.Proofs.YtgldkfaiofkhbaaDoor.Mem Go.Proofs.YtgldkfaiofkhbaaDoor.Sha Go.Proofs.YtgldkfaiofkhbaaDoor.Bytes Go.Proofs.YtgldkfaiofkhbaaDoor.Append Go.Proofs.YtgldkfaiofkhbaaDoor.Octet Go.Proofs.YtgldkfaiofkhbaaDoor.Octet2 Go.Proofs.YtgldkfaiofkhbaaDoor.HeadMem Go.Proofs.YtgldkfaiofkhbaaDoor.ProofBeside Go.Proofs.YtgldkfaiofkhbaaDoor.ProofEnc Go.Proofs.YtgldkfaiofkhbaaDoor.ProofIdx

/-- A string's bytes. -/
def nm (s : ByteArray) : Text := s.data.toList.map fun b => b.toBitVec
theorem nm_len (t : ByteArray) : (nm t).length = t.size := by simp [nm]
theorem bytesRow_reads {W : World} {g C : Nat} {T : TypeId} {fz : Nat × Nat} {t : ByteArray} (h : W.heap[g]? = some (.cells (bytesRow t C) T fz)) : Reads W 1 (some ⟨g, 0, none⟩) (nm t).length (cells8 (nm t)) := by
  refine ⟨by rw [cells8_len, Nat.mul_one], fun _ => ⟨g, 0, rfl, (Array.getElem?_eq_some_iff.1 h).1, fun j u hu => ?_⟩⟩
  have hj : j < t.size := by
    have := (List.getElem?_eq_some_iff.1 hu).1
    rwa [cells8_len, nm_len] at this
  rw [Nat.zero_add, cell_of_row _ _ _ _ _ _ h, ← hu]
  unfold bytesRow cells8 nm
  have hd : j < t.data.size := hj
  rw [Array.getElem?_append_left (by simpa using hd)]
  simp
  have hb : (fun b : UInt8 => Value.int .u8 (b.toNat : Int)) = (cell8 ∘ fun b : UInt8 => b.toBitVec) := rfl
  rw [hb]

section
variable {w0 w : World} {g : Nat} {r : Option Nat} {l : Text}
/-- A string's bytes laid down: the string's copy and the row of one slice were made just now. -/
theorem raw_str (s : ByteArray) (C : Nat) (fr : Nat × Nat) {w1 W : World} (T1 T2 : TypeId) (hW : ((w1.alloc (.cells (bytesRow s C) T1 fr)).alloc (.cells #[.slice (some ⟨w1.heap.size, 0, none⟩) s.size C] T2)).drew = W) (hl : l.length + s.size ≤ 140737488355328) (hWr : Wrote w0 g r l w1) :
    Calls Tryd.prog 119 #[.pointer (some ⟨g, 0, none⟩), .slice (some ⟨w1.heap.size + 1, 0, none⟩) 1 1] W fun e w' => e = .returned (.tuple #[]) ∧ Wrote w0 g r (l ++ nm s) w' := by
  subst hW
  have hW2 : Wrote w0 g r l (((w1.alloc (.cells (bytesRow s C) T1 fr)).alloc (.cells #[.slice (some ⟨w1.heap.size, 0, none⟩) s.size C] T2)).drew) := ((hWr.alloc _).alloc _).drew
  obtain ⟨r0, h0, k0, c0⟩ := hWr
  have hg := h0.lt
  have hr0 : ∀ k, r0 = some k → k < w1.heap.size := by
    obtain ⟨v, _, _, _, h⟩ := h0
    exact fun k e => (h k e).2
  have hsz : (w1.alloc (.cells (bytesRow s C) T1 fr)).heap.size = w1.heap.size + 1 := by simp
  have b1 : (((w1.alloc (.cells (bytesRow s C) T1 fr)).alloc (.cells #[.slice (some ⟨w1.heap.size, 0, none⟩) s.size C] T2)).drew).heap[w1.heap.size]? = some (.cells (bytesRow s C) T1 fr) := by
    show ((w1.alloc (.cells (bytesRow s C) T1 fr)).alloc _).heap[w1.heap.size]? = _
    rw [Below.heap_alloc _ _ _ (by rw [hsz]; omega)]
    exact heap_alloc_new w1 _
  have b2 : Blk (((w1.alloc (.cells (bytesRow s C) T1 fr)).alloc (.cells #[.slice (some ⟨w1.heap.size, 0, none⟩) s.size C] T2)).drew) (w1.heap.size + 1) T2 #[.slice (some ⟨w1.heap.size, 0, none⟩) s.size C] := by
    have := Blk.new (w1.alloc (.cells (bytesRow s C) T1 fr)) T2 #[.slice (some ⟨w1.heap.size, 0, none⟩) s.size C]
    rw [hsz] at this
    exact this.drew
  have h3 : WrAt (((w1.alloc (.cells (bytesRow s C) T1 fr)).alloc (.cells #[.slice (some ⟨w1.heap.size, 0, none⟩) s.size C] T2)).drew) g r0 l := ((h0.alloc _).alloc _).drew
  have k3 : Kept (fun k => k = g ∨ some k = r) w0 (((w1.alloc (.cells (bytesRow s C) T1 fr)).alloc (.cells #[.slice (some ⟨w1.heap.size, 0, none⟩) s.size C] T2)).drew) := ((k0.alloc _).alloc _).drew
  generalize (((w1.alloc (.cells (bytesRow s C) T1 fr)).alloc (.cells #[.slice (some ⟨w1.heap.size, 0, none⟩) s.size C] T2)).drew) = W at *
  refine (raw_any g r0 l [nm s] 1 rfl (some ⟨w1.heap.size + 1, 0, none⟩) 1 W (by simp [nm_len]; omega) (by omega) h3 (fun _ => ⟨w1.heap.size + 1, 0, rfl, b2.lt, by omega, (fun e => by have := hr0 _ e.symm; omega), fun i q hq => ?_⟩)).mono fun e w' ⟨he, hx⟩ => ⟨he, ?_⟩
  · match i, hq with
    | 0, hq =>
      obtain rfl := Option.some.inj hq
      refine ⟨some ⟨w1.heap.size, 0, none⟩, C, (b2.cell 0).trans (by rw [nm_len]; rfl), bytesRow_reads b1, (fun h => by cases h), fun _ a e => ?_⟩
      obtain rfl := Option.some.inj e
      exact ⟨fun e => by simp at e; omega, fun e => by have := hr0 _ e.symm; simp at this⟩
    | i + 1, hq => simp at hq
  · have := Wrote.trans1 k3 c0 hx
    simpa using this

set_option maxRecDepth 100000 in
set_option maxHeartbeats 1000000 in
theorem name_from (s : ByteArray) (hs : s.size ≤ 64) (hl : l.length + 1 + s.size ≤ 140737488355328) (hW : Wrote w0 g r l w) :
    Calls Tryd.prog 73 #[.pointer (some ⟨g, 0, none⟩), .string s] w fun e w' => e = .returned (.tuple #[]) ∧ Wrote w0 g r (l ++ [kb s.size] ++ nm s) w' := by
  have hs' : (s.size : Int) ≤ 64 := by omega
  have e256 : (s.size : Int) % 256 = (s.size : Int) := by omega
  have hk : Hid (b8 (kb s.size) = (s.size : Int)) := by
    show _ = _
    unfold b8 kb
    rw [BitVec.toNat_ofInt]
    omega
  have hcv : ∀ w', (convert 9 31 (.string s)).run Tryd.prog w' = .ok (.slice (some ⟨w'.heap.size, 0, none⟩) s.size (grownCap w' s.size 0 5)) (w'.drew.alloc (.cells (bytesRow s (grownCap w' s.size 0 5)) 5 ((bytesRow s (grownCap w' s.size 0 5)).size, (bytesRow s (grownCap w' s.size 0 5)).size + 1))) := fun w' => run_bytes_of_string w' _ _ _ s Tryd.underlying9 Tryd.underlying31 Tryd.underlying5
  replace hW := Lib.hid hW
  replace hl := Lib.hid hl
  replace hs := Lib.hid hs
  go_enter Tryd.func73, Tryd.ntmps73
  go_wp2_with (first
    | (go_at_call 58; refine (put1_from (s.size : Int) (kb s.size) hk.out (by have := hl.out; omega) hW.out).mono ?_; rintro e w1 ⟨rfl, hW1⟩; replace hW1 := Lib.hid hW1; clear hW)
    | (go_at_call 119; generalize hCg : grownCap _ s.size 0 5 = C; generalize hX : World.drew _ = X; refine (raw_str s C _ _ _ hX (by have := hl.out; simp; omega) hW1.out).mono ?_; rintro e w2 ⟨rfl, hW2⟩; replace hW2 := Lib.hid hW2; clear hX hCg))
  go_end0
  exact ⟨rfl, hW2.out⟩

end
end Go.Proofs.YtgldkfaiofkhbaaDoor.ProofIdx2

namespace Go.Proofs.YtgldkfaiofkhbaaDoor.ProofIdx2
open Go Go.RowKit Go.Proofs.YtgldkfaiofkhbaaDoor Go.Proofs.YtgldkfaiofkhbaaDoor.Mem Go.Proofs.YtgldkfaiofkhbaaDoor.Sha Go.Proofs.YtgldkfaiofkhbaaDoor.Bytes Go.Proofs.YtgldkfaiofkhbaaDoor.Append Go.Proofs.YtgldkfaiofkhbaaDoor.Octet Go.Proofs.YtgldkfaiofkhbaaDoor.Octet2 Go.Proofs.YtgldkfaiofkhbaaDoor.HeadMem Go.Proofs.YtgldkfaiofkhbaaDoor.ProofBeside Go.Proofs.YtgldkfaiofkhbaaDoor.ProofEnc Go.Proofs.YtgldkfaiofkhbaaDoor.ProofIdx
section
variable {w0 w : World} {g : Nat} {r : Option Nat} {l : Text}
set_option maxRecDepth 100000 in
set_option maxHeartbeats 1000000 in
theorem flag_from (b : Bool) (hl : l.length + 1 ≤ 140737488355328) (hW : Wrote w0 g r l w) :
    Calls Tryd.prog 74 #[.pointer (some ⟨g, 0, none⟩), .bool b] w fun e w' => e = .returned (.tuple #[]) ∧ Wrote w0 g r (l ++ [if b then 1 else 0]) w' := by
  replace hW := Lib.hid hW
  replace hl := Lib.hid hl
  cases b
  · go_enter Tryd.func74, Tryd.ntmps74
    go_wp2_with (go_at_call 58; refine (put1_from 0 0 rfl hl.out hW.out).mono ?_; rintro e w1 ⟨rfl, hW1⟩; replace hW1 := Lib.hid hW1; clear hW)
    go_end0
    exact ⟨rfl, hW1.out⟩
  · go_enter Tryd.func74, Tryd.ntmps74
    go_wp2_with (go_at_call 58; refine (put1_from 1 1 rfl hl.out hW.out).mono ?_; rintro e w1 ⟨rfl, hW1⟩; replace hW1 := Lib.hid hW1; clear hW)
    go_end0
    exact ⟨rfl, hW1.out⟩
end
end Go.Proofs.YtgldkfaiofkhbaaDoor.ProofIdx2

namespace Go.Proofs.YtgldkfaiofkhbaaDoor.ProofIdx3
open Go Go.RowKit Go.Proofs.YtgldkfaiofkhbaaDoor Go.Proofs.YtgldkfaiofkhbaaDoor.Mem Go.Proofs.YtgldkfaiofkhbaaDoor.Sha Go.Proofs.YtgldkfaiofkhbaaDoor.Bytes Go.Proofs.YtgldkfaiofkhbaaDoor.Append Go.Proofs.YtgldkfaiofkhbaaDoor.Octet Go.Proofs.YtgldkfaiofkhbaaDoor.Octet2 Go.Proofs.YtgldkfaiofkhbaaDoor.HeadMem Go.Proofs.YtgldkfaiofkhbaaDoor.ProofBeside Go.Proofs.YtgldkfaiofkhbaaDoor.ProofEnc Go.Proofs.YtgldkfaiofkhbaaDoor.ProofIdx Go.Proofs.YtgldkfaiofkhbaaDoor.ProofIdx2 Go.Proofs.YtgldkfaiofkhbaaDoor.QuietTail Go.Proofs.YtgldkfaiofkhbaaDoor.Grown

theorem wp_load_part {P : Program} {o : Oper} {a : Act} {w : World} {K : Act → World → Prop} {Q : Exit → Act → World → Prop} (ty : TypeId) (x : Operand) (ho : o.op = .load ty x)
    (g i : Nat) (hx : a.eval x = .pointer (some ⟨g, i, none⟩)) (xs : List Value) (d : TypeDesc) (hc : ∀ j v, xs[j]? = some v → w.cell? ⟨g, i + j, none⟩ = some v)
    (hu : P.underlying ty = some d) (hd : (match d with | .struct _ | .array _ _ => true | _ => false) = true) (hi : (P.info? ty).map (·.size) = some xs.length)
    (h : K (a.put o.dst (.agg xs.toArray)) w) : o.wp P a w K Q := by
  unfold Oper.wp execOp
  simp only [ho, hx, Instr.loadAt, Instr.sureAddr, Sem.run_bind, Sem.run_pure, Result.andThen_ok, run_loadVar_part w g i ty xs d hc hu hd hi]
  exact h

theorem wpList_load_part_g {P : Program} {ops : Array Oper} {rest : List Oper} {o : Oper} {a : Act} {w : World} {Q : Exit → Act → World → Prop} (hw : Region.wanted o (yielded ops a.tmps) = true) (ty : TypeId) (x : Operand) (ho : o.op = .load ty x)
    (g i : Nat) (hx : a.eval x = .pointer (some ⟨g, i, none⟩)) (xs : List Value) (d : TypeDesc) (hc : ∀ j v, xs[j]? = some v → w.cell? ⟨g, i + j, none⟩ = some v)
    (hu : P.underlying ty = some d) (hd : (match d with | .struct _ | .array _ _ => true | _ => false) = true) (hi : (P.info? ty).map (·.size) = some xs.length)
    (h : wpList P ops Q rest (a.put o.dst (.agg xs.toArray)) w) : wpList P ops Q (o :: rest) a w :=
  wpList_step fun K hK => by
    rw [if_pos hw]
    exact wp_load_part ty x ho g i hx xs d hc hu hd hi (hK _ _ h)

/-- What an index says of a name, as cells: the name, whether it is found, the entry, the bitmap, the way. -/
def idxCells (s : ByteArray) (f : Bool) (ent : List Value) (d : Text) (A : Option Addr) (n c : Nat) : List Value := [.string s, .bool f] ++ ent ++ cells8 d ++ [.slice A n c]
def z33 : List Value := .int .i64 0 :: cells8 (List.replicate 32 0)
theorem neq33 (w : World) : (binOp .neq 53 (.agg z33.toArray) (.agg #[.int .i64 0, .int .u8 0, .int .u8 0, .int .u8 0, .int .u8 0, .int .u8 0, .int .u8 0, .int .u8 0, .int .u8 0, .int .u8 0, .int .u8 0, .int .u8 0, .int .u8 0, .int .u8 0, .int .u8 0, .int .u8 0, .int .u8 0, .int .u8 0, .int .u8 0, .int .u8 0, .int .u8 0, .int .u8 0, .int .u8 0, .int .u8 0, .int .u8 0, .int .u8 0, .int .u8 0, .int .u8 0, .int .u8 0, .int .u8 0, .int .u8 0, .int .u8 0, .int .u8 0])).run Tryd.prog w = .ok (.bool false) w := by kernel_rfl
section
variable {s : ByteArray} {f : Bool} {ent : List Value} {d : Text} {A : Option Addr} {n c : Nat}
theorem idx_name : (idxCells s f ent d A n c)[0]? = some (.string s) := rfl
theorem idx_found : (idxCells s f ent d A n c)[1]? = some (.bool f) := rfl
theorem idx_ent (j : Nat) (v : Value) (hv : ent[j]? = some v) : (idxCells s f ent d A n c)[2 + j]? = some v := by
  have hj : j < ent.length := (List.getElem?_eq_some_iff.1 hv).1
  unfold idxCells
  rw [List.append_assoc, List.append_assoc, List.getElem?_append_right (by simp), List.getElem?_append_left (by simp; omega)]
  simpa using hv
theorem idx_bitmap (he : ent.length = 33) (j : Nat) (v : Value) (hv : (cells8 d)[j]? = some v) : (idxCells s f ent d A n c)[35 + j]? = some v := by
  have hj : j < (cells8 d).length := (List.getElem?_eq_some_iff.1 hv).1
  unfold idxCells
  rw [List.append_assoc, List.getElem?_append_right (by simp [he]), List.getElem?_append_left (by simp [he]; omega)]
  simpa [he] using hv
theorem idx_way (he : ent.length = 33) (hd : d.length = 32) : (idxCells s f ent d A n c)[67]? = some (.slice A n c) := by
  unfold idxCells
  rw [List.getElem?_append_right (by simp [he, cells8_len, hd])]
  simp [he, cells8_len, hd]
theorem idx_len (he : ent.length = 33) (hd : d.length = 32) : (idxCells s f ent d A n c).length = 68 := by simp [idxCells, he, cells8_len, hd]
end

set_option maxRecDepth 100000 in
set_option maxHeartbeats 1000000 in
theorem indexed_nf (s : ByteArray) (hs : s.size ≤ 140737488355328) (d : Text) (hd : d.length = 32) (A : Option Addr) (n c : Nat) (b1 b2 : Bool) (h1 : namedB s.data.toList = b1) (h2 : ((onesOf d : Int) == (n : Int)) = b2) (w : World) :
    Calls Tryd.prog 72 #[.agg (idxCells s false z33 d A n c).toArray] w fun e w' => e = .returned (.bool (b1 && b2)) ∧ Below w.heap.size w w' := by
  obtain ⟨cs, hcs⟩ : ∃ cs : Array Value, (idxCells s false z33 d A n c).toArray = cs := ⟨_, rfl⟩
  have i0 : cs[0]? = some (.string s) := by rw [← hcs, List.getElem?_toArray]; exact idx_name
  have i1 : cs[1]? = some (.bool false) := by rw [← hcs, List.getElem?_toArray]; exact idx_found
  have i2 : Hid (∀ j v, z33[j]? = some v → cs[2 + j]? = some v) := fun j v hv => by rw [← hcs, List.getElem?_toArray]; exact idx_ent j v hv
  have i3 : Hid (∀ j v, (cells8 d)[j]? = some v → cs[35 + j]? = some v) := fun j v hv => by rw [← hcs, List.getElem?_toArray]; exact idx_bitmap rfl j v hv
  have i4 : Hid (cs[67]? = some (.slice A n c)) := by show _ = _; rw [← hcs, List.getElem?_toArray]; exact idx_way rfl hd
  rw [hcs]
  clear hcs
  have hB0 : Hid (Blk (w.alloc (.cells cs 55)) w.heap.size 55 cs) := Blk.new w _ _
  have hb0 : Hid (Below w.heap.size w (w.alloc (.cells cs 55))) := Below.heap_below w _
  have e1 := (hB0.out.cell 1).trans i1
  have hn := neq33
  have sE : Hid ((Tryd.prog.info? 53).map (·.size) = some z33.length) := by show _ = _; kernel_rfl
  have sD : Hid ((Tryd.prog.info? 23).map (·.size) = some (cells8 d).length) := agg_hi size32 (by rw [cells8_len, hd])
  replace hs := Lib.hid hs
  replace hd := Lib.hid hd
  replace h1 := Lib.hid h1
  replace h2 := Lib.hid h2
  replace i0 := Lib.hid i0
  replace i1 := Lib.hid i1
  obtain ⟨Z, hZ⟩ : ∃ Z, Hid (z33.toArray = Z) := ⟨_, Lib.hid rfl⟩
  rw [hZ.out] at hn
  go_enter Tryd.func72, Tryd.ntmps72
  go_wp2_with ((with_reducible change wpList _ _ _ ({ dst := some 23, op := _, type := _, pos := _, after := _, guard := _ } :: _) _ _); refine wpList_load_part_g (o := ⟨some 23, _, _, _, _, _⟩) (by rfl) 53 (.tmp 22) rfl w.heap.size 2 rfl z33 _ (fun j v hv => (hB0.out.cell (2 + j)).trans (i2.out j v hv)) Tryd.underlying53 rfl sE.out ?_; rw [hZ.out])
  have hC : Hid (∀ w', Class (w.alloc (.cells cs 55)) w' → ∀ j v, cs[j]? = some v → w'.cell? ⟨w.heap.size, j, none⟩ = some v) := fun w' hw' j v hv => ((show Blk w' w.heap.size 55 cs from (hw'.below.block _ hB0.out.lt).trans hB0.out).cell j).trans hv
  cases b1
  · refine wp_region_class (Class (w.alloc (.cells cs 55))) (by kernel_rfl) (by kernel_rfl) (Class.mk_ ((Below.refl _ _).drew)) ?_
    refine wpQuiet_val (v := .pointer (some ⟨w.heap.size, 0, none⟩)) rfl (fun w' hw' => by go_simp) ?_
    (intro K hK; go_simp; refine hK _ ?_; clear hK K)
    refine wpQuiet_val (v := .string s) rfl (fun w' hw' => by have hc := hC.out w' hw' 0 _ i0.out; go_simp) ?_
    (intro K hK; go_simp; refine hK _ ?_; clear hK K)
    refine wpQuiet_fn (v := .bool false) (args := #[.string s]) rfl _ _ rfl rfl Tryd.func118 (by kernel_rfl) (by kernel_rfl) (fun w' hw' => (named_any s hs.out w').mono (fun e w'' ⟨he, hw⟩ => ⟨by rw [he, h1.out], by rw [← hw]; exact hw'⟩)) ?_
    (intro K hK; go_simp; refine hK _ ?_; clear hK K)
    refine wpQuiet_move rfl (.tmp 30) rfl ?_
    (intro K hK; go_simp; refine hK _ ?_; clear hK K)
    refine wpQuiet_skip_ rfl ?_
    (intro K hK; go_simp; refine hK _ ?_; clear hK K)
    refine wpQuiet_skip_ rfl ?_
    (intro K hK; go_simp; refine hK _ ?_; clear hK K)
    refine wpQuiet_skip_ rfl ?_
    (intro K hK; go_simp; refine hK _ ?_; clear hK K)
    refine wpQuiet_skip_ rfl ?_
    (intro K hK; go_simp; refine hK _ ?_; clear hK K)
    refine wpQuiet_skip_ rfl ?_
    (intro K hK; go_simp; refine hK _ ?_; clear hK K)
    refine wpQuiet_skip_ rfl ?_
    (intro K hK; go_simp; refine hK _ ?_; clear hK K)
    refine wpQuiet_skip_ rfl ?_
    (intro K hK; go_simp; refine hK _ ?_; clear hK K)
    refine wpQuiet_val (v := .bool false) rfl (fun w' hw' => by go_simp) ?_
    (intro K hK; go_simp; refine hK _ ?_; clear hK K)
    refine wpQuiet_val (v := .bool false) rfl (fun w' hw' => by go_simp) ?_
    (intro K hK; go_simp; refine hK _ ?_; clear hK K)
    refine wpQuiet_nil ?_
    intro w' hw'
    have hb1 : Hid (Below w.heap.size w w') := hb0.out.trans (hw'.below.mono hb0.out.size)
    go_wp2_with fail
    go_ret
    exact ⟨rfl, hb1.out⟩
  · refine wp_region_class (Class (w.alloc (.cells cs 55))) (by kernel_rfl) (by kernel_rfl) (Class.mk_ ((Below.refl _ _).drew)) ?_
    refine wpQuiet_val (v := .pointer (some ⟨w.heap.size, 0, none⟩)) rfl (fun w' hw' => by go_simp) ?_
    (intro K hK; go_simp; refine hK _ ?_; clear hK K)
    refine wpQuiet_val (v := .string s) rfl (fun w' hw' => by have hc := hC.out w' hw' 0 _ i0.out; go_simp) ?_
    (intro K hK; go_simp; refine hK _ ?_; clear hK K)
    refine wpQuiet_fn (v := .bool true) (args := #[.string s]) rfl _ _ rfl rfl Tryd.func118 (by kernel_rfl) (by kernel_rfl) (fun w' hw' => (named_any s hs.out w').mono (fun e w'' ⟨he, hw⟩ => ⟨by rw [he, h1.out], by rw [← hw]; exact hw'⟩)) ?_
    (intro K hK; go_simp; refine hK _ ?_; clear hK K)
    refine wpQuiet_move rfl (.tmp 30) rfl ?_
    (intro K hK; go_simp; refine hK _ ?_; clear hK K)
    refine wpQuiet_val (v := .pointer (some ⟨w.heap.size, 35, none⟩)) rfl (fun w' hw' => by go_simp) ?_
    (intro K hK; go_simp; refine hK _ ?_; clear hK K)
    refine wpQuiet_load_part rfl 23 (.tmp 32) rfl w.heap.size 35 rfl (cells8 d) _ (fun w' hw' j v hv => hC.out w' hw' (35 + j) v (i3.out j v hv)) Tryd.underlying23 rfl sD.out ?_
    (intro K hK; go_simp; refine hK _ ?_; clear hK K)
    refine wpQuiet_fn (v := .int .i64 (onesOf d : Nat)) (args := #[.agg (cells8 d).toArray]) rfl _ _ rfl rfl Tryd.func80 (by kernel_rfl) (by kernel_rfl) (fun w' hw' => (ones_any d hd.out w').mono (fun e w'' ⟨he, hb⟩ => ⟨he, hw'.next hb⟩)) ?_
    (intro K hK; go_simp; refine hK _ ?_; clear hK K)
    refine wpQuiet_val (v := .pointer (some ⟨w.heap.size, 67, none⟩)) rfl (fun w' hw' => by go_simp) ?_
    (intro K hK; go_simp; refine hK _ ?_; clear hK K)
    refine wpQuiet_val (v := .slice A n c) rfl (fun w' hw' => by have hc := hC.out w' hw' 67 _ i4.out; go_simp) ?_
    (intro K hK; go_simp; refine hK _ ?_; clear hK K)
    refine wpQuiet_val (v := .int .i64 (n : Int)) rfl (fun w' hw' => by go_simp) ?_
    (intro K hK; go_simp; refine hK _ ?_; clear hK K)
    refine wpQuiet_val (v := .bool b2) rfl (fun w' hw' => by have hc := h2.out; go_simp) ?_
    (intro K hK; go_simp; refine hK _ ?_; clear hK K)
    refine wpQuiet_val (v := .bool b2) rfl (fun w' hw' => by go_simp) ?_
    (intro K hK; go_simp; refine hK _ ?_; clear hK K)
    refine wpQuiet_val (v := .bool b2) rfl (fun w' hw' => by go_simp) ?_
    (intro K hK; go_simp; refine hK _ ?_; clear hK K)
    refine wpQuiet_nil ?_
    intro w' hw'
    have hb1 : Hid (Below w.heap.size w w') := hb0.out.trans (hw'.below.mono hb0.out.size)
    go_wp2_with fail
    go_ret
    exact ⟨rfl, hb1.out⟩
end Go.Proofs.YtgldkfaiofkhbaaDoor.ProofIdx3

namespace Go.Proofs.YtgldkfaiofkhbaaDoor.ProofIdx4
open Go Go.RowKit Go.Proofs.YtgldkfaiofkhbaaDoor Go.Proofs.YtgldkfaiofkhbaaDoor.Mem Go.Proofs.YtgldkfaiofkhbaaDoor.Sha Go.Proofs.YtgldkfaiofkhbaaDoor.Bytes Go.Proofs.YtgldkfaiofkhbaaDoor.Append Go.Proofs.YtgldkfaiofkhbaaDoor.Octet Go.Proofs.YtgldkfaiofkhbaaDoor.Octet2 Go.Proofs.YtgldkfaiofkhbaaDoor.HeadMem Go.Proofs.YtgldkfaiofkhbaaDoor.ProofBeside Go.Proofs.YtgldkfaiofkhbaaDoor.ProofEnc Go.Proofs.YtgldkfaiofkhbaaDoor.ProofIdx Go.Proofs.YtgldkfaiofkhbaaDoor.ProofIdx2 Go.Proofs.YtgldkfaiofkhbaaDoor.ProofIdx3

/-- The bytes of what is said of a name that is not found. -/
def idxBytes (s : ByteArray) (d : Text) (ds : List Text) : Text := [50] ++ [kb s.size] ++ nm s ++ [0] ++ d ++ ds.flatten

set_option maxRecDepth 100000 in
set_option maxHeartbeats 1000000 in
theorem encodeIndexed_nf (s : ByteArray) (hs : s.size ≤ 64) (hnm : namedB s.data.toList = true) (d : Text) (hd : d.length = 32) (ds : List Text) (n : Nat) (hn : ds.length = n) (hds : ∀ d ∈ ds, d.length = 32) (hones : onesOf d = n) (A : Option Addr) (c : Nat) (w : World) (hr : Reads w 32 A n (ds.flatMap cells8)) :
    Calls Tryd.prog 27 #[.agg (idxCells s false z33 d A n c).toArray] w fun e w' => ∃ v, e = .returned (.tuple #[v, .int .i64 0]) ∧ Below w.heap.size w w' ∧ w'.ownsRow w.heap.size 5 1 v (35 + s.size + 32 * n) (cells8 (idxBytes s d ds)) := by
  have hT := Lib.hid (fun w' => indexed_nf s (by omega) d hd A n c true true hnm (by rw [hones]; simp) w')
  obtain ⟨cs, hcs⟩ : ∃ cs : Array Value, (idxCells s false z33 d A n c).toArray = cs := ⟨_, rfl⟩
  have i0 : Hid (cs[0]? = some (.string s)) := by show _ = _; rw [← hcs, List.getElem?_toArray]; exact idx_name
  have i1 : Hid (cs[1]? = some (.bool false)) := by show _ = _; rw [← hcs, List.getElem?_toArray]; exact idx_found
  have i3 : Hid (∀ j v, (cells8 d)[j]? = some v → cs[35 + j]? = some v) := fun j v hv => by rw [← hcs, List.getElem?_toArray]; exact idx_bitmap rfl j v hv
  have i4 : Hid (cs[67]? = some (.slice A n c)) := by show _ = _; rw [← hcs, List.getElem?_toArray]; exact idx_way rfl hd
  have sI : Hid ((Tryd.prog.info? 55).map (·.size) = some cs.size) := by show _ = _; rw [← hcs, List.size_toArray, idx_len rfl hd]; kernel_rfl
  rw [hcs] at hT ⊢
  clear hcs
  have hn256 : n ≤ 256 := by rw [← hones]; have := onesOf_le d; omega
  have hB0 : Hid (Blk (w.alloc (.cells cs 55)) w.heap.size 55 cs) := Blk.new w _ _
  have hb0 : Hid (Below w.heap.size w (w.alloc (.cells cs 55))) := Below.heap_below w _
  have hz0 : Hid ((w.alloc (.cells cs 55)).heap.size = w.heap.size + 1) := by show _ = _; simp
  have hR : Hid (∀ w', Below w.heap.size w w' → Reads w' 32 A n (ds.flatMap cells8)) := fun w' hb => hr.below hb
  have hA : Hid (∀ g, w.heap.size ≤ g → 0 < n → ∀ a, A = some a → a.block ≠ g ∧ some a.block ≠ none) := fun g hg h a e => by
    obtain ⟨b, o, e2, hb, _⟩ := hr.2 (by omega)
    rw [e] at e2
    injection e2 with e2
    subst e2
    exact ⟨by simp; omega, by simp⟩
  have sD : Hid ((Tryd.prog.info? 23).map (·.size) = some (cells8 d).length) := agg_hi size32 (by rw [cells8_len, hd])
  have q1 : Hid (∀ v ∈ [cells8 d], v.length = 32) := by intro v hv; simp only [List.mem_singleton] at hv; rw [hv, cells8_len, hd]
  have d1 : Hid (∀ x ∈ [d], x.length = 32) := by intro v hv; simp only [List.mem_singleton] at hv; rw [hv, hd]
  obtain ⟨X1, x1⟩ : ∃ X, Hid (X = ([cells8 d].flatten).toArray) := ⟨_, rfl⟩
  have hfin : Hid (([] : Text) ++ [50] ++ [kb s.size] ++ nm s ++ [if false = true then 1 else 0] ++ [d].flatten ++ ds.flatten = idxBytes s d ds) := by show _ = _; simp [idxBytes]
  have hlen : Hid ((idxBytes s d ds).length = 35 + s.size + 32 * n) := by show _ = _; simp only [idxBytes, List.length_append, List.length_cons, List.length_nil, nm_len, hd, flat32_len ds hds, hn]; omega
  have hnl := Lib.hid (nm_len s)
  replace hs := Lib.hid hs
  replace hn := Lib.hid hn
  replace hd := Lib.hid hd
  replace hds := Lib.hid hds
  replace hn256 := Lib.hid hn256
  clear hr hones hnm
  go_enter Tryd.func27, Tryd.ntmps27
  go_wp2_with (first
    | ((with_reducible change wpList _ _ _ ({ dst := some 5, op := _, type := _, pos := _, after := _, guard := _ } :: _) _ _); refine wpList_load_row (o := ⟨some 5, _, _, _, _, _⟩) rfl 55 (.tmp 1) rfl w.heap.size rfl 55 cs (0, 0) _ hB0.out Tryd.underlying55 rfl sI.out ?_)
    | (go_at_call 72; refine (hT.out _).mono ?_; rintro e w1 ⟨rfl, hb1⟩; rw [hz0.out] at hb1; have hB1 := (hb1.block w.heap.size (by omega)).trans hB0.out; have bb1 := hb0.out.trans (hb1.mono (by omega)); have hN := Lib.hid (WrAt.new w1).refl; have hR1 := Lib.hid ((hR.out w1 bb1).alloc (.cells #[.slice none 0 0] 171)); have hA1 := Lib.hid (hA.out w1.heap.size bb1.size); have hlt1 : w.heap.size < w1.heap.size := (by have := hb1.size; have := hz0.out; omega); have hBB : Hid (∀ w' l, Wrote (w1.alloc (.cells #[.slice none 0 0] 171)) w1.heap.size none l w' → ∀ j v, cs[j]? = some v → w'.cell? ⟨w.heap.size, j, none⟩ = some v) := (fun w' l h j v hv => ((h.blk (Blk.alloc hB1 _) (by omega) (by simp)).cell j).trans hv); have hbW : Hid (∀ w' l, Wrote (w1.alloc (.cells #[.slice none 0 0] 171)) w1.heap.size none l w' → Below w.heap.size w w') := (fun w' l h => (bb1.alloc bb1.size _).trans (h.below (fun _ e => by cases e) (B := w.heap.size) (by omega) (by simp; omega))); clear hb1 hB1 bb1 hlt1 hB0 hb0)
    | (go_at_call 57; refine (new_any _).mono ?_; rintro e w1 ⟨rfl, rfl⟩)
    | (go_at_call 58; refine (put1_from 50 50 rfl (by simp) hN.out).mono ?_; rintro e w2 ⟨rfl, hW2⟩; have e2 := hBB.out w2 _ hW2 0 _ i0.out; replace hW2 := Lib.hid hW2; clear hN)
    | (go_at_call 73; refine (name_from s hs.out (by have := hs.out; simp; omega) hW2.out).mono ?_; rintro e w3 ⟨rfl, hW3⟩; have e3 := hBB.out w3 _ hW3 1 _ i1.out; replace hW3 := Lib.hid hW3; clear hW2 e2)
    | (go_at_call 74; refine (flag_from false (by have := hs.out; have := hnl.out; simp; omega) hW3.out).mono ?_; rintro e w4 ⟨rfl, hW4⟩; have e4 := hBB.out w4 _ hW4 1 _ i1.out; have f4 : Hid (∀ j v, (cells8 d)[j]? = some v → w4.cell? ⟨w.heap.size, 35 + j, none⟩ = some v) := (fun j v hv => hBB.out w4 _ hW4 (35 + j) v (i3.out j v hv)); replace hW4 := Lib.hid hW4; clear hW3 e3)
    | ((with_reducible change wpList _ _ _ ({ dst := some 32, op := _, type := _, pos := _, after := _, guard := _ } :: _) _ _); refine wpList_load_part (o := ⟨some 32, _, _, _, _, _⟩) rfl 23 (.tmp 31) rfl w.heap.size 35 rfl (cells8 d) _ f4.out Tryd.underlying23 rfl sD.out ?_)
    | ((with_reducible change wpList _ _ _ ({ dst := some 33, op := _, type := _, pos := _, after := _, guard := _ } :: _) _ _); refine wpList_buildAggs (o := ⟨some 33, _, _, _, _, _⟩) rfl 42 23 1 _ rfl 32 (by decide) [cells8 d] Tryd.underlying42 size32 zero32 rfl (by decide) (by decide) q1.out rfl ?_; rw [← x1.out])
    | (go_at_call 75; have tok := hW4; rw [show X1 = (([d].map cells8).flatten).toArray from x1.out]; refine (digests_new [d] 1 rfl d1.out (by have := hs.out; have := hnl.out; simp; omega) hW4.out).mono ?_; rintro e w5 ⟨rfl, hW5⟩; have e5 := hBB.out w5 _ hW5 67 _ i4.out; replace hW5 := Lib.hid hW5; clear tok hW4 e4 f4)
    | (go_at_call 75; refine (digests_old ds n hn.out hds.out A c (by have := hs.out; have := hnl.out; have := hn256.out; have := hd.out; simp; omega) hR1.out hA1.out hW5.out).mono ?_; rintro e w6 ⟨rfl, hW6⟩; rw [hfin.out] at hW6; have b6 := Lib.hid (hbW.out w6 _ hW6); obtain ⟨r6, hA6, -, -⟩ := hW6; replace hA6 := Lib.hid hA6; clear hW5 e5 hR1 hA1 hBB hbW)
    | (go_at_call 60; refine (all_any w1.heap.size r6 (idxBytes s d ds) w6 (by rw [hlen.out]; have := hs.out; have := hn256.out; omega) hA6.out).mono ?_; rintro e w7 ⟨v, rfl, hb7, ho7⟩; rw [hlen.out] at ho7; obtain ⟨Av, cv, rfl, -⟩ := Own.reads ho7; have bb7 : Hid (Below w.heap.size w w7) := b6.out.trans (hb7.mono b6.out.size); replace ho7 := Lib.hid ho7; clear hb7))
  go_ret2
  exact ⟨_, rfl, bb7.out, ownsRow_base ho7.out b6.out.size⟩
end Go.Proofs.YtgldkfaiofkhbaaDoor.ProofIdx4

namespace Go.Proofs.YtgldkfaiofkhbaaDoor.IdxAny
open Go Go.RowKit Go.Proofs.YtgldkfaiofkhbaaDoor Go.Proofs.YtgldkfaiofkhbaaDoor.Mem Go.Proofs.YtgldkfaiofkhbaaDoor.Sha Go.Proofs.YtgldkfaiofkhbaaDoor.Bytes Go.Proofs.YtgldkfaiofkhbaaDoor.Append Go.Proofs.YtgldkfaiofkhbaaDoor.Octet Go.Proofs.YtgldkfaiofkhbaaDoor.Octet2 Go.Proofs.YtgldkfaiofkhbaaDoor.HeadMem Go.Proofs.YtgldkfaiofkhbaaDoor.ProofBeside Go.Proofs.YtgldkfaiofkhbaaDoor.ProofEnc Go.Proofs.YtgldkfaiofkhbaaDoor.ProofIdx Go.Proofs.YtgldkfaiofkhbaaDoor.ProofIdx2 Go.Proofs.YtgldkfaiofkhbaaDoor.ProofIdx3 Go.Proofs.YtgldkfaiofkhbaaDoor.StructEq Go.Proofs.YtgldkfaiofkhbaaDoor.QuietTail Go.Proofs.YtgldkfaiofkhbaaDoor.Grown

def z32 : Text := List.replicate 32 0
theorem z32_len : z32.length = 32 := rfl
/-- May it be, by its entry? -/
def okEnt (f : Bool) (cnt : Int) (ch : Text) : Bool := if f then decide (1 ≤ cnt ∧ cnt ≤ 1099511627776) else decide (cnt = 0 ∧ ch = z32)
/-- May it be, by its form? -/
def okIx (s : ByteArray) (f : Bool) (cnt : Int) (ch d : Text) (n : Nat) : Bool := okEnt f cnt ch && (namedB s.data.toList && ((onesOf d : Int) == (n : Int)))
theorem okIx_no {s : ByteArray} {f : Bool} {cnt : Int} {ch d : Text} {n : Nat} (h : okEnt f cnt ch = false) : okIx s f cnt ch d n = false := by unfold okIx; rw [h]; rfl
theorem okIx_yes {s : ByteArray} {f : Bool} {cnt : Int} {ch d : Text} {n : Nat} (h : okEnt f cnt ch = true) : okIx s f cnt ch d n = (namedB s.data.toList && ((onesOf d : Int) == (n : Int))) := by unfold okIx; rw [h]; rfl
theorem neqZ (cnt : Int) (ch : Text) (hch : ch.length = 32) (w : World) : (binOp .neq 53 (.agg (entC cnt ch).toArray) (.agg #[.int .i64 0, .int .u8 0, .int .u8 0, .int .u8 0, .int .u8 0, .int .u8 0, .int .u8 0, .int .u8 0, .int .u8 0, .int .u8 0, .int .u8 0, .int .u8 0, .int .u8 0, .int .u8 0, .int .u8 0, .int .u8 0, .int .u8 0, .int .u8 0, .int .u8 0, .int .u8 0, .int .u8 0, .int .u8 0, .int .u8 0, .int .u8 0, .int .u8 0, .int .u8 0, .int .u8 0, .int .u8 0, .int .u8 0, .int .u8 0, .int .u8 0, .int .u8 0, .int .u8 0])).run Tryd.prog w = .ok (.bool (!decide (cnt = 0 ∧ ch = z32))) w := by
  have := neq_entry cnt 0 ch z32 hch z32_len w
  rwa [show (entC 0 z32).toArray = #[.int .i64 0, .int .u8 0, .int .u8 0, .int .u8 0, .int .u8 0, .int .u8 0, .int .u8 0, .int .u8 0, .int .u8 0, .int .u8 0, .int .u8 0, .int .u8 0, .int .u8 0, .int .u8 0, .int .u8 0, .int .u8 0, .int .u8 0, .int .u8 0, .int .u8 0, .int .u8 0, .int .u8 0, .int .u8 0, .int .u8 0, .int .u8 0, .int .u8 0, .int .u8 0, .int .u8 0, .int .u8 0, .int .u8 0, .int .u8 0, .int .u8 0, .int .u8 0, .int .u8 0] by kernel_rfl] at this

set_option maxRecDepth 100000 in
set_option maxHeartbeats 2000000 in
theorem indexed_any (s : ByteArray) (hs : s.size ≤ 140737488355328) (f : Bool) (cnt : Int) (ch : Text) (hch : ch.length = 32) (d : Text) (hd : d.length = 32) (A : Option Addr) (n c : Nat) (w : World) :
    Calls Tryd.prog 72 #[.agg (idxCells s f (entC cnt ch) d A n c).toArray] w fun e w' => e = .returned (.bool (okIx s f cnt ch d n)) ∧ Below w.heap.size w w' := by
  obtain ⟨cs, hcs⟩ : ∃ cs : Array Value, (idxCells s f (entC cnt ch) d A n c).toArray = cs := ⟨_, rfl⟩
  have i0 : Hid (cs[0]? = some (.string s)) := by show _ = _; rw [← hcs, List.getElem?_toArray]; exact idx_name
  have i1 : cs[1]? = some (.bool f) := by rw [← hcs, List.getElem?_toArray]; exact idx_found
  have i2 : Hid (∀ j v, (entC cnt ch)[j]? = some v → cs[2 + j]? = some v) := fun j v hv => by rw [← hcs, List.getElem?_toArray]; exact idx_ent j v hv
  have i3 : Hid (∀ j v, (cells8 d)[j]? = some v → cs[35 + j]? = some v) := fun j v hv => by rw [← hcs, List.getElem?_toArray]; exact idx_bitmap (entC_len hch) j v hv
  have i4 : Hid (cs[67]? = some (.slice A n c)) := by show _ = _; rw [← hcs, List.getElem?_toArray]; exact idx_way (entC_len hch) hd
  rw [hcs]
  clear hcs
  have hB0 : Hid (Blk (w.alloc (.cells cs 55)) w.heap.size 55 cs) := Blk.new w _ _
  have hb0 : Hid (Below w.heap.size w (w.alloc (.cells cs 55))) := Below.heap_below w _
  have e1 := (hB0.out.cell 1).trans i1
  have e2 := (hB0.out.cell 2).trans (i2.out 0 _ rfl)
  have sE : Hid ((Tryd.prog.info? 53).map (·.size) = some (entC cnt ch).length) := by show _ = _; rw [entC_len hch]; kernel_rfl
  have sD : Hid ((Tryd.prog.info? 23).map (·.size) = some (cells8 d).length) := agg_hi size32 (by rw [cells8_len, hd])
  have hn := neqZ cnt ch hch
  have hno := Lib.hid (fun h => okIx_no (s := s) (f := f) (cnt := cnt) (ch := ch) (d := d) (n := n) h)
  have hyes := Lib.hid (fun h => okIx_yes (s := s) (f := f) (cnt := cnt) (ch := ch) (d := d) (n := n) h)
  obtain ⟨b1, h1⟩ : ∃ b, namedB s.data.toList = b := ⟨_, rfl⟩
  obtain ⟨b2, h2⟩ : ∃ b, ((onesOf d : Int) == (n : Int)) = b := ⟨_, rfl⟩
  rw [h1, h2] at hyes
  obtain ⟨ans, hans⟩ : ∃ b, okIx s f cnt ch d n = b := ⟨_, rfl⟩
  rw [hans] at hno hyes ⊢
  replace hs := Lib.hid hs
  replace hd := Lib.hid hd
  replace h1 := Lib.hid h1
  replace h2 := Lib.hid h2
  replace i1 := Lib.hid i1
  obtain ⟨Z, hZ⟩ : ∃ Z, Hid ((entC cnt ch).toArray = Z) := ⟨_, Lib.hid rfl⟩
  rw [hZ.out] at hn
  clear hans
  cases f with
  | false =>
    by_cases hz : cnt = 0 ∧ ch = z32
    · have ha : ans = (b1 && b2) := hyes.out (decide_eq_true hz)
      rw [decide_eq_true hz] at hn
      clear hz hno hyes
      go_enter Tryd.func72, Tryd.ntmps72
      go_wp2_with ((with_reducible change wpList _ _ _ ({ dst := some 23, op := _, type := _, pos := _, after := _, guard := _ } :: _) _ _); refine wpList_load_part_g (o := ⟨some 23, _, _, _, _, _⟩) (by rfl) 53 (.tmp 22) rfl w.heap.size 2 rfl (entC cnt ch) _ (fun j v hv => (hB0.out.cell (2 + j)).trans (i2.out j v hv)) Tryd.underlying53 rfl sE.out ?_; rw [hZ.out])
      have hC : Hid (∀ w', Class (w.alloc (.cells cs 55)) w' → ∀ j v, cs[j]? = some v → w'.cell? ⟨w.heap.size, j, none⟩ = some v) := fun w' hw' j v hv => ((show Blk w' w.heap.size 55 cs from (hw'.below.block _ hB0.out.lt).trans hB0.out).cell j).trans hv
      cases b1
      · refine wp_region_class (Class (w.alloc (.cells cs 55))) (by kernel_rfl) (by kernel_rfl) (Class.mk_ ((Below.refl _ _).drew)) ?_
        refine wpQuiet_val (v := .pointer (some ⟨w.heap.size, 0, none⟩)) rfl (fun w' hw' => by go_simp) ?_
        (intro K hK; go_simp; refine hK _ ?_; clear hK K)
        refine wpQuiet_val (v := .string s) rfl (fun w' hw' => by have hc := hC.out w' hw' 0 _ i0.out; go_simp) ?_
        (intro K hK; go_simp; refine hK _ ?_; clear hK K)
        refine wpQuiet_fn (v := .bool false) (args := #[.string s]) rfl _ _ rfl rfl Tryd.func118 (by kernel_rfl) (by kernel_rfl) (fun w' hw' => (named_any s hs.out w').mono (fun e w'' ⟨he, hw⟩ => ⟨by rw [he, h1.out], by rw [← hw]; exact hw'⟩)) ?_
        (intro K hK; go_simp; refine hK _ ?_; clear hK K)
        refine wpQuiet_move rfl (.tmp 30) rfl ?_
        (intro K hK; go_simp; refine hK _ ?_; clear hK K)
        refine wpQuiet_skip_ rfl ?_
        (intro K hK; go_simp; refine hK _ ?_; clear hK K)
        refine wpQuiet_skip_ rfl ?_
        (intro K hK; go_simp; refine hK _ ?_; clear hK K)
        refine wpQuiet_skip_ rfl ?_
        (intro K hK; go_simp; refine hK _ ?_; clear hK K)
        refine wpQuiet_skip_ rfl ?_
        (intro K hK; go_simp; refine hK _ ?_; clear hK K)
        refine wpQuiet_skip_ rfl ?_
        (intro K hK; go_simp; refine hK _ ?_; clear hK K)
        refine wpQuiet_skip_ rfl ?_
        (intro K hK; go_simp; refine hK _ ?_; clear hK K)
        refine wpQuiet_skip_ rfl ?_
        (intro K hK; go_simp; refine hK _ ?_; clear hK K)
        refine wpQuiet_val (v := .bool false) rfl (fun w' hw' => by go_simp) ?_
        (intro K hK; go_simp; refine hK _ ?_; clear hK K)
        refine wpQuiet_val (v := .bool false) rfl (fun w' hw' => by go_simp) ?_
        (intro K hK; go_simp; refine hK _ ?_; clear hK K)
        refine wpQuiet_nil ?_
        intro w' hw'
        have hb1 : Hid (Below w.heap.size w w') := hb0.out.trans (hw'.below.mono hb0.out.size)
        go_wp2_with fail
        go_ret
        exact ⟨by rw [ha]; rfl, hb1.out⟩
      · refine wp_region_class (Class (w.alloc (.cells cs 55))) (by kernel_rfl) (by kernel_rfl) (Class.mk_ ((Below.refl _ _).drew)) ?_
        refine wpQuiet_val (v := .pointer (some ⟨w.heap.size, 0, none⟩)) rfl (fun w' hw' => by go_simp) ?_
        (intro K hK; go_simp; refine hK _ ?_; clear hK K)
        refine wpQuiet_val (v := .string s) rfl (fun w' hw' => by have hc := hC.out w' hw' 0 _ i0.out; go_simp) ?_
        (intro K hK; go_simp; refine hK _ ?_; clear hK K)
        refine wpQuiet_fn (v := .bool true) (args := #[.string s]) rfl _ _ rfl rfl Tryd.func118 (by kernel_rfl) (by kernel_rfl) (fun w' hw' => (named_any s hs.out w').mono (fun e w'' ⟨he, hw⟩ => ⟨by rw [he, h1.out], by rw [← hw]; exact hw'⟩)) ?_
        (intro K hK; go_simp; refine hK _ ?_; clear hK K)
        refine wpQuiet_move rfl (.tmp 30) rfl ?_
        (intro K hK; go_simp; refine hK _ ?_; clear hK K)
        refine wpQuiet_val (v := .pointer (some ⟨w.heap.size, 35, none⟩)) rfl (fun w' hw' => by go_simp) ?_
        (intro K hK; go_simp; refine hK _ ?_; clear hK K)
        refine wpQuiet_load_part rfl 23 (.tmp 32) rfl w.heap.size 35 rfl (cells8 d) _ (fun w' hw' j v hv => hC.out w' hw' (35 + j) v (i3.out j v hv)) Tryd.underlying23 rfl sD.out ?_
        (intro K hK; go_simp; refine hK _ ?_; clear hK K)
        refine wpQuiet_fn (v := .int .i64 (onesOf d : Nat)) (args := #[.agg (cells8 d).toArray]) rfl _ _ rfl rfl Tryd.func80 (by kernel_rfl) (by kernel_rfl) (fun w' hw' => (ones_any d hd.out w').mono (fun e w'' ⟨he, hb⟩ => ⟨he, hw'.next hb⟩)) ?_
        (intro K hK; go_simp; refine hK _ ?_; clear hK K)
        refine wpQuiet_val (v := .pointer (some ⟨w.heap.size, 67, none⟩)) rfl (fun w' hw' => by go_simp) ?_
        (intro K hK; go_simp; refine hK _ ?_; clear hK K)
        refine wpQuiet_val (v := .slice A n c) rfl (fun w' hw' => by have hc := hC.out w' hw' 67 _ i4.out; go_simp) ?_
        (intro K hK; go_simp; refine hK _ ?_; clear hK K)
        refine wpQuiet_val (v := .int .i64 (n : Int)) rfl (fun w' hw' => by go_simp) ?_
        (intro K hK; go_simp; refine hK _ ?_; clear hK K)
        refine wpQuiet_val (v := .bool b2) rfl (fun w' hw' => by have hc := h2.out; go_simp) ?_
        (intro K hK; go_simp; refine hK _ ?_; clear hK K)
        refine wpQuiet_val (v := .bool b2) rfl (fun w' hw' => by go_simp) ?_
        (intro K hK; go_simp; refine hK _ ?_; clear hK K)
        refine wpQuiet_val (v := .bool b2) rfl (fun w' hw' => by go_simp) ?_
        (intro K hK; go_simp; refine hK _ ?_; clear hK K)
        refine wpQuiet_nil ?_
        intro w' hw'
        have hb1 : Hid (Below w.heap.size w w') := hb0.out.trans (hw'.below.mono hb0.out.size)
        go_wp2_with fail
        go_ret
        exact ⟨by rw [ha]; rfl, hb1.out⟩
    · have ha : ans = false := hno.out (decide_eq_false hz)
      rw [decide_eq_false hz] at hn
      clear hz hno hyes
      go_enter Tryd.func72, Tryd.ntmps72
      go_wp2_with ((with_reducible change wpList _ _ _ ({ dst := some 23, op := _, type := _, pos := _, after := _, guard := _ } :: _) _ _); refine wpList_load_part_g (o := ⟨some 23, _, _, _, _, _⟩) (by rfl) 53 (.tmp 22) rfl w.heap.size 2 rfl (entC cnt ch) _ (fun j v hv => (hB0.out.cell (2 + j)).trans (i2.out j v hv)) Tryd.underlying53 rfl sE.out ?_; rw [hZ.out])
      go_ret
      exact ⟨by first | rfl | (rw [ha]; rfl), hb0.out⟩
  | true =>
    clear hn
    by_cases c1 : cnt < 1
    · have ha : ans = false := hno.out (decide_eq_false (by omega))
      have y1 : decide (cnt < 1) = true := decide_eq_true c1
      clear hno hyes
      go_enter Tryd.func72, Tryd.ntmps72
      go_wp2_with ((with_reducible change wpList _ _ _ ({ dst := some 23, op := _, type := _, pos := _, after := _, guard := _ } :: _) _ _); refine wpList_load_part_g (o := ⟨some 23, _, _, _, _, _⟩) (by rfl) 53 (.tmp 22) rfl w.heap.size 2 rfl (entC cnt ch) _ (fun j v hv => (hB0.out.cell (2 + j)).trans (i2.out j v hv)) Tryd.underlying53 rfl sE.out ?_; rw [hZ.out])
      go_ret
      exact ⟨by first | rfl | (rw [ha]; rfl), hb0.out⟩
    · have y1 : decide (cnt < 1) = false := decide_eq_false c1
      by_cases c2 : 1099511627776 < cnt
      · have ha : ans = false := hno.out (decide_eq_false (by omega))
        have y2 : decide (1099511627776 < cnt) = true := decide_eq_true c2
        clear hno hyes
        go_enter Tryd.func72, Tryd.ntmps72
        go_wp2_with ((with_reducible change wpList _ _ _ ({ dst := some 23, op := _, type := _, pos := _, after := _, guard := _ } :: _) _ _); refine wpList_load_part_g (o := ⟨some 23, _, _, _, _, _⟩) (by rfl) 53 (.tmp 22) rfl w.heap.size 2 rfl (entC cnt ch) _ (fun j v hv => (hB0.out.cell (2 + j)).trans (i2.out j v hv)) Tryd.underlying53 rfl sE.out ?_; rw [hZ.out])
        go_ret
        exact ⟨by first | rfl | (rw [ha]; rfl), hb0.out⟩
      · have ha : ans = (b1 && b2) := hyes.out (decide_eq_true (by omega))
        have y2 : decide (1099511627776 < cnt) = false := decide_eq_false c2
        clear hno hyes
        go_enter Tryd.func72, Tryd.ntmps72
        go_wp2_with ((with_reducible change wpList _ _ _ ({ dst := some 23, op := _, type := _, pos := _, after := _, guard := _ } :: _) _ _); refine wpList_load_part_g (o := ⟨some 23, _, _, _, _, _⟩) (by rfl) 53 (.tmp 22) rfl w.heap.size 2 rfl (entC cnt ch) _ (fun j v hv => (hB0.out.cell (2 + j)).trans (i2.out j v hv)) Tryd.underlying53 rfl sE.out ?_; rw [hZ.out])
        have hC : Hid (∀ w', Class (w.alloc (.cells cs 55)) w' → ∀ j v, cs[j]? = some v → w'.cell? ⟨w.heap.size, j, none⟩ = some v) := fun w' hw' j v hv => ((show Blk w' w.heap.size 55 cs from (hw'.below.block _ hB0.out.lt).trans hB0.out).cell j).trans hv
        cases b1
        · refine wp_region_class (Class (w.alloc (.cells cs 55))) (by kernel_rfl) (by kernel_rfl) (Class.mk_ ((Below.refl _ _).drew)) ?_
          refine wpQuiet_val (v := .pointer (some ⟨w.heap.size, 0, none⟩)) rfl (fun w' hw' => by go_simp) ?_
          (intro K hK; go_simp; refine hK _ ?_; clear hK K)
          refine wpQuiet_val (v := .string s) rfl (fun w' hw' => by have hc := hC.out w' hw' 0 _ i0.out; go_simp) ?_
          (intro K hK; go_simp; refine hK _ ?_; clear hK K)
          refine wpQuiet_fn (v := .bool false) (args := #[.string s]) rfl _ _ rfl rfl Tryd.func118 (by kernel_rfl) (by kernel_rfl) (fun w' hw' => (named_any s hs.out w').mono (fun e w'' ⟨he, hw⟩ => ⟨by rw [he, h1.out], by rw [← hw]; exact hw'⟩)) ?_
          (intro K hK; go_simp; refine hK _ ?_; clear hK K)
          refine wpQuiet_move rfl (.tmp 30) rfl ?_
          (intro K hK; go_simp; refine hK _ ?_; clear hK K)
          refine wpQuiet_skip_ rfl ?_
          (intro K hK; go_simp; refine hK _ ?_; clear hK K)
          refine wpQuiet_skip_ rfl ?_
          (intro K hK; go_simp; refine hK _ ?_; clear hK K)
          refine wpQuiet_skip_ rfl ?_
          (intro K hK; go_simp; refine hK _ ?_; clear hK K)
          refine wpQuiet_skip_ rfl ?_
          (intro K hK; go_simp; refine hK _ ?_; clear hK K)
          refine wpQuiet_skip_ rfl ?_
          (intro K hK; go_simp; refine hK _ ?_; clear hK K)
          refine wpQuiet_skip_ rfl ?_
          (intro K hK; go_simp; refine hK _ ?_; clear hK K)
          refine wpQuiet_skip_ rfl ?_
          (intro K hK; go_simp; refine hK _ ?_; clear hK K)
          refine wpQuiet_val (v := .bool false) rfl (fun w' hw' => by go_simp) ?_
          (intro K hK; go_simp; refine hK _ ?_; clear hK K)
          refine wpQuiet_val (v := .bool false) rfl (fun w' hw' => by go_simp) ?_
          (intro K hK; go_simp; refine hK _ ?_; clear hK K)
          refine wpQuiet_nil ?_
          intro w' hw'
          have hb1 : Hid (Below w.heap.size w w') := hb0.out.trans (hw'.below.mono hb0.out.size)
          go_wp2_with fail
          go_ret
          exact ⟨by rw [ha]; rfl, hb1.out⟩
        · refine wp_region_class (Class (w.alloc (.cells cs 55))) (by kernel_rfl) (by kernel_rfl) (Class.mk_ ((Below.refl _ _).drew)) ?_
          refine wpQuiet_val (v := .pointer (some ⟨w.heap.size, 0, none⟩)) rfl (fun w' hw' => by go_simp) ?_
          (intro K hK; go_simp; refine hK _ ?_; clear hK K)
          refine wpQuiet_val (v := .string s) rfl (fun w' hw' => by have hc := hC.out w' hw' 0 _ i0.out; go_simp) ?_
          (intro K hK; go_simp; refine hK _ ?_; clear hK K)
          refine wpQuiet_fn (v := .bool true) (args := #[.string s]) rfl _ _ rfl rfl Tryd.func118 (by kernel_rfl) (by kernel_rfl) (fun w' hw' => (named_any s hs.out w').mono (fun e w'' ⟨he, hw⟩ => ⟨by rw [he, h1.out], by rw [← hw]; exact hw'⟩)) ?_
          (intro K hK; go_simp; refine hK _ ?_; clear hK K)
          refine wpQuiet_move rfl (.tmp 30) rfl ?_
          (intro K hK; go_simp; refine hK _ ?_; clear hK K)
          refine wpQuiet_val (v := .pointer (some ⟨w.heap.size, 35, none⟩)) rfl (fun w' hw' => by go_simp) ?_
          (intro K hK; go_simp; refine hK _ ?_; clear hK K)
          refine wpQuiet_load_part rfl 23 (.tmp 32) rfl w.heap.size 35 rfl (cells8 d) _ (fun w' hw' j v hv => hC.out w' hw' (35 + j) v (i3.out j v hv)) Tryd.underlying23 rfl sD.out ?_
          (intro K hK; go_simp; refine hK _ ?_; clear hK K)
          refine wpQuiet_fn (v := .int .i64 (onesOf d : Nat)) (args := #[.agg (cells8 d).toArray]) rfl _ _ rfl rfl Tryd.func80 (by kernel_rfl) (by kernel_rfl) (fun w' hw' => (ones_any d hd.out w').mono (fun e w'' ⟨he, hb⟩ => ⟨he, hw'.next hb⟩)) ?_
          (intro K hK; go_simp; refine hK _ ?_; clear hK K)
          refine wpQuiet_val (v := .pointer (some ⟨w.heap.size, 67, none⟩)) rfl (fun w' hw' => by go_simp) ?_
          (intro K hK; go_simp; refine hK _ ?_; clear hK K)
          refine wpQuiet_val (v := .slice A n c) rfl (fun w' hw' => by have hc := hC.out w' hw' 67 _ i4.out; go_simp) ?_
          (intro K hK; go_simp; refine hK _ ?_; clear hK K)
          refine wpQuiet_val (v := .int .i64 (n : Int)) rfl (fun w' hw' => by go_simp) ?_
          (intro K hK; go_simp; refine hK _ ?_; clear hK K)
          refine wpQuiet_val (v := .bool b2) rfl (fun w' hw' => by have hc := h2.out; go_simp) ?_
          (intro K hK; go_simp; refine hK _ ?_; clear hK K)
          refine wpQuiet_val (v := .bool b2) rfl (fun w' hw' => by go_simp) ?_
          (intro K hK; go_simp; refine hK _ ?_; clear hK K)
          refine wpQuiet_val (v := .bool b2) rfl (fun w' hw' => by go_simp) ?_
          (intro K hK; go_simp; refine hK _ ?_; clear hK K)
          refine wpQuiet_nil ?_
          intro w' hw'
          have hb1 : Hid (Below w.heap.size w w') := hb0.out.trans (hw'.below.mono hb0.out.size)
          go_wp2_with fail
          go_ret
          exact ⟨by rw [ha]; rfl, hb1.out⟩
end Go.Proofs.YtgldkfaiofkhbaaDoor.IdxAny

namespace Go.Proofs.YtgldkfaiofkhbaaDoor.IdxEnc
open Go Go.RowKit Go.Proofs.YtgldkfaiofkhbaaDoor Go.Proofs.YtgldkfaiofkhbaaDoor.Mem Go.Proofs.YtgldkfaiofkhbaaDoor.Sha Go.Proofs.YtgldkfaiofkhbaaDoor.Bytes Go.Proofs.YtgldkfaiofkhbaaDoor.Append Go.Proofs.YtgldkfaiofkhbaaDoor.Octet Go.Proofs.YtgldkfaiofkhbaaDoor.Octet2 Go.Proofs.YtgldkfaiofkhbaaDoor.HeadMem Go.Proofs.YtgldkfaiofkhbaaDoor.ProofBeside Go.Proofs.YtgldkfaiofkhbaaDoor.ProofEnc Go.Proofs.YtgldkfaiofkhbaaDoor.ProofIdx Go.Proofs.YtgldkfaiofkhbaaDoor.ProofIdx2 Go.Proofs.YtgldkfaiofkhbaaDoor.ProofIdx3 Go.Proofs.YtgldkfaiofkhbaaDoor.ProofIdx4 Go.Proofs.YtgldkfaiofkhbaaDoor.StructEq Go.Proofs.YtgldkfaiofkhbaaDoor.IdxAny Go.Proofs.YtgldkfaiofkhbaaDoor.TreeMem Go.Proofs.YtgldkfaiofkhbaaDoor.NumberNew

/-- The bytes of what an index says of a name. -/
def idxB (s : ByteArray) (f : Bool) (cnt : Int) (ch d : Text) (ds : List Text) : Text := [50] ++ [kb s.size] ++ nm s ++ (if f then [1] ++ be8 cnt.toNat ++ ch else [0]) ++ d ++ ds.flatten
def idxWant (s : ByteArray) (f : Bool) (cnt : Int) (ch d : Text) (ds : List Text) : Option Text := if okIx s f cnt ch d ds.length = true then some (idxB s f cnt ch d ds) else none
theorem idxB_len {s : ByteArray} {f : Bool} {cnt : Int} {ch d : Text} {ds : List Text} (hch : ch.length = 32) (hd : d.length = 32) (hds : ∀ d ∈ ds, d.length = 32) : (idxB s f cnt ch d ds).length = (if f then 75 else 35) + s.size + 32 * ds.length := by
  cases f <;> simp only [idxB, List.length_append, List.length_cons, List.length_nil, nm_len, hd, hch, flat32_len ds hds, be8_len, Bool.false_eq_true, if_true, if_false] <;> omega
theorem idxB_nf (s : ByteArray) (cnt : Int) (ch d : Text) (ds : List Text) : idxB s false cnt ch d ds = idxBytes s d ds := rfl
theorem okIx_ones {s : ByteArray} {f : Bool} {cnt : Int} {ch d : Text} {n : Nat} (h : okIx s f cnt ch d n = true) : onesOf d = n := by
  unfold okIx at h
  simp only [Bool.and_eq_true, beq_iff_eq] at h
  omega
theorem okIx_name {s : ByteArray} {f : Bool} {cnt : Int} {ch d : Text} {n : Nat} (h : okIx s f cnt ch d n = true) : namedB s.data.toList = true := by
  unfold okIx at h
  simp only [Bool.and_eq_true] at h
  exact h.2.1
theorem okIx_64 {s : ByteArray} {f : Bool} {cnt : Int} {ch d : Text} {n : Nat} (h : okIx s f cnt ch d n = true) : s.size ≤ 64 := by
  have := okIx_name h
  unfold namedB at this
  simp only [Bool.and_eq_true, decide_eq_true_eq] at this
  simpa using this.1

set_option maxRecDepth 100000 in
set_option maxHeartbeats 1000000 in
theorem encodeIndexed_f (s : ByteArray) (hs : s.size ≤ 64) (N : Nat) (hN : N ≤ 1099511627776) (ch : Text) (hch : ch.length = 32) (d : Text) (hd : d.length = 32) (ds : List Text) (n : Nat) (hn : ds.length = n) (hds : ∀ d ∈ ds, d.length = 32) (hok : okIx s true (N : Int) ch d n = true) (A : Option Addr) (c : Nat) (w : World) (hr : Reads w 32 A n (ds.flatMap cells8)) :
    Calls Tryd.prog 27 #[.agg (idxCells s true (entC (N : Int) ch) d A n c).toArray] w fun e w' => ∃ v, e = .returned (.tuple #[v, .int .i64 0]) ∧ Below w.heap.size w w' ∧ w'.ownsRow w.heap.size 5 1 v (75 + s.size + 32 * n) (cells8 (idxB s true (N : Int) ch d ds)) := by
  have hones := okIx_ones hok
  have hT := Lib.hid (fun w' => by have := indexed_any s (by omega) true (N : Int) ch hch d hd A n c w'; rw [hok] at this; exact this)
  obtain ⟨cs, hcs⟩ : ∃ cs : Array Value, (idxCells s true (entC (N : Int) ch) d A n c).toArray = cs := ⟨_, rfl⟩
  have i0 : Hid (cs[0]? = some (.string s)) := by show _ = _; rw [← hcs, List.getElem?_toArray]; exact idx_name
  have i1 : Hid (cs[1]? = some (.bool true)) := by show _ = _; rw [← hcs, List.getElem?_toArray]; exact idx_found
  have i2 : Hid (cs[2]? = some (.int .i64 (N : Int))) := by show _ = _; rw [← hcs, List.getElem?_toArray]; exact idx_ent 0 _ rfl
  have ic : Hid (∀ j v, (cells8 ch)[j]? = some v → cs[3 + j]? = some v) := fun j v hv => by
    rw [← hcs, List.getElem?_toArray, show 3 + j = 2 + (1 + j) by omega]
    exact idx_ent (1 + j) v (by rw [Nat.add_comm 1 j]; exact hv)
  have i3 : Hid (∀ j v, (cells8 d)[j]? = some v → cs[35 + j]? = some v) := fun j v hv => by rw [← hcs, List.getElem?_toArray]; exact idx_bitmap (entC_len hch) j v hv
  have i4 : Hid (cs[67]? = some (.slice A n c)) := by show _ = _; rw [← hcs, List.getElem?_toArray]; exact idx_way (entC_len hch) hd
  have sI : Hid ((Tryd.prog.info? 55).map (·.size) = some cs.size) := by show _ = _; rw [← hcs, List.size_toArray, idx_len (entC_len hch) hd]; kernel_rfl
  rw [hcs] at hT ⊢
  clear hcs
  have hn256 : n ≤ 256 := by rw [← hones]; have := onesOf_le d; omega
  have hB0 : Hid (Blk (w.alloc (.cells cs 55)) w.heap.size 55 cs) := Blk.new w _ _
  have hb0 : Hid (Below w.heap.size w (w.alloc (.cells cs 55))) := Below.heap_below w _
  have hz0 : Hid ((w.alloc (.cells cs 55)).heap.size = w.heap.size + 1) := by show _ = _; simp
  have hR : Hid (∀ w', Below w.heap.size w w' → Reads w' 32 A n (ds.flatMap cells8)) := fun w' hb => hr.below hb
  have hA : Hid (∀ g, w.heap.size ≤ g → 0 < n → ∀ a, A = some a → a.block ≠ g ∧ some a.block ≠ none) := fun g hg h a e => by
    obtain ⟨b, o, e2, hb, _⟩ := hr.2 (by omega)
    rw [e] at e2
    injection e2 with e2
    subst e2
    exact ⟨by simp; omega, by simp⟩
  have sD : Hid ((Tryd.prog.info? 23).map (·.size) = some (cells8 d).length) := agg_hi size32 (by rw [cells8_len, hd])
  have sC : Hid ((Tryd.prog.info? 23).map (·.size) = some (cells8 ch).length) := agg_hi size32 (by rw [cells8_len, hch])
  have q2 : Hid (∀ v ∈ [cells8 ch], v.length = 32) := by intro v hv; simp only [List.mem_singleton] at hv; rw [hv, cells8_len, hch]
  have d2 : Hid (∀ x ∈ [ch], x.length = 32) := by intro v hv; simp only [List.mem_singleton] at hv; rw [hv, hch]
  obtain ⟨X2, x2⟩ : ∃ X, Hid (X = ([cells8 ch].flatten).toArray) := ⟨_, rfl⟩
  have q1 : Hid (∀ v ∈ [cells8 d], v.length = 32) := by intro v hv; simp only [List.mem_singleton] at hv; rw [hv, cells8_len, hd]
  have d1 : Hid (∀ x ∈ [d], x.length = 32) := by intro v hv; simp only [List.mem_singleton] at hv; rw [hv, hd]
  obtain ⟨X1, x1⟩ : ∃ X, Hid (X = ([cells8 d].flatten).toArray) := ⟨_, rfl⟩
  have hfin : Hid (([] : Text) ++ [50] ++ [kb s.size] ++ nm s ++ [if true = true then 1 else 0] ++ be8 N ++ [ch].flatten ++ [d].flatten ++ ds.flatten = idxB s true (N : Int) ch d ds) := by show _ = _; simp [idxB]
  have hlen : Hid ((idxB s true (N : Int) ch d ds).length = 75 + s.size + 32 * n) := by show _ = _; rw [idxB_len hch hd hds, hn]; simp
  have hnl := Lib.hid (nm_len s)
  replace hs := Lib.hid hs
  replace hn := Lib.hid hn
  replace hd := Lib.hid hd
  replace hds := Lib.hid hds
  replace hn256 := Lib.hid hn256
  replace hN := Lib.hid hN
  replace hch := Lib.hid hch
  have h8 := Lib.hid (be8_len N)
  clear hr hones hok
  go_enter Tryd.func27, Tryd.ntmps27
  go_wp2_with (first
    | ((with_reducible change wpList _ _ _ ({ dst := some 5, op := _, type := _, pos := _, after := _, guard := _ } :: _) _ _); refine wpList_load_row (o := ⟨some 5, _, _, _, _, _⟩) rfl 55 (.tmp 1) rfl w.heap.size rfl 55 cs (0, 0) _ hB0.out Tryd.underlying55 rfl sI.out ?_)
    | (go_at_call 72; refine (hT.out _).mono ?_; rintro e w1 ⟨rfl, hb1⟩; rw [hz0.out] at hb1; have hB1 := (hb1.block w.heap.size (by omega)).trans hB0.out; have bb1 := hb0.out.trans (hb1.mono (by omega)); have hN := Lib.hid (WrAt.new w1).refl; have hR1 := Lib.hid ((hR.out w1 bb1).alloc (.cells #[.slice none 0 0] 171)); have hA1 := Lib.hid (hA.out w1.heap.size bb1.size); have hlt1 : w.heap.size < w1.heap.size := (by have := hb1.size; have := hz0.out; omega); have hBB : Hid (∀ w' l, Wrote (w1.alloc (.cells #[.slice none 0 0] 171)) w1.heap.size none l w' → ∀ j v, cs[j]? = some v → w'.cell? ⟨w.heap.size, j, none⟩ = some v) := (fun w' l h j v hv => ((h.blk (Blk.alloc hB1 _) (by omega) (by simp)).cell j).trans hv); have hbW : Hid (∀ w' l, Wrote (w1.alloc (.cells #[.slice none 0 0] 171)) w1.heap.size none l w' → Below w.heap.size w w') := (fun w' l h => (bb1.alloc bb1.size _).trans (h.below (fun _ e => by cases e) (B := w.heap.size) (by omega) (by simp; omega))); clear hb1 hB1 bb1 hlt1 hB0 hb0)
    | (go_at_call 57; refine (new_any _).mono ?_; rintro e w1 ⟨rfl, rfl⟩)
    | (go_at_call 58; refine (put1_from 50 50 rfl (by simp) hN.out).mono ?_; rintro e w2 ⟨rfl, hW2⟩; have e2 := hBB.out w2 _ hW2 0 _ i0.out; replace hW2 := Lib.hid hW2; clear hN)
    | (go_at_call 73; refine (name_from s hs.out (by have := hs.out; simp; omega) hW2.out).mono ?_; rintro e w3 ⟨rfl, hW3⟩; have e3 := hBB.out w3 _ hW3 1 _ i1.out; replace hW3 := Lib.hid hW3; clear hW2 e2)
    | (go_at_call 74; refine (flag_from true (by have := hs.out; have := hnl.out; simp; omega) hW3.out).mono ?_; rintro e w4 ⟨rfl, hW4⟩; have e4 := hBB.out w4 _ hW4 1 _ i1.out; have e42 := hBB.out w4 _ hW4 2 _ i2.out; have f4 : Hid (∀ j v, (cells8 ch)[j]? = some v → w4.cell? ⟨w.heap.size, 3 + j, none⟩ = some v) := (fun j v hv => hBB.out w4 _ hW4 (3 + j) v (ic.out j v hv)); replace hW4 := Lib.hid hW4; clear hW3 e3)
    | ((with_reducible change wpList _ _ _ ({ dst := some 27, op := _, type := _, pos := _, after := _, guard := _ } :: _) _ _); refine wpList_load_part (o := ⟨some 27, _, _, _, _, _⟩) rfl 23 (.tmp 26) rfl w.heap.size 3 rfl (cells8 ch) _ f4.out Tryd.underlying23 rfl sC.out ?_)
    | ((with_reducible change wpList _ _ _ ({ dst := some 28, op := _, type := _, pos := _, after := _, guard := _ } :: _) _ _); refine wpList_buildAggs (o := ⟨some 28, _, _, _, _, _⟩) rfl 42 23 1 _ rfl 32 (by decide) [cells8 ch] Tryd.underlying42 size32 zero32 rfl (by decide) (by decide) q2.out rfl ?_; rw [← x2.out])
    | (go_at_call 59; have tok := hW4; rw [show X2 = (([ch].map cells8).flatten).toArray from x2.out]; refine (number_new N (by have := hN.out; omega) [ch] 1 rfl d2.out (by have := hs.out; have := hnl.out; simp; omega) hW4.out).mono ?_; rintro e wn ⟨rfl, hWn⟩; have g4 : Hid (∀ j v, (cells8 d)[j]? = some v → wn.cell? ⟨w.heap.size, 35 + j, none⟩ = some v) := (fun j v hv => hBB.out wn _ hWn (35 + j) v (i3.out j v hv)); replace hWn := Lib.hid hWn; clear tok hW4 e4 e42 f4)
    | ((with_reducible change wpList _ _ _ ({ dst := some 32, op := _, type := _, pos := _, after := _, guard := _ } :: _) _ _); refine wpList_load_part (o := ⟨some 32, _, _, _, _, _⟩) rfl 23 (.tmp 31) rfl w.heap.size 35 rfl (cells8 d) _ g4.out Tryd.underlying23 rfl sD.out ?_)
    | ((with_reducible change wpList _ _ _ ({ dst := some 33, op := _, type := _, pos := _, after := _, guard := _ } :: _) _ _); refine wpList_buildAggs (o := ⟨some 33, _, _, _, _, _⟩) rfl 42 23 1 _ rfl 32 (by decide) [cells8 d] Tryd.underlying42 size32 zero32 rfl (by decide) (by decide) q1.out rfl ?_; rw [← x1.out])
    | (go_at_call 75; have tok := hWn; rw [show X1 = (([d].map cells8).flatten).toArray from x1.out]; refine (digests_new [d] 1 rfl d1.out (by have := hs.out; have := hnl.out; have := h8.out; have := hch.out; simp; omega) hWn.out).mono ?_; rintro e w5 ⟨rfl, hW5⟩; have e5 := hBB.out w5 _ hW5 67 _ i4.out; replace hW5 := Lib.hid hW5; clear tok hWn g4)
    | (go_at_call 75; refine (digests_old ds n hn.out hds.out A c (by have := hs.out; have := hnl.out; have := hn256.out; have := hd.out; have := h8.out; have := hch.out; simp; omega) hR1.out hA1.out hW5.out).mono ?_; rintro e w6 ⟨rfl, hW6⟩; rw [hfin.out] at hW6; have b6 := Lib.hid (hbW.out w6 _ hW6); obtain ⟨r6, hA6, -, -⟩ := hW6; replace hA6 := Lib.hid hA6; clear hW5 e5 hR1 hA1 hBB hbW)
    | (go_at_call 60; refine (all_any w1.heap.size r6 (idxB s true (N : Int) ch d ds) w6 (by rw [hlen.out]; have := hs.out; have := hn256.out; omega) hA6.out).mono ?_; rintro e w7 ⟨v, rfl, hb7, ho7⟩; rw [hlen.out] at ho7; obtain ⟨Av, cv, rfl, -⟩ := Own.reads ho7; have bb7 : Hid (Below w.heap.size w w7) := b6.out.trans (hb7.mono b6.out.size); replace ho7 := Lib.hid ho7; clear hb7))
  go_ret2
  exact ⟨_, rfl, bb7.out, ownsRow_base ho7.out b6.out.size⟩

set_option maxRecDepth 100000 in
set_option maxHeartbeats 1000000 in
theorem encodeIndexed_no (s : ByteArray) (hs : s.size ≤ 140737488355328) (f : Bool) (cnt : Int) (ch : Text) (hch : ch.length = 32) (d : Text) (hd : d.length = 32) (A : Option Addr) (n c : Nat) (hok : okIx s f cnt ch d n = false) (w : World) :
    Calls Tryd.prog 27 #[.agg (idxCells s f (entC cnt ch) d A n c).toArray] w fun e w' => e = .returned (.tuple #[.slice none 0 0, .int .i64 170]) ∧ Below w.heap.size w w' := by
  have hT := Lib.hid (fun w' => by have := indexed_any s hs f cnt ch hch d hd A n c w'; rw [hok] at this; exact this)
  obtain ⟨cs, hcs⟩ : ∃ cs : Array Value, (idxCells s f (entC cnt ch) d A n c).toArray = cs := ⟨_, rfl⟩
  have sI : Hid ((Tryd.prog.info? 55).map (·.size) = some cs.size) := by show _ = _; rw [← hcs, List.size_toArray, idx_len (entC_len hch) hd]; kernel_rfl
  rw [hcs] at hT ⊢
  clear hcs hok hs hch hd
  have hB0 : Hid (Blk (w.alloc (.cells cs 55)) w.heap.size 55 cs) := Blk.new w _ _
  have hb0 : Hid (Below w.heap.size w (w.alloc (.cells cs 55))) := Below.heap_below w _
  go_enter Tryd.func27, Tryd.ntmps27
  go_wp2_with (first
    | ((with_reducible change wpList _ _ _ ({ dst := some 5, op := _, type := _, pos := _, after := _, guard := _ } :: _) _ _); refine wpList_load_row (o := ⟨some 5, _, _, _, _, _⟩) rfl 55 (.tmp 1) rfl w.heap.size rfl 55 cs (0, 0) _ hB0.out Tryd.underlying55 rfl sI.out ?_)
    | (go_at_call 72; refine (hT.out _).mono ?_; rintro e w1 ⟨rfl, hb1⟩; have bb1 : Hid (Below w.heap.size w w1) := hb0.out.trans (hb1.mono hb0.out.size); clear hb1))
  go_ret2
  exact ⟨rfl, bb1.out⟩
end Go.Proofs.YtgldkfaiofkhbaaDoor.IdxEnc

namespace Go.Proofs.YtgldkfaiofkhbaaDoor.Reader7
open Go Go.RowKit Go.Proofs.YtgldkfaiofkhbaaDoor Go.Proofs.YtgldkfaiofkhbaaDoor.Mem Go.Proofs.YtgldkfaiofkhbaaDoor.Sha Go.Proofs.YtgldkfaiofkhbaaDoor.Bytes Go.Proofs.YtgldkfaiofkhbaaDoor.Append Go.Proofs.YtgldkfaiofkhbaaDoor.Octet Go.Proofs.YtgldkfaiofkhbaaDoor.QuietTail Go.Proofs.YtgldkfaiofkhbaaDoor.Grown Go.Proofs.YtgldkfaiofkhbaaDoor.Reader Go.Proofs.YtgldkfaiofkhbaaDoor.Reader2 Go.Proofs.YtgldkfaiofkhbaaDoor.Octet4

theorem u32_in (x : Int) (h0 : 0 ≤ x) (h1 : x < 4294967296) : IntKind.u32.wrap x = x := by
  simp [IntKind.wrap, IntKind.bits, IntKind.signed]
  omega
theorem num_lt4 (l : Text) (h : l.length ≤ 4) : num l < 4294967296 := Nat.lt_of_lt_of_le (num_lt _ l rfl) (Nat.le_trans (Nat.pow_le_pow_right (by decide) h) (by decide))

set_option maxRecDepth 100000 in
set_option maxHeartbeats 1000000 in
theorem ahead4_yes (q : Text) (at_ : Nat) (h8 : at_ + 4 ≤ q.length) (hq : q.length < 140737488355328) (A : Option Addr) (c g : Nat) (why : Int) (w : World) (hb : Blk w g 186 #[.slice A q.length c, .int .i64 (at_ : Int), .int .i64 why]) (hr : Reads w 1 A q.length (cells8 q)) (hc : q.length ≤ c) :
    Calls Tryd.prog 164 #[.pointer (some ⟨g, 0, none⟩), .int .i64 (at_ : Int)] w fun e w' => e = .returned (.tuple #[.int .u32 (num ((q.drop at_).take 4) : Int), .int .i64 ((at_ : Int) + 4), .bool true]) ∧ w = w' := by
  obtain ⟨b, o, rfl, hbl, hcell⟩ := Rd.at_ hr (k := 4) (by omega) h8
  have g0 : w.cell? ⟨g, 0, none⟩ = some (.slice (some ⟨b, o, none⟩) q.length c) := by rw [hb.cell 0]; rfl
  have x1 : (0 : Int) ≤ (at_ : Int) := by omega
  have x2 : (at_ : Int) + 4 ≤ (q.length : Int) := by omega
  have x3 : (q.length : Int) < 9223372036854775807 := by omega
  have X : ∀ w', (Instr.sliceAt 31 (.slice (some ⟨b, o, none⟩) q.length c) (some (.int .i64 (at_ : Int))) (some (.int .i64 ((at_ : Int) + 4))) none).run Tryd.prog w' = .ok (.slice (some ⟨b, o + at_, none⟩) 4 (c - at_)) w' := fun w' => by
    rw [run_mid (l := at_) (h := at_ + 4) Tryd.underlying31 (fun _ => rfl) (by omega) (by omega) _ _ rfl (by omega) w']
    simp only [cutA, if_neg (show ¬ c = at_ by omega), Option.map_some, add_at]
    congr 2
    omega
  have x4 : (4 : Int) ≤ (q.length : Int) - (at_ : Int) := by omega
  obtain ⟨n, hn⟩ : ∃ n, Hid (n = q.length) := ⟨_, rfl⟩
  rw [← hn.out] at g0 x2 x3 x4
  simp only [← hn.out] at X
  have y1 : decide ((n : Int) - (at_ : Int) < 4) = false := by simp; omega
  have y2 : decide ((n : Int) < 4 + (at_ : Int)) = false := by simp; omega
  have y3 : decide ((n : Int) < (at_ : Int) + 4) = false := by simp; omega
  replace hcell := Lib.hid hcell
  have hq4 := Lib.hid h8
  clear hb hr hc h8 hq hbl
  go_enter Tryd.func164, Tryd.ntmps164
  go_wp2_with (go_at_call 127; refine (width4 _).mono ?_; rintro e w' ⟨rfl, rfl⟩)
  clear X y1 y2 y3
  go_loop [8, 32] (fun v u => ∃ j N : Nat, u = .int .i64 (j : Int) ∧ v = .int .u64 (N : Int) ∧ Hid (j ≤ 4) ∧ Hid (N = num (((q.drop at_).take 4).take j))) (fun _ u => 4 - (intOf u).toNat)
  case atStart => exact ⟨0, 0, rfl, rfl, (show 0 ≤ 4 by omega), rfl⟩
  case round =>
    obtain ⟨j, N, rfl, rfl, hj, hNd⟩ := hrel
    by_cases hlt : j < 4
    · have z1 : (j : Int) < 4 := by omega
      have z2 : (0 : Int) ≤ (j : Int) := by omega
      have hNl : N < 16777216 := by
        rw [hNd.out]
        have h1 := num_lt (((q.drop at_).take 4).take j).length _ rfl
        have h2 : (((q.drop at_).take 4).take j).length ≤ 3 := by rw [List.length_take]; omega
        exact Nat.lt_of_lt_of_le h1 (Nat.le_trans (Nat.pow_le_pow_right (by decide) h2) (by decide))
      have hcj := hcell.out j hlt
      obtain ⟨y, hy⟩ : ∃ y, Hid (y = q.getD (at_ + j) 0) := ⟨_, rfl⟩
      rw [← hy.out] at hcj
      have hst : Hid (N * 256 + y.toNat = num (((q.drop at_).take 4).take (j + 1))) := by
        show _ = _
        rw [take_num q at_ 4 j hlt hq4.out, ← hNd.out, hy.out]
      have f0 := b8_nonneg y
      have f1 := b8_lt y
      have f2 : IntKind.u64.wrap (b8 y) = b8 y := u64_in _ f0 (by omega)
      have f3 : IntKind.u64.wrap ((N : Int) * 256) = (N : Int) * 256 := u64_in _ (by omega) (by omega)
      have f4 : (N : Int) * 256 % 18446744073709551616 = (N : Int) * 256 := by omega
      have f5 := or_num N y (by omega)
      obtain ⟨M, hM⟩ : ∃ M, Hid (M = N * 256 + y.toNat) := ⟨_, rfl⟩
      rw [← hM.out] at f5 hst
      replace hNl := Lib.hid hNl
      go_wp2_with fail
      go_round
      case rel => exact ⟨j + 1, M, by go_num, rfl, (show j + 1 ≤ 4 by omega), hst.out⟩
      case measure => simp [intOf]; omega
    · obtain rfl : j = 4 := by have := hj.out; omega
      have fN : IntKind.u32.wrap (N : Int) = (N : Int) := by
        have h2 : N < 4294967296 := by
          rw [hNd.out]
          exact Nat.lt_of_lt_of_le (num_lt (((q.drop at_).take 4).take 4).length _ rfl) (Nat.le_trans (Nat.pow_le_pow_right (by decide) (show (((q.drop at_).take 4).take 4).length ≤ 4 by rw [List.length_take]; omega)) (by decide))
        exact u32_in _ (by omega) (by omega)
      have hT : Hid (((q.drop at_).take 4).take 4 = (q.drop at_).take 4) := by show _ = _; rw [List.take_take]; rfl
      go_wp2_with fail
      go_ret3
      rw [hT.out] at hNd
      obtain rfl := hNd.out
      exact ⟨rfl, rfl⟩

set_option maxRecDepth 100000 in
set_option maxHeartbeats 1000000 in
theorem ahead4_no (q : Text) (at_ : Nat) (hat : at_ ≤ q.length) (h8 : q.length < at_ + 4) (hq : q.length < 140737488355328) (A : Option Addr) (c g : Nat) (why : Int) (w : World) (hb : Blk w g 186 #[.slice A q.length c, .int .i64 (at_ : Int), .int .i64 why]) :
    Calls Tryd.prog 164 #[.pointer (some ⟨g, 0, none⟩), .int .i64 (at_ : Int)] w fun e w' => e = .returned (.tuple #[.int .u32 0, .int .i64 (at_ : Int), .bool false]) ∧ w = w' := by
  have g0 : w.cell? ⟨g, 0, none⟩ = some (.slice A q.length c) := by rw [hb.cell 0]; rfl
  have x1 : (0 : Int) ≤ (at_ : Int) := by omega
  have x2 : (at_ : Int) ≤ (q.length : Int) := by omega
  have x3 : (q.length : Int) < 9223372036854775807 := by omega
  obtain ⟨n, hn⟩ : ∃ n, Hid (n = q.length) := ⟨_, rfl⟩
  rw [← hn.out] at g0 x2 x3 h8
  have y1 : decide ((n : Int) - (at_ : Int) < 4) = true := by simp; omega
  have y2 : decide ((n : Int) < 4 + (at_ : Int)) = true := by simp; omega
  have y3 : decide ((n : Int) < (at_ : Int) + 4) = true := by simp; omega
  clear hb hq hat h8
  go_enter Tryd.func164, Tryd.ntmps164
  go_wp2_with (go_at_call 127; refine (width4 _).mono ?_; rintro e w' ⟨rfl, rfl⟩)
  go_ret3
  exact ⟨rfl, rfl⟩

set_option maxRecDepth 100000 in
set_option maxHeartbeats 1000000 in
theorem take4_any (q : Text) (hq : q.length < 140737488355328) (g need : Nat) (A : Option Addr) (c : Nat) (w : World) (h : Rd w g q A c need) :
    Calls Tryd.prog 122 #[.pointer (some ⟨g, 0, none⟩)] w fun e w' => ∃ N : Nat, e = .returned (.int .u32 (N : Int)) ∧ N < 4294967296 ∧ (need + 4 ≤ q.length → N = num ((q.drop need).take 4)) ∧ Rd w' g q A c (need + 4) ∧ Kept (· = g) w w' := by
  obtain ⟨at_, why, hb, hr, hnil, hA, hc, hat, hyes, hno⟩ := h
  have g1 : w.cell? ⟨g, 1, none⟩ = some (.int .i64 (at_ : Int)) := by rw [hb.cell 1]; rfl
  have g2 : w.cell? ⟨g, 2, none⟩ = some (.int .i64 why) := by rw [hb.cell 2]; rfl
  have gf := hb.frozen 1
  by_cases hn : need ≤ q.length
  · obtain ⟨rfl, rfl⟩ := hyes hn
    by_cases h8 : at_ + 4 ≤ q.length
    · have H := Lib.hid (ahead4_yes q at_ h8 hq A c g 0 w hb hr hc)
      have hF := Lib.hid (Rd.adv hb hr hnil hA hc h8)
      clear hb hyes hno
      go_enter Tryd.func122, Tryd.ntmps122
      go_wp2_with (go_at_call 164; refine Calls.mono H.out ?_; rintro e w' ⟨rfl, rfl⟩)
      go_ret
      exact ⟨_, rfl, num_lt4 _ (by rw [List.length_take, List.length_drop]; omega), fun _ => rfl, hF.out.1, hF.out.2⟩
    · have H := Lib.hid (ahead4_no q at_ hn (by omega) hq A c g 0 w hb)
      have R := Lib.hid (refuse_first g _ _ w hb)
      have hF := Lib.hid (Rd.fail hb hr hnil hA hc hn (show q.length < at_ + 4 by omega))
      clear hb hyes hno
      go_enter Tryd.func122, Tryd.ntmps122
      go_wp2_with (first | (go_at_call 164; refine Calls.mono H.out ?_; rintro e w' ⟨rfl, rfl⟩) | (go_at_call 115; refine Calls.mono R.out ?_; rintro e w' ⟨rfl, rfl⟩))
      go_ret
      exact ⟨0, rfl, by decide, fun h => absurd h (by omega), hF.out.1, hF.out.2⟩
  · obtain rfl := hno (by omega)
    have hF := Lib.hid (Rd.stay hb hr hnil hA hc hat (show q.length < need + 4 by omega))
    clear hb hyes hno
    go_enter Tryd.func122, Tryd.ntmps122
    go_wp2_with fail
    go_ret
    exact ⟨0, rfl, by decide, fun h => absurd h (by omega), hF.out, Kept.refl _ w⟩
end Go.Proofs.YtgldkfaiofkhbaaDoor.Reader7

namespace Go.Proofs.YtgldkfaiofkhbaaDoor.OctetBytes
open Go Go.RowKit Go.Proofs.YtgldkfaiofkhbaaDoor Go.Proofs.YtgldkfaiofkhbaaDoor.Mem Go.Proofs.YtgldkfaiofkhbaaDoor.Sha Go.Proofs.YtgldkfaiofkhbaaDoor.Bytes Go.Proofs.YtgldkfaiofkhbaaDoor.Append Go.Proofs.YtgldkfaiofkhbaaDoor.Octet Go.Proofs.YtgldkfaiofkhbaaDoor.Octet2 Go.Proofs.YtgldkfaiofkhbaaDoor.Octet4 Go.Proofs.YtgldkfaiofkhbaaDoor.Reader Go.Proofs.YtgldkfaiofkhbaaDoor.Reader2 Go.Proofs.YtgldkfaiofkhbaaDoor.Reader3 Go.Proofs.YtgldkfaiofkhbaaDoor.Reader7

set_option maxRecDepth 100000 in
theorem bound_any (w : World) : Calls Tryd.prog 128 #[.int .i64 65536, .int .i64 2147483647] w fun e w' => e = .returned (.int .i64 65536) ∧ w = w' := by
  go_enter Tryd.func128, Tryd.ntmps128
  go_wp2_with fail
  go_ret
  exact ⟨rfl, rfl⟩
set_option maxRecDepth 100000 in
set_option maxHeartbeats 1000000 in
theorem wbytes_any (g : Nat) (r : Option Nat) (l q : Text) (m : Nat) (hqm : q.length = m) (hm : m ≤ 65536) (A : Option Addr) (c : Nat) (w : World) (hl : l.length + 4 + m ≤ 140737488355328) (hw : WrAt w g r l) (hrd : Reads w 1 A m (cells8 q)) (hnil : A = none → m = 0 ∧ c = 0) (hA : 0 < m → ∀ a, A = some a → a.block ≠ g ∧ some a.block ≠ r) :
    Calls Tryd.prog 86 #[.pointer (some ⟨g, 0, none⟩), .slice A m c, .int .i64 65536] w fun e w' => e = .returned (.int .i64 0) ∧ Wrote w g r (l ++ be4 m ++ q) w' := by
  obtain ⟨i0, hi, hz0, hz1, hz2⟩ := info_parts8 info8
  have hB := Lib.hid (fun w' => bound_any w')
  have hP := Lib.hid (put4 g r l m (by show _ < _; omega) w (by omega) hw)
  have hRk : Hid (∀ w2, Kept (fun k => k = g ∨ some k = r) w w2 → Reads w2 1 A m (cells8 q)) := fun w2 hk => hrd.kept0 hk (fun h0 b o e h => by
    have := hA (by omega) _ e
    rcases h with h | h
    · exact this.1 h
    · exact this.2 h)
  have z1 : ¬ (65536 : Int) < (m : Int) := by omega
  have z2 : IntKind.u32.wrap (m : Int) = (m : Int) := u32_in _ (by omega) (by omega)
  have hc1 : Hid ((l ++ be4 m).length + m ≤ maxLen) := by show _ ≤ _; rw [List.length_append, be4_len]; unfold maxLen; omega
  have hc2 : Hid (((l ++ be4 m).length + m) * 1 ≤ 140737488355328) := by show _ ≤ _; rw [List.length_append, be4_len]; omega
  replace hqm := Lib.hid hqm
  replace hnil := Lib.hid hnil
  clear hm hl hw hrd hA
  generalize l ++ be4 m = L at *
  go_enter Tryd.func86, Tryd.ntmps86
  go_wp2_with (first
    | (go_at_call 128; refine (hB.out _).mono ?_; rintro e w' ⟨rfl, rfl⟩)
    | (go_at_call 85; refine hP.out.mono ?_; rintro e w2 ⟨rfl, hW⟩; obtain ⟨r1, h1, k1, c1⟩ := id hW; obtain ⟨v, hb, ho, hvr, hr1⟩ := h1; have hgc : w2.cell? ⟨g, 0, none⟩ = some v := (by rw [hb.cell 0]; rfl); have hrd2 := Lib.hid (hRk.out w2 k1); have hne : Hid (some g ≠ v.ownBlock) := (fun e => by have := (hr1 g (by rw [← hvr]; exact e.symm)).1; omega); have hV : Hid (∀ u, Blk w2 g 171 #[u] → u = v) := (fun u hu => by have h1 : some (Obj.cells #[u] 171 (0, 0)) = some (Obj.cells #[v] 171 (0, 0)) := (show w2.heap[g]? = _ from hu).symm.trans hb; simpa using h1); replace hb := Lib.hid hb; replace ho := Lib.hid ho; replace hW := Lib.hid hW; clear hr1 hvr k1 c1 hP)
    | (at_builtin; refine wpList_append_src w2 rfl (.tmp 21) (.tmp 22) 31 rfl 0 5 i0 (.int .u8 0) 1 1 Tryd.underlying31 hi hz0 hz1 hz2 rfl (by decide) v L.length (cells8 L) rfl ho.out A m c (cells8 q) rfl hrd2.out hnil.out (cells8_one q) hc1.out hc2.out (Nat.zero_le _) ?_; intro v1 W hG; obtain ⟨Av, cv, rfl, -⟩ := Own.reads hG.own; have hX := Lib.hid (hW.out.step (fun r1 h1 => Wrote.append (q := q) h1 hV.out (by rw [hqm.out]; exact hG))); obtain ⟨hf1, hf2⟩ := far_cell hb.out hne.out (Kept.refl _ w2) hG.grow; clear hG))
  go_ret
  exact ⟨rfl, hX.out⟩
set_option maxRecDepth 100000 in
theorem refuse_six (g : Nat) (s : Value) (at_ : Int) (w : World) (hb : Blk w g 186 #[s, .int .i64 at_, .int .i64 0]) :
    Calls Tryd.prog 115 #[.pointer (some ⟨g, 0, none⟩), .int .i64 6] w fun e w' => e = .returned (.tuple #[]) ∧ w.setCell ⟨g, 2, none⟩ (.int .i64 6) = w' := by
  have g2 : w.cell? ⟨g, 2, none⟩ = some (.int .i64 0) := by rw [hb.cell 2]; rfl
  have gf := hb.frozen 2
  clear hb
  go_enter Tryd.func115, Tryd.ntmps115
  go_wp2_with fail
  go_end0
  exact ⟨rfl, rfl⟩
/-- A reader that has refused. -/
def Bad (w : World) (g : Nat) : Prop := ∃ (s : Value) (a why : Int), Blk w g 186 #[s, .int .i64 a, .int .i64 why] ∧ why ≠ 0
theorem Rd.bad {w : World} {g need c : Nat} {q : Text} {A : Option Addr} (h : Rd w g q A c need) (hn : q.length < need) : Bad w g := by
  obtain ⟨at_, why, hb, _, _, _, _, _, _, hno⟩ := h
  exact ⟨_, _, _, hb, by rw [hno hn]; decide⟩
theorem Bad.blk {w w' : World} {g : Nat} (h : Bad w g) (hk : w'.heap[g]? = w.heap[g]?) : Bad w' g := by
  obtain ⟨s, a, y, hb, h0⟩ := h
  exact ⟨s, a, y, hk.trans hb, h0⟩
theorem Out.since {S : Nat → Prop} {w w1 w2 : World} {A : Option Addr} {c : Nat} {p : Text} (h : Out w1 w2 A c p) (hk : Kept S w w1) : Out w w2 A c p := ⟨h.1, h.2.1, h.2.2.1, fun a e => Nat.le_trans hk.size (h.2.2.2 a e)⟩
/-- Can Bytes be taken there? -/
def bytesOk (q : Text) (need : Nat) : Prop := need + 4 ≤ q.length ∧ num ((q.drop need).take 4) ≤ 65536 ∧ need + 4 + num ((q.drop need).take 4) ≤ q.length
set_option maxRecDepth 100000 in
set_option maxHeartbeats 1000000 in
theorem rbytes_any (q : Text) (hq : q.length < 140737488355328) (g need : Nat) (A : Option Addr) (c : Nat) (w : World) (h : Rd w g q A c need) :
    Calls Tryd.prog 123 #[.pointer (some ⟨g, 0, none⟩), .int .i64 65536] w fun e w' => ∃ A' c' p, e = .returned (.slice A' p.length c') ∧ (bytesOk q need → p = (q.drop (need + 4)).take (num ((q.drop need).take 4)) ∧ Rd w' g q A c (need + 4 + num ((q.drop need).take 4))) ∧ (¬ bytesOk q need → p = [] ∧ Bad w' g) ∧ Out w w' A' c' p ∧ Kept (· = g) w w' := by
  have hRd := Lib.hid h
  obtain ⟨at_, why, hb, hr, hnil, hA, hc, hat, hyes, hno⟩ := h
  have g0 : w.cell? ⟨g, 0, none⟩ = some (.slice A q.length c) := by rw [hb.cell 0]; rfl
  have g1 : w.cell? ⟨g, 1, none⟩ = some (.int .i64 (at_ : Int)) := by rw [hb.cell 1]; rfl
  have g2 : w.cell? ⟨g, 2, none⟩ = some (.int .i64 why) := by rw [hb.cell 2]; rfl
  have gf := hb.frozen 1
  have hB := Lib.hid (fun w' => bound_any w')
  have outn : ∀ w', Out w w' none 0 [] := fun w' => ⟨Reads.nil_ _ _ _, fun _ => ⟨rfl, rfl⟩, Nat.le_refl _, fun _ e => by cases e⟩
  by_cases hn : need ≤ q.length
  · obtain ⟨rfl, rfl⟩ := hyes hn
    by_cases h4 : at_ + 4 ≤ q.length
    · have H := Lib.hid (ahead4_yes q at_ h4 hq A c g 0 w hb hr hc)
      obtain ⟨k, hk⟩ : ∃ k, Hid (num ((q.drop at_).take 4) = k) := ⟨_, Lib.hid rfl⟩
      have hk32 : k < 4294967296 := by rw [← hk.out]; exact num_lt4 _ (by rw [List.length_take]; omega)
      have hok : bytesOk q at_ ↔ k ≤ 65536 ∧ at_ + 4 + k ≤ q.length := by unfold bytesOk; rw [hk.out]; exact ⟨fun h => h.2, fun h => ⟨h4, h⟩⟩
      rw [hk.out] at H ⊢
      have x2 : IntKind.i64.wrap ((q.length : Int) - ((at_ : Int) + 4)) = (q.length : Int) - ((at_ : Int) + 4) := IntWalk.i64_in _ (by omega)
      have x3 : IntKind.i64.wrap (k : Int) = (k : Int) := IntWalk.i64_in _ (by omega)
      by_cases hm : k ≤ 65536
      · have z1 : ¬ (65536 : Int) < (k : Int) := by omega
        by_cases hl : at_ + 4 + k ≤ q.length
        · have z2 : ¬ (q.length : Int) - ((at_ : Int) + 4) < (k : Int) := by omega
          have hF := Lib.hid (Rd.adv hb hr hnil hA hc h4)
          have hT := Lib.hid (fun w' h => raw_any q hq g (at_ + 4) k (by omega) A c w' h)
          replace hok := Lib.hid (hok.2 ⟨hm, hl⟩)
          clear hb hyes hno hr hk32 hm hl outn hnil hA hc
          go_enter Tryd.func123, Tryd.ntmps123
          go_wp2_with (first
            | (go_at_call 164; refine Calls.mono H.out ?_; rintro e w' ⟨rfl, rfl⟩)
            | (go_at_call 128; refine (hB.out _).mono ?_; rintro e w' ⟨rfl, rfl⟩)
            | (go_at_call 76; refine (hT.out _ hF.out.1).mono ?_; rintro e w5 ⟨A', c', p, rfl, hp1, hp2, hO5, hR5, hk5⟩))
          go_ret
          refine ⟨A', c', p, rfl, fun _ => ⟨?_, hR5⟩, fun h => absurd hok.out h, Out.since hO5 hF.out.2, hF.out.2.trans hk5 (fun _ _ h => h)⟩
          exact hp1 (by have := hok.out.2.2; rw [hk.out] at this; exact this)
        · have z2 : (q.length : Int) - ((at_ : Int) + 4) < (k : Int) := by omega
          have R := Lib.hid (refuse_first g _ _ w hb)
          have hF := Lib.hid (Rd.fail hb hr hnil hA hc hat (show q.length < at_ + 4 + k by omega))
          have hlt := Lib.hid (show q.length < at_ + 4 + k by omega)
          replace hok := Lib.hid (fun h => hl (hok.1 h).2)
          have outn := Lib.hid outn
          clear hb hyes hno hr hk32 hm hl hnil hA hc
          go_enter Tryd.func123, Tryd.ntmps123
          go_wp2_with (first
            | (go_at_call 164; refine Calls.mono H.out ?_; rintro e w' ⟨rfl, rfl⟩)
            | (go_at_call 128; refine (hB.out _).mono ?_; rintro e w' ⟨rfl, rfl⟩)
            | (go_at_call 115; refine Calls.mono R.out ?_; rintro e w' ⟨rfl, rfl⟩))
          go_ret
          exact ⟨none, 0, [], rfl, fun h => absurd h hok.out, fun _ => ⟨rfl, Rd.bad hF.out.1 hlt.out⟩, outn.out _, hF.out.2⟩
      · have z1 : (65536 : Int) < (k : Int) := by omega
        have R := Lib.hid (refuse_six g _ _ w hb)
        have hF : Hid (Bad (w.setCell ⟨g, 2, none⟩ (.int .i64 6)) g) := ⟨_, _, 6, by have := hb.set_ 2 (.int .i64 6); simpa using this, by decide⟩
        have hK : Hid (Kept (· = g) w (w.setCell ⟨g, 2, none⟩ (.int .i64 6))) := (Kept.refl (· = g) w).setCell (p := ⟨g, 2, none⟩) (.inl rfl) _
        replace hok := Lib.hid (fun h => hm (hok.1 h).1)
        have outn := Lib.hid outn
        clear hb hyes hno hr hk32 hm hnil hA hc
        go_enter Tryd.func123, Tryd.ntmps123
        go_wp2_with (first
          | (go_at_call 164; refine Calls.mono H.out ?_; rintro e w' ⟨rfl, rfl⟩)
          | (go_at_call 128; refine (hB.out _).mono ?_; rintro e w' ⟨rfl, rfl⟩)
          | (go_at_call 115; refine Calls.mono R.out ?_; rintro e w' ⟨rfl, rfl⟩))
        go_ret
        exact ⟨none, 0, [], rfl, fun h => absurd h hok.out, fun _ => ⟨rfl, hF.out⟩, outn.out _, hK.out⟩
    · have H := Lib.hid (ahead4_no q at_ hn (by omega) hq A c g 0 w hb)
      have R := Lib.hid (refuse_first g _ _ w hb)
      have hF := Lib.hid (Rd.fail hb hr hnil hA hc hn (show q.length < at_ + 4 by omega))
      have hlt := Lib.hid (show q.length < at_ + 4 by omega)
      have hok := Lib.hid (fun h : bytesOk q at_ => h4 h.1)
      have outn := Lib.hid outn
      clear hb hyes hno hr hnil hA hc h4
      go_enter Tryd.func123, Tryd.ntmps123
      go_wp2_with (first
        | (go_at_call 164; refine Calls.mono H.out ?_; rintro e w' ⟨rfl, rfl⟩)
        | (go_at_call 115; refine Calls.mono R.out ?_; rintro e w' ⟨rfl, rfl⟩))
      go_ret
      exact ⟨none, 0, [], rfl, fun h => absurd h hok.out, fun _ => ⟨rfl, Rd.bad hF.out.1 hlt.out⟩, outn.out _, hF.out.2⟩
  · obtain rfl := hno (by omega)
    have hok := Lib.hid (fun h : bytesOk q need => hn (by have := h.1; omega))
    have hF := Lib.hid (Rd.bad hRd.out (by omega))
    have outn := Lib.hid outn
    clear hb hyes hno hr hnil hA hc hn
    go_enter Tryd.func123, Tryd.ntmps123
    go_wp2_with fail
    go_ret
    exact ⟨none, 0, [], rfl, fun h => absurd h hok.out, fun _ => ⟨rfl, hF.out⟩, outn.out _, Kept.refl _ w⟩
end Go.Proofs.YtgldkfaiofkhbaaDoor.OctetBytes

namespace Go.Proofs.YtgldkfaiofkhbaaDoor.Flag
open Go Go.RowKit Go.Proofs.YtgldkfaiofkhbaaDoor Go.Proofs.YtgldkfaiofkhbaaDoor.Mem Go.Proofs.YtgldkfaiofkhbaaDoor.Sha Go.Proofs.YtgldkfaiofkhbaaDoor.Bytes Go.Proofs.YtgldkfaiofkhbaaDoor.Append Go.Proofs.YtgldkfaiofkhbaaDoor.Octet Go.Proofs.YtgldkfaiofkhbaaDoor.QuietTail Go.Proofs.YtgldkfaiofkhbaaDoor.Grown Go.Proofs.YtgldkfaiofkhbaaDoor.Reader Go.Proofs.YtgldkfaiofkhbaaDoor.Reader2

/-- May a flag be read at a place? -/
def flagB (q : Text) (need : Nat) : Bool := decide (need + 1 ≤ q.length) && decide (b8 (q.getD need 0) ≤ 1)
/-- How much has been asked for behind it (above all that is there: it was refused). -/
def flagN (q : Text) (need : Nat) : Nat := if flagB q need = true then need + 1 else q.length + 1
set_option maxRecDepth 100000 in
set_option maxHeartbeats 1000000 in
theorem flag_any (q : Text) (hq : q.length < 140737488355328) (g need : Nat) (A : Option Addr) (c : Nat) (w : World) (h : Rd w g q A c need) :
    Calls Tryd.prog 78 #[.pointer (some ⟨g, 0, none⟩)] w fun e w' => e = .returned (.bool (flagB q need && (b8 (q.getD need 0) == 1))) ∧ Rd w' g q A c (flagN q need) ∧ Kept (· = g) w w' := by
  obtain ⟨at_, why, hb, hr, hnil, hA, hc, hat, hyes, hno⟩ := h
  have g1 : w.cell? ⟨g, 1, none⟩ = some (.int .i64 (at_ : Int)) := by rw [hb.cell 1]; rfl
  have g2 : w.cell? ⟨g, 2, none⟩ = some (.int .i64 why) := by rw [hb.cell 2]; rfl
  have gf := hb.frozen 1
  by_cases hn : need ≤ q.length
  · obtain ⟨rfl, rfl⟩ := hyes hn
    by_cases h8 : at_ + 1 ≤ q.length
    · have H := Lib.hid (ahead1_yes q at_ h8 hq A c g 0 w hb hr hc)
      obtain ⟨y, hy⟩ : ∃ y, b8 (q.getD at_ 0) = y := ⟨_, rfl⟩
      rw [hy] at H ⊢
      by_cases h1 : y ≤ 1
      · have hF := Lib.hid (Rd.adv hb hr hnil hA hc h8)
        have hf : flagB q at_ = true := by unfold flagB; rw [decide_eq_true h8, hy, decide_eq_true h1]; rfl
        have hfn : flagN q at_ = at_ + 1 := by unfold flagN; rw [if_pos hf]
        rw [hf, hfn, Bool.true_and]
        have y1 : (1 < y) = False := eq_false (by omega)
        obtain ⟨yb, hyb⟩ : ∃ b, (y == 1) = b := ⟨_, rfl⟩
        rw [hyb]
        clear hb hyes hno hf hfn hy h1
        go_enter Tryd.func78, Tryd.ntmps78
        go_wp2_with (go_at_call 120; refine Calls.mono H.out ?_; rintro e w' ⟨rfl, rfl⟩)
        go_ret
        exact ⟨rfl, hF.out.1, hF.out.2⟩
      · have R := Lib.hid (refuse_first g _ _ w hb)
        have hF := Lib.hid (Rd.fail hb hr hnil hA hc hn (show q.length < q.length + 1 by omega))
        have hf : flagB q at_ = false := by unfold flagB; rw [hy, decide_eq_false h1, Bool.and_false]
        have hfn : flagN q at_ = q.length + 1 := by unfold flagN; rw [hf]; rfl
        rw [hf, hfn, Bool.false_and]
        have y1 : (1 < y) = True := eq_true (by omega)
        clear hb hyes hno hf hfn hy h1
        go_enter Tryd.func78, Tryd.ntmps78
        go_wp2_with (first | (go_at_call 120; refine Calls.mono H.out ?_; rintro e w' ⟨rfl, rfl⟩) | (go_at_call 115; refine Calls.mono R.out ?_; rintro e w' ⟨rfl, rfl⟩))
        go_ret
        exact ⟨rfl, hF.out.1, hF.out.2⟩
    · have H := Lib.hid (ahead1_no q at_ hn (by omega) hq A c g 0 w hb)
      have R := Lib.hid (refuse_first g _ _ w hb)
      have hF := Lib.hid (Rd.fail hb hr hnil hA hc hn (show q.length < q.length + 1 by omega))
      have hf : flagB q at_ = false := by unfold flagB; rw [decide_eq_false h8, Bool.false_and]
      have hfn : flagN q at_ = q.length + 1 := by unfold flagN; rw [hf]; rfl
      rw [hf, hfn, Bool.false_and]
      clear hb hyes hno hf hfn
      go_enter Tryd.func78, Tryd.ntmps78
      go_wp2_with (first | (go_at_call 120; refine Calls.mono H.out ?_; rintro e w' ⟨rfl, rfl⟩) | (go_at_call 115; refine Calls.mono R.out ?_; rintro e w' ⟨rfl, rfl⟩))
      go_ret
      exact ⟨rfl, hF.out.1, hF.out.2⟩
  · obtain rfl := hno (by omega)
    have hF := Lib.hid (Rd.stay hb hr hnil hA hc hat (show q.length < q.length + 1 by omega))
    have hf : flagB q need = false := by unfold flagB; rw [decide_eq_false (by omega), Bool.false_and]
    have hfn : flagN q need = q.length + 1 := by unfold flagN; rw [hf]; rfl
    rw [hf, hfn, Bool.false_and]
    clear hb hyes hno hf hfn
    go_enter Tryd.func78, Tryd.ntmps78
    go_wp2_with fail
    go_ret
    exact ⟨rfl, hF.out, Kept.refl _ w⟩
end Go.Proofs.YtgldkfaiofkhbaaDoor.Flag
