/-
  octet's Reader, walked. 'need': how many bytes were asked for since the beginning: what the reader refuses hangs on it and on the text's length alone.
-/
import Derived.Test.YtngieimjlkpkaaaOctet2
import Derived.Test.YtngieimjlkpkaaaGrown
namespace Go.Proofs.Ytngieimjlkpkaaa.Reader
open Go Go.RowKit Go.Proofs.Ytngieimjlkpkaaa Go.Proofs.Ytngieimjlkpkaaa.Mem Go.Proofs.Ytngieimjlkpkaaa.Sha Go.Proofs.Ytngieimjlkpkaaa.Bytes Go.Proofs.Ytngieimjlkpkaaa.Append Go.Proofs.Ytngieimjlkpkaaa.Octet Go.Proofs.Ytngieimjlkpkaaa.QuietTail Go.Proofs.Ytngieimjlkpkaaa.Grown

/-- The number that bytes are, the highest first. -/
def num (l : Text) : Nat := l.foldl (fun a c => a * 256 + c.toNat) 0
theorem num_snoc (l : Text) (c : BitVec 8) : num (l ++ [c]) = num l * 256 + c.toNat := by simp [num]
theorem num_lt : ∀ (n : Nat) (l : Text), l.length = n → num l < 256 ^ n
  | 0, l, h => by
    obtain rfl : l = [] := List.eq_nil_of_length_eq_zero h
    simp [num]
  | n + 1, l, h => by
    have hl : l = l.take n ++ [l[n]'(by omega)] := by
      have := List.take_append_drop n l
      conv => lhs; rw [← this]
      congr 1
      rw [List.drop_eq_getElem_cons (by omega), List.drop_of_length_le (by omega)]
    have h1 := num_lt n (l.take n) (by rw [List.length_take]; omega)
    have h2 := (l[n]'(by omega)).isLt
    rw [hl, num_snoc, Nat.pow_succ]
    omega
theorem or_num (a : Nat) (c : BitVec 8) (ha : a < 72057594037927936) : bits .or .u64 ((a : Int) * 256) (b8 c) = ((a * 256 + c.toNat : Nat) : Int) := by
  have hc := c.isLt
  have h1 : ((a : Int) * 256) = ((a * 256 : Nat) : Int) := by omega
  have h2 : a * 256 ||| c.toNat = a * 256 + c.toNat := by
    have := Nat.two_pow_add_eq_or_of_lt (i := 8) (b := c.toNat) (by omega) a
    rw [show 2 ^ 8 * a = a * 256 by omega] at this
    exact this.symm
  have e1 : (BitVec.ofInt 64 ((a * 256 : Nat) : Int)).toNat = a * 256 := by
    rw [BitVec.ofInt_natCast, BitVec.toNat_ofNat]; exact Nat.mod_eq_of_lt (by omega)
  have e2 : (BitVec.ofInt 64 (c.toNat : Int)).toNat = c.toNat := by
    rw [BitVec.ofInt_natCast, BitVec.toNat_ofNat]; exact Nat.mod_eq_of_lt (by omega)
  unfold b8
  rw [h1]
  show IntKind.u64.wrap ((BitVec.ofInt 64 ((a * 256 : Nat) : Int) ||| BitVec.ofInt 64 (c.toNat : Int)).toNat : Int) = _
  rw [BitVec.toNat_or, e1, e2, h2]
  exact u64_in _ (by omega) (by omega)

/-- A reader at block g over the text q, after 'need' bytes were asked for. -/
def Rd (w : World) (g : Nat) (q : Text) (A : Option Addr) (c need : Nat) : Prop :=
  ∃ at_ why, Blk w g 108 #[.slice A q.length c, .int .i64 ((at_ : Nat) : Int), .int .i64 why] ∧ Reads w 1 A q.length (cells8 q) ∧ (A = none → q.length = 0 ∧ c = 0) ∧ (0 < q.length → ∀ a, A = some a → a.block ≠ g) ∧ q.length ≤ c ∧
    at_ ≤ q.length ∧ (need ≤ q.length → at_ = need ∧ why = 0) ∧ (q.length < need → why = 8)

section
variable {w w' : World} {g need c : Nat} {q : Text} {A : Option Addr}
theorem Rd.lt (h : Rd w g q A c need) : g < w.heap.size := by obtain ⟨_, _, hb, _⟩ := h; exact hb.lt
theorem Rd.kept {S : Nat → Prop} (h : Rd w g q A c need) (hk : Kept S w w') (hS : ∀ b, b < w.heap.size → ¬ S b) : Rd w' g q A c need := by
  obtain ⟨at_, why, hb, hr, h1⟩ := h
  refine ⟨at_, why, hb.kept hk (hS g hb.lt), hr.kept0 hk (fun hp b o e => ?_), h1⟩
  obtain ⟨b', o', e', hlt, _⟩ := hr.2 hp
  rw [e] at e'
  injection e' with e'
  injection e' with e1
  subst e1
  exact hS b hlt
theorem Rd.below (h : Rd w g q A c need) (hb : Below w.heap.size w w') : Rd w' g q A c need := h.kept (S := fun _ => False) (Kept.of_below hb) (fun _ _ x => x)
theorem Rd.alloc (h : Rd w g q A c need) (o : Obj) : Rd (w.alloc o) g q A c need := h.below (Below.heap_below w o)
theorem Rd.drewN (h : Rd w g q A c need) (n : Nat) : Rd (w.drewN n) g q A c need := h.below (below_drawn (Below.refl _ _) n)
end

set_option maxRecDepth 100000 in
set_option maxHeartbeats 1000000 in
theorem read_any (q : Text) (k : Nat) (hk : q.length = k) (hk47 : k < 140737488355328) (A : Option Addr) (c : Nat) (w : World) (hr : Reads w 1 A k (cells8 q)) (hnil : A = none → k = 0 ∧ c = 0) :
    Calls Try.prog 53 #[.slice A k c] w fun e w' => ∃ g A' c', e = .returned (.pointer (some ⟨g, 0, none⟩)) ∧ w.heap.size ≤ g ∧ Below w.heap.size w w' ∧ Rd w' g q A' c' 0 := by
  obtain ⟨i0, hi, hz0, hz1, hz2⟩ := info_parts8 info8
  subst hk
  have hc1 : Hid (0 + q.length ≤ maxLen) := by show _ ≤ _; unfold maxLen; omega
  have hc2 : Hid ((0 + q.length) * 1 ≤ 140737488355328) := by show _ ≤ _; omega
  replace hr := Lib.hid hr
  replace hnil := Lib.hid hnil
  clear hk47
  go_enter Try.func53, Try.ntmps53
  go_wp2_with (at_builtin; refine wpList_append_src _ rfl (.const (.slice none 0 0)) (.tmp 3) 23 rfl w.heap.size 5 i0 (.int .u8 0) 1 1 Try.underlying23 hi hz0 hz1 hz2 rfl (by decide) (.slice none 0 0) 0 [] rfl (World.ownsRow_nil _ _ _ _) A q.length c (cells8 q) rfl hr.out hnil.out (cells8_one q) hc1.out hc2.out (Nat.le_refl _) ?_; intro v1 w1 hG; have hbb : Hid (Below w.heap.size w w1) := hG.below (Below.refl _ _) (Nat.le_refl _) (fun k e => by cases e); have hO := hG.own; rw [Nat.zero_add, List.nil_append] at hO; obtain ⟨A1, c1, rfl, hn1, _, hnil1, hr1, -⟩ := Own.reads hO; clear hG hO; replace hr1 := Lib.hid hr1; replace hnil1 := Lib.hid hnil1; replace hn1 := Lib.hid hn1)
  go_ret
  refine ⟨w1.heap.size, A1, c1, rfl, hbb.out.size, hbb.out.alloc hbb.out.size _, 0, 0, Blk.new _ _ _, hr1.out.alloc _, hnil1.out, (fun h0 a e h => ?_), hn1.out, Nat.zero_le _, fun _ => ⟨rfl, rfl⟩, fun h => absurd h (by omega)⟩
  subst e
  obtain ⟨b, o, e2, hlt, _⟩ := hr1.out.2 (by omega)
  injection e2 with e2
  subst e2
  simp at h
  omega

/-- 's[l:h]', l and h within. -/
theorem run_mid {P : Program} {t : TypeId} {A : Option Addr} {n c l h : Nat} (ht : P.underlying t = some (.slice (P.elem t))) (hs : ∀ w, (sizeOf (P.elem t)).run P w = .ok 1 w) (h1 : l ≤ h) (h2 : h ≤ c) (x y : Int) (hx : x = l) (hy : y = h) (w : World) :
    (Instr.sliceAt t (.slice A n c) (some (.int .i64 x)) (some (.int .i64 y)) none).run P w = .ok (.slice (cutA A l c) (h - l) (c - l)) w := by
  subst hx hy
  rw [run_sliceAt_slice w t _ _ _ _ ht, run_slice_lh w t A n c ht .i64 .i64 (l : Int) (h : Int) (by omega) (by omega) (by omega), hs]
  simp [Result.andThen, sliced, cutA]

/-- What the walk of 'ahead' must know of a reader that has room. -/
theorem Rd.at_ {w : World} {need : Nat} {q : Text} {A : Option Addr} (hr : Reads w 1 A q.length (cells8 q)) {k : Nat} (h0 : 0 < k) (hk : need + k ≤ q.length) : ∃ b o, A = some ⟨b, o, none⟩ ∧ b < w.heap.size ∧ ∀ j, j < k → w.cell? ⟨b, o + need + j, none⟩ = some (.int .u8 (b8 (q.getD (need + j) 0))) := by
  obtain ⟨b, o, e, hb, hc⟩ := hr.2 (by omega)
  refine ⟨b, o, e, hb, fun j hj => ?_⟩
  rw [Nat.add_assoc]
  exact hc _ _ (cells8_at q _ (by omega))

theorem take_num (q : Text) (need k j : Nat) (hj : j < k) (hk : need + k ≤ q.length) : num (((q.drop need).take k).take (j + 1)) = num (((q.drop need).take k).take j) * 256 + (q.getD (need + j) 0).toNat := by
  have h : ((q.drop need).take k)[j]? = some (q.getD (need + j) 0) := by
    rw [List.getElem?_take, if_pos hj, List.getElem?_drop]
    simp [List.getD, show need + j < q.length by omega]
  rw [List.take_add_one, h, Option.toList_some, num_snoc]

set_option maxRecDepth 100000 in
set_option maxHeartbeats 1000000 in
theorem ahead8_yes (q : Text) (at_ : Nat) (h8 : at_ + 8 ≤ q.length) (hq : q.length < 140737488355328) (A : Option Addr) (c g : Nat) (why : Int) (w : World) (hb : Blk w g 108 #[.slice A q.length c, .int .i64 (at_ : Int), .int .i64 why]) (hr : Reads w 1 A q.length (cells8 q)) (hc : q.length ≤ c) :
    Calls Try.prog 77 #[.pointer (some ⟨g, 0, none⟩), .int .i64 (at_ : Int)] w fun e w' => e = .returned (.tuple #[.int .u64 (num ((q.drop at_).take 8) : Int), .int .i64 ((at_ : Int) + 8), .bool true]) ∧ w = w' := by
  obtain ⟨b, o, rfl, hbl, hcell⟩ := Rd.at_ hr (k := 8) (by omega) h8
  have g0 : w.cell? ⟨g, 0, none⟩ = some (.slice (some ⟨b, o, none⟩) q.length c) := by rw [hb.cell 0]; rfl
  have x1 : (0 : Int) ≤ (at_ : Int) := by omega
  have x2 : (at_ : Int) + 8 ≤ (q.length : Int) := by omega
  have x3 : (q.length : Int) < 9223372036854775807 := by omega
  have X : ∀ w', (Instr.sliceAt 23 (.slice (some ⟨b, o, none⟩) q.length c) (some (.int .i64 (at_ : Int))) (some (.int .i64 ((at_ : Int) + 8))) none).run Try.prog w' = .ok (.slice (some ⟨b, o + at_, none⟩) 8 (c - at_)) w' := fun w' => by
    rw [run_mid (l := at_) (h := at_ + 8) Try.underlying23 (fun _ => rfl) (by omega) (by omega) _ _ rfl (by omega) w']
    simp only [cutA, if_neg (show ¬ c = at_ by omega), Option.map_some, add_at]
    congr 2
    omega
  have x4 : (8 : Int) ≤ (q.length : Int) - (at_ : Int) := by omega
  obtain ⟨n, hn⟩ : ∃ n, Hid (n = q.length) := ⟨_, rfl⟩
  rw [← hn.out] at g0 x2 x3 x4
  simp only [← hn.out] at X
  have y1 : decide ((n : Int) - (at_ : Int) < 8) = false := by simp; omega
  have y2 : decide ((n : Int) < 8 + (at_ : Int)) = false := by simp; omega
  have y3 : decide ((n : Int) < (at_ : Int) + 8) = false := by simp; omega
  replace hcell := Lib.hid hcell
  have hq8 := Lib.hid h8
  clear hb hr hc h8 hq hbl
  go_enter Try.func77, Try.ntmps77
  go_wp2_with (go_at_call 66; refine (width8 _).mono ?_; rintro e w' ⟨rfl, rfl⟩)
  clear X y1 y2 y3
  go_loop [8, 32] (fun v u => ∃ j N : Nat, u = .int .i64 (j : Int) ∧ v = .int .u64 (N : Int) ∧ Hid (j ≤ 8) ∧ Hid (N = num (((q.drop at_).take 8).take j))) (fun _ u => 8 - (intOf u).toNat)
  case atStart => exact ⟨0, 0, rfl, rfl, (show 0 ≤ 8 by omega), rfl⟩
  case round =>
    obtain ⟨j, N, rfl, rfl, hj, hNd⟩ := hrel
    by_cases hlt : j < 8
    · have z1 : (j : Int) < 8 := by omega
      have z2 : (0 : Int) ≤ (j : Int) := by omega
      have hNl : N < 72057594037927936 := by
        rw [hNd.out]
        have h1 := num_lt (((q.drop at_).take 8).take j).length _ rfl
        have h2 : (((q.drop at_).take 8).take j).length ≤ 7 := by rw [List.length_take]; omega
        exact Nat.lt_of_lt_of_le h1 (Nat.le_trans (Nat.pow_le_pow_right (by decide) h2) (by decide))
      have hcj := hcell.out j hlt
      obtain ⟨y, hy⟩ : ∃ y, Hid (y = q.getD (at_ + j) 0) := ⟨_, rfl⟩
      rw [← hy.out] at hcj
      have hst : Hid (N * 256 + y.toNat = num (((q.drop at_).take 8).take (j + 1))) := by
        show _ = _
        rw [take_num q at_ 8 j hlt hq8.out, ← hNd.out, hy.out]
      have f0 := b8_nonneg y
      have f1 := b8_lt y
      have f2 : IntKind.u64.wrap (b8 y) = b8 y := u64_in _ f0 (by omega)
      have f3 : IntKind.u64.wrap ((N : Int) * 256) = (N : Int) * 256 := u64_in _ (by omega) (by omega)
      have f4 : (N : Int) * 256 % 18446744073709551616 = (N : Int) * 256 := by omega
      have f5 := or_num N y hNl
      obtain ⟨M, hM⟩ : ∃ M, Hid (M = N * 256 + y.toNat) := ⟨_, rfl⟩
      rw [← hM.out] at f5 hst
      replace hNl := Lib.hid hNl
      go_wp2_with fail
      go_round
      case rel => exact ⟨j + 1, M, by go_num, rfl, (show j + 1 ≤ 8 by omega), hst.out⟩
      case measure => simp [intOf]; omega
    · obtain rfl : j = 8 := by have := hj.out; omega
      have hT : Hid (((q.drop at_).take 8).take 8 = (q.drop at_).take 8) := by show _ = _; rw [List.take_take]; rfl
      go_wp2_with fail
      go_ret3
      rw [hT.out] at hNd
      obtain rfl := hNd.out
      exact ⟨rfl, rfl⟩
set_option maxRecDepth 100000 in
set_option maxHeartbeats 1000000 in
theorem ahead1_yes (q : Text) (at_ : Nat) (h8 : at_ + 1 ≤ q.length) (hq : q.length < 140737488355328) (A : Option Addr) (c g : Nat) (why : Int) (w : World) (hb : Blk w g 108 #[.slice A q.length c, .int .i64 (at_ : Int), .int .i64 why]) (hr : Reads w 1 A q.length (cells8 q)) (hc : q.length ≤ c) :
    Calls Try.prog 75 #[.pointer (some ⟨g, 0, none⟩), .int .i64 (at_ : Int)] w fun e w' => e = .returned (.tuple #[.int .u8 (b8 (q.getD at_ 0)), .int .i64 ((at_ : Int) + 1), .bool true]) ∧ w = w' := by
  obtain ⟨b, o, rfl, hbl, hcell⟩ := Rd.at_ hr (k := 1) (by omega) h8
  have g0 : w.cell? ⟨g, 0, none⟩ = some (.slice (some ⟨b, o, none⟩) q.length c) := by rw [hb.cell 0]; rfl
  have x1 : (0 : Int) ≤ (at_ : Int) := by omega
  have x2 : (at_ : Int) + 1 ≤ (q.length : Int) := by omega
  have x3 : (q.length : Int) < 9223372036854775807 := by omega
  have X : ∀ w', (Instr.sliceAt 23 (.slice (some ⟨b, o, none⟩) q.length c) (some (.int .i64 (at_ : Int))) (some (.int .i64 ((at_ : Int) + 1))) none).run Try.prog w' = .ok (.slice (some ⟨b, o + at_, none⟩) 1 (c - at_)) w' := fun w' => by
    rw [run_mid (l := at_) (h := at_ + 1) Try.underlying23 (fun _ => rfl) (by omega) (by omega) _ _ rfl (by omega) w']
    simp only [cutA, if_neg (show ¬ c = at_ by omega), Option.map_some, add_at]
    congr 2
    omega
  have x4 : (1 : Int) ≤ (q.length : Int) - (at_ : Int) := by omega
  obtain ⟨n, hn⟩ : ∃ n, Hid (n = q.length) := ⟨_, rfl⟩
  rw [← hn.out] at g0 x2 x3 x4
  simp only [← hn.out] at X
  have y1 : decide ((n : Int) - (at_ : Int) < 1) = false := by simp; omega
  have y2 : decide ((n : Int) < 1 + (at_ : Int)) = false := by simp; omega
  have y3 : decide ((n : Int) < (at_ : Int) + 1) = false := by simp; omega
  replace hcell := Lib.hid hcell
  have hq8 := Lib.hid h8
  clear hb hr hc h8 hq hbl
  go_enter Try.func75, Try.ntmps75
  go_wp2_with (go_at_call 48; refine (width1 _).mono ?_; rintro e w' ⟨rfl, rfl⟩)
  clear X y1 y2 y3
  go_loop [8, 32] (fun v u => ∃ j N : Nat, u = .int .i64 (j : Int) ∧ v = .int .u64 (N : Int) ∧ Hid (j ≤ 1) ∧ Hid (N = num (((q.drop at_).take 1).take j))) (fun _ u => 1 - (intOf u).toNat)
  case atStart => exact ⟨0, 0, rfl, rfl, (show 0 ≤ 1 by omega), rfl⟩
  case round =>
    obtain ⟨j, N, rfl, rfl, hj, hNd⟩ := hrel
    by_cases hlt : j < 1
    · have z1 : (j : Int) < 1 := by omega
      have z2 : (0 : Int) ≤ (j : Int) := by omega
      have hNl : N < 72057594037927936 := by
        rw [hNd.out]
        have h1 := num_lt (((q.drop at_).take 1).take j).length _ rfl
        have h2 : (((q.drop at_).take 1).take j).length ≤ 0 := by rw [List.length_take]; omega
        exact Nat.lt_of_lt_of_le h1 (Nat.le_trans (Nat.pow_le_pow_right (by decide) h2) (by decide))
      have hcj := hcell.out j hlt
      obtain ⟨y, hy⟩ : ∃ y, Hid (y = q.getD (at_ + j) 0) := ⟨_, rfl⟩
      rw [← hy.out] at hcj
      have hst : Hid (N * 256 + y.toNat = num (((q.drop at_).take 1).take (j + 1))) := by
        show _ = _
        rw [take_num q at_ 1 j hlt hq8.out, ← hNd.out, hy.out]
      have f0 := b8_nonneg y
      have f1 := b8_lt y
      have f2 : IntKind.u64.wrap (b8 y) = b8 y := u64_in _ f0 (by omega)
      have f3 : IntKind.u64.wrap ((N : Int) * 256) = (N : Int) * 256 := u64_in _ (by omega) (by omega)
      have f4 : (N : Int) * 256 % 18446744073709551616 = (N : Int) * 256 := by omega
      have f5 := or_num N y hNl
      obtain ⟨M, hM⟩ : ∃ M, Hid (M = N * 256 + y.toNat) := ⟨_, rfl⟩
      rw [← hM.out] at f5 hst
      replace hNl := Lib.hid hNl
      go_wp2_with fail
      go_round
      case rel => exact ⟨j + 1, M, by go_num, rfl, (show j + 1 ≤ 1 by omega), hst.out⟩
      case measure => simp [intOf]; omega
    · obtain rfl : j = 1 := by have := hj.out; omega
      have hT : Hid (N = (q.getD at_ 0).toNat) := by
        show _ = _
        have := take_num q at_ 1 0 (by omega) hq8.out
        rw [hNd.out, show (((q.drop at_).take 1).take 1) = (((q.drop at_).take 1).take (0 + 1)) from rfl, this]
        simp [num]
      obtain rfl := hT.out
      have f1 : IntKind.u8.wrap (((q.getD at_ 0).toNat : Nat) : Int) = b8 (q.getD at_ 0) := by
        have := (q.getD at_ 0).isLt
        unfold b8
        simp [IntKind.wrap, IntKind.bits, IntKind.signed]
        omega
      have f2 : (((q.getD at_ 0).toNat : Nat) : Int) % 256 = b8 (q.getD at_ 0) := by
        have := (q.getD at_ 0).isLt
        unfold b8
        omega
      go_wp2_with fail
      go_ret3
      exact ⟨rfl, rfl⟩

set_option maxRecDepth 100000 in
set_option maxHeartbeats 1000000 in
theorem ahead8_no (q : Text) (at_ : Nat) (hat : at_ ≤ q.length) (h8 : q.length < at_ + 8) (hq : q.length < 140737488355328) (A : Option Addr) (c g : Nat) (why : Int) (w : World) (hb : Blk w g 108 #[.slice A q.length c, .int .i64 (at_ : Int), .int .i64 why]) :
    Calls Try.prog 77 #[.pointer (some ⟨g, 0, none⟩), .int .i64 (at_ : Int)] w fun e w' => e = .returned (.tuple #[.int .u64 0, .int .i64 (at_ : Int), .bool false]) ∧ w = w' := by
  have g0 : w.cell? ⟨g, 0, none⟩ = some (.slice A q.length c) := by rw [hb.cell 0]; rfl
  have x1 : (0 : Int) ≤ (at_ : Int) := by omega
  have x2 : (at_ : Int) ≤ (q.length : Int) := by omega
  have x3 : (q.length : Int) < 9223372036854775807 := by omega
  obtain ⟨n, hn⟩ : ∃ n, Hid (n = q.length) := ⟨_, rfl⟩
  rw [← hn.out] at g0 x2 x3 h8
  have y1 : decide ((n : Int) - (at_ : Int) < 8) = true := by simp; omega
  have y2 : decide ((n : Int) < 8 + (at_ : Int)) = true := by simp; omega
  have y3 : decide ((n : Int) < (at_ : Int) + 8) = true := by simp; omega
  clear hb hq hat h8
  go_enter Try.func77, Try.ntmps77
  go_wp2_with (go_at_call 66; refine (width8 _).mono ?_; rintro e w' ⟨rfl, rfl⟩)
  go_ret3
  exact ⟨rfl, rfl⟩

set_option maxRecDepth 100000 in
set_option maxHeartbeats 1000000 in
theorem ahead1_no (q : Text) (at_ : Nat) (hat : at_ ≤ q.length) (h8 : q.length < at_ + 1) (hq : q.length < 140737488355328) (A : Option Addr) (c g : Nat) (why : Int) (w : World) (hb : Blk w g 108 #[.slice A q.length c, .int .i64 (at_ : Int), .int .i64 why]) :
    Calls Try.prog 75 #[.pointer (some ⟨g, 0, none⟩), .int .i64 (at_ : Int)] w fun e w' => e = .returned (.tuple #[.int .u8 0, .int .i64 (at_ : Int), .bool false]) ∧ w = w' := by
  have g0 : w.cell? ⟨g, 0, none⟩ = some (.slice A q.length c) := by rw [hb.cell 0]; rfl
  have x1 : (0 : Int) ≤ (at_ : Int) := by omega
  have x2 : (at_ : Int) ≤ (q.length : Int) := by omega
  have x3 : (q.length : Int) < 9223372036854775807 := by omega
  obtain ⟨n, hn⟩ : ∃ n, Hid (n = q.length) := ⟨_, rfl⟩
  rw [← hn.out] at g0 x2 x3 h8
  have y1 : decide ((n : Int) - (at_ : Int) < 1) = true := by simp; omega
  have y2 : decide ((n : Int) < 1 + (at_ : Int)) = true := by simp; omega
  have y3 : decide ((n : Int) < (at_ : Int) + 1) = true := by simp; omega
  clear hb hq hat h8
  go_enter Try.func75, Try.ntmps75
  go_wp2_with (go_at_call 48; refine (width1 _).mono ?_; rintro e w' ⟨rfl, rfl⟩)
  go_ret3
  exact ⟨rfl, rfl⟩
end Go.Proofs.Ytngieimjlkpkaaa.Reader
