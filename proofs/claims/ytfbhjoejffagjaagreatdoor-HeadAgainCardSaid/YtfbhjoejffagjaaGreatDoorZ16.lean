/-
  Texts of the claim, put into one file: Reader, Reader2, Reader3, HeadTake, HeadTake2, NoteP, Decode, High, ReadHead, HeadTake3.
-/
import Derived.Test.YtfbhjoejffagjaaGreatDoorZ15
import Derived.Test.YtfbhjoejffagjaaGreatDoorZ8
import Derived.Test.YtfbhjoejffagjaaGreatDoorZ0

namespace Go.Proofs.YtfbhjoejffagjaaGreatDoor.Reader
open Go Go.RowKit Go.Proofs.YtfbhjoejffagjaaGreatDoor Mem Sha Bytes Go.Proofs.YtfbhjoejffagjaaGreatDoor.Append Octet QuietTail Grown

def num (l : Text) : Nat := l.foldl (fun a c => a * 256 + c.toNat) 0
theorem num_snoc (l : Text) (c : BitVec 8) : num (l ++ [c]) = num l * 256 + c.toNat := by simp [num]
theorem num_lt : ∀ (n : Nat) (l : Text), l.length = n → num l < 256 ^ n
 | 0, l, h => by
  obtain rfl : l = [] := List.eq_nil_of_length_eq_zero h
  simp [num]
 | n + 1, l, h => by
  have hl : l = l.take n ++ [l[n]'(by omega)] := by
   have := List.take_append_drop n l
   conv => lhs; rw [← this]
   congr 1
   rw [List.drop_eq_getElem_cons (by omega), List.drop_of_length_le (by omega)]
  have h1 := num_lt n (l.take n) (by rw [List.length_take]; omega)
  have h2 := (l[n]'(by omega)).isLt
  rw [hl, num_snoc, Nat.pow_succ]
  omega
theorem or_num (a : Nat) (c : BitVec 8) (ha : a < 72057594037927936) : bits .or .u64 ((a : Int) * 256) (b8 c) = ((a * 256 + c.toNat : Nat) : Int) := by
 have hc := c.isLt
 have h1 : ((a : Int) * 256) = ((a * 256 : Nat) : Int) := by omega
 have h2 : a * 256 ||| c.toNat = a * 256 + c.toNat := by
  have := Nat.two_pow_add_eq_or_of_lt (i := 8) (b := c.toNat) (by omega) a
  rw [show 2 ^ 8 * a = a * 256 by omega] at this
  exact this.symm
 have e1 : (BitVec.ofInt 64 ((a * 256 : Nat) : Int)).toNat = a * 256 := by
  rw [BitVec.ofInt_natCast, BitVec.toNat_ofNat]; exact Nat.mod_eq_of_lt (by omega)
 have e2 : (BitVec.ofInt 64 (c.toNat : Int)).toNat = c.toNat := by
  rw [BitVec.ofInt_natCast, BitVec.toNat_ofNat]; exact Nat.mod_eq_of_lt (by omega)
 unfold b8
 rw [h1]
 show IntKind.u64.wrap ((BitVec.ofInt 64 ((a * 256 : Nat) : Int) ||| BitVec.ofInt 64 (c.toNat : Int)).toNat : Int) = _
 rw [BitVec.toNat_or, e1, e2, h2]
 exact u64_in _ (by omega) (by omega)

def Rd (w : World) (g : Nat) (q : Text) (A : Option Addr) (c need : Nat) : Prop :=
 ∃ at_ why, Blk w g 165 #[.slice A q.length c, .int .i64 ((at_ : Nat) : Int), .int .i64 why] ∧ Reads w 1 A q.length (cells8 q) ∧ (A = none → q.length = 0 ∧ c = 0) ∧ (0 < q.length → ∀ a, A = some a → a.block ≠ g) ∧ q.length ≤ c ∧
  at_ ≤ q.length ∧ (need ≤ q.length → at_ = need ∧ why = 0) ∧ (q.length < need → why = 8)

section
variable {w w' : World} {g need c : Nat} {q : Text} {A : Option Addr}
theorem Rd.lt (h : Rd w g q A c need) : g < w.heap.size := by obtain ⟨_, _, hb, _⟩ := h; exact hb.lt
theorem Rd.kept {S : Nat → Prop} (h : Rd w g q A c need) (hk : Kept S w w') (hS : ∀ b, b < w.heap.size → ¬ S b) : Rd w' g q A c need := by
 obtain ⟨at_, why, hb, hr, h1⟩ := h
 refine ⟨at_, why, hb.kept hk (hS g hb.lt), hr.kept0 hk (fun hp b o e => ?_), h1⟩
 obtain ⟨b', o', e', hlt, _⟩ := hr.2 hp
 rw [e] at e'
 injection e' with e'
 injection e' with e1
 subst e1
 exact hS b hlt
theorem Rd.below (h : Rd w g q A c need) (hb : Below w.heap.size w w') : Rd w' g q A c need := h.kept (S := fun _ => False) (Kept.of_below hb) (fun _ _ x => x)
theorem Rd.alloc (h : Rd w g q A c need) (o : Obj) : Rd (w.alloc o) g q A c need := h.below (Below.heap_below w o)
theorem Rd.drewN (h : Rd w g q A c need) (n : Nat) : Rd (w.drewN n) g q A c need := h.below (below_drawn (Below.refl _ _) n)
end

set_option maxRecDepth 100000 in
set_option maxHeartbeats 1000000 in
theorem read_any (q : Text) (k : Nat) (hk : q.length = k) (hk47 : k < 140737488355328) (A : Option Addr) (c : Nat) (w : World) (hr : Reads w 1 A k (cells8 q)) (hnil : A = none → k = 0 ∧ c = 0) :
  Calls Tryz.prog 70 #[.slice A k c] w fun e w' => ∃ g A' c', e = .returned (.pointer (some ⟨g, 0, none⟩)) ∧ w.heap.size ≤ g ∧ Below w.heap.size w w' ∧ Rd w' g q A' c' 0 := by
 obtain ⟨i0, hi, hz0, hz1, hz2⟩ := info_parts8 info8
 subst hk
 have hc1 : Hid (0 + q.length ≤ maxLen) := by show _ ≤ _; unfold maxLen; omega
 have hc2 : Hid ((0 + q.length) * 1 ≤ 140737488355328) := by show _ ≤ _; omega
 replace hr := Lib.hid hr
 replace hnil := Lib.hid hnil
 clear hk47
 go_enter Tryz.func70, Tryz.ntmps70
 go_wp2_with (at_builtin; refine wpList_append_src _ rfl (.const (.slice none 0 0)) (.tmp 3) 31 rfl w.heap.size 5 i0 (.int .u8 0) 1 1 Tryz.underlying31 hi hz0 hz1 hz2 rfl (by decide) (.slice none 0 0) 0 [] rfl (World.ownsRow_nil _ _ _ _) A q.length c (cells8 q) rfl hr.out hnil.out (cells8_one q) hc1.out hc2.out (Nat.le_refl _) ?_; intro v1 w1 hG; have hbb : Hid (Below w.heap.size w w1) := hG.below (Below.refl _ _) (Nat.le_refl _) (fun k e => by cases e); have hO := hG.own; rw [Nat.zero_add, List.nil_append] at hO; obtain ⟨A1, c1, rfl, hn1, _, hnil1, hr1, -⟩ := Own.reads hO; clear hG hO; replace hr1 := Lib.hid hr1; replace hnil1 := Lib.hid hnil1; replace hn1 := Lib.hid hn1)
 go_ret
 refine ⟨w1.heap.size, A1, c1, rfl, hbb.out.size, hbb.out.alloc hbb.out.size _, 0, 0, Blk.new _ _ _, hr1.out.alloc _, hnil1.out, (fun h0 a e h => ?_), hn1.out, Nat.zero_le _, fun _ => ⟨rfl, rfl⟩, fun h => absurd h (by omega)⟩
 subst e
 obtain ⟨b, o, e2, hlt, _⟩ := hr1.out.2 (by omega)
 injection e2 with e2
 subst e2
 simp at h
 omega

theorem run_mid {P : Program} {t : TypeId} {A : Option Addr} {n c l h : Nat} (ht : P.underlying t = some (.slice (P.elem t))) (hs : ∀ w, (sizeOf (P.elem t)).run P w = .ok 1 w) (h1 : l ≤ h) (h2 : h ≤ c) (x y : Int) (hx : x = l) (hy : y = h) (w : World) :
  (Instr.sliceAt t (.slice A n c) (some (.int .i64 x)) (some (.int .i64 y)) none).run P w = .ok (.slice (cutA A l c) (h - l) (c - l)) w := by
 subst hx hy
 rw [run_sliceAt_slice w t _ _ _ _ ht, run_slice_lh w t A n c ht .i64 .i64 (l : Int) (h : Int) (by omega) (by omega) (by omega), hs]
 simp [Result.andThen, sliced, cutA]

theorem Rd.at_ {w : World} {need : Nat} {q : Text} {A : Option Addr} (hr : Reads w 1 A q.length (cells8 q)) {k : Nat} (h0 : 0 < k) (hk : need + k ≤ q.length) : ∃ b o, A = some ⟨b, o, none⟩ ∧ b < w.heap.size ∧ ∀ j, j < k → w.cell? ⟨b, o + need + j, none⟩ = some (.int .u8 (b8 (q.getD (need + j) 0))) := by
 obtain ⟨b, o, e, hb, hc⟩ := hr.2 (by omega)
 refine ⟨b, o, e, hb, fun j hj => ?_⟩
 rw [Nat.add_assoc]
 exact hc _ _ (cells8_at q _ (by omega))

theorem take_num (q : Text) (need k j : Nat) (hj : j < k) (hk : need + k ≤ q.length) : num (((q.drop need).take k).take (j + 1)) = num (((q.drop need).take k).take j) * 256 + (q.getD (need + j) 0).toNat := by
 have h : ((q.drop need).take k)[j]? = some (q.getD (need + j) 0) := by
  rw [List.getElem?_take, if_pos hj, List.getElem?_drop]
  simp [List.getD, show need + j < q.length by omega]
 rw [List.take_add_one, h, Option.toList_some, num_snoc]

set_option maxRecDepth 100000 in
set_option maxHeartbeats 1000000 in
theorem ahead8_yes (q : Text) (at_ : Nat) (h8 : at_ + 8 ≤ q.length) (hq : q.length < 140737488355328) (A : Option Addr) (c g : Nat) (why : Int) (w : World) (hb : Blk w g 165 #[.slice A q.length c, .int .i64 (at_ : Int), .int .i64 why]) (hr : Reads w 1 A q.length (cells8 q)) (hc : q.length ≤ c) :
  Calls Tryz.prog 127 #[.pointer (some ⟨g, 0, none⟩), .int .i64 (at_ : Int)] w fun e w' => e = .returned (.tuple #[.int .u64 (num ((q.drop at_).take 8) : Int), .int .i64 ((at_ : Int) + 8), .bool true]) ∧ w = w' := by
 obtain ⟨b, o, rfl, hbl, hcell⟩ := Rd.at_ hr (k := 8) (by omega) h8
 have g0 : w.cell? ⟨g, 0, none⟩ = some (.slice (some ⟨b, o, none⟩) q.length c) := by rw [hb.cell 0]; rfl
 have x1 : (0 : Int) ≤ (at_ : Int) := by omega
 have x2 : (at_ : Int) + 8 ≤ (q.length : Int) := by omega
 have x3 : (q.length : Int) < 9223372036854775807 := by omega
 have X : ∀ w', (Instr.sliceAt 31 (.slice (some ⟨b, o, none⟩) q.length c) (some (.int .i64 (at_ : Int))) (some (.int .i64 ((at_ : Int) + 8))) none).run Tryz.prog w' = .ok (.slice (some ⟨b, o + at_, none⟩) 8 (c - at_)) w' := fun w' => by
  rw [run_mid (l := at_) (h := at_ + 8) Tryz.underlying31 (fun _ => rfl) (by omega) (by omega) _ _ rfl (by omega) w']
  simp only [cutA, if_neg (show ¬ c = at_ by omega), Option.map_some, add_at]
  congr 2
  omega
 have x4 : (8 : Int) ≤ (q.length : Int) - (at_ : Int) := by omega
 obtain ⟨n, hn⟩ : ∃ n, Hid (n = q.length) := ⟨_, rfl⟩
 rw [← hn.out] at g0 x2 x3 x4
 simp only [← hn.out] at X
 have y1 : decide ((n : Int) - (at_ : Int) < 8) = false := by simp; omega
 have y2 : decide ((n : Int) < 8 + (at_ : Int)) = false := by simp; omega
 have y3 : decide ((n : Int) < (at_ : Int) + 8) = false := by simp; omega
 replace hcell := Lib.hid hcell
 have hq8 := Lib.hid h8
 clear hb hr hc h8 hq hbl
 go_enter Tryz.func127, Tryz.ntmps127
 go_wp2_with (go_at_call 126; refine (width8 _).mono ?_; rintro e w' ⟨rfl, rfl⟩)
 clear X y1 y2 y3
 go_loop [8, 32] (fun v u => ∃ j N : Nat, u = .int .i64 (j : Int) ∧ v = .int .u64 (N : Int) ∧ Hid (j ≤ 8) ∧ Hid (N = num (((q.drop at_).take 8).take j))) (fun _ u => 8 - (intOf u).toNat)
 case atStart => exact ⟨0, 0, rfl, rfl, (show 0 ≤ 8 by omega), rfl⟩
 case round =>
  obtain ⟨j, N, rfl, rfl, hj, hNd⟩ := hrel
  by_cases hlt : j < 8
  ·have z1 : (j : Int) < 8 := by omega
   have z2 : (0 : Int) ≤ (j : Int) := by omega
   have hNl : N < 72057594037927936 := by
    rw [hNd.out]
    have h1 := num_lt (((q.drop at_).take 8).take j).length _ rfl
    have h2 : (((q.drop at_).take 8).take j).length ≤ 7 := by rw [List.length_take]; omega
    exact Nat.lt_of_lt_of_le h1 (Nat.le_trans (Nat.pow_le_pow_right (by decide) h2) (by decide))
   have hcj := hcell.out j hlt
   obtain ⟨y, hy⟩ : ∃ y, Hid (y = q.getD (at_ + j) 0) := ⟨_, rfl⟩
   rw [← hy.out] at hcj
   have hst : Hid (N * 256 + y.toNat = num (((q.drop at_).take 8).take (j + 1))) := by
    show _ = _
    rw [take_num q at_ 8 j hlt hq8.out, ← hNd.out, hy.out]
   have f0 := b8_nonneg y
   have f1 := b8_lt y
   have f2 : IntKind.u64.wrap (b8 y) = b8 y := u64_in _ f0 (by omega)
   have f3 : IntKind.u64.wrap ((N : Int) * 256) = (N : Int) * 256 := u64_in _ (by omega) (by omega)
   have f4 : (N : Int) * 256 % 18446744073709551616 = (N : Int) * 256 := by omega
   have f5 := or_num N y hNl
   obtain ⟨M, hM⟩ : ∃ M, Hid (M = N * 256 + y.toNat) := ⟨_, rfl⟩
   rw [← hM.out] at f5 hst
   replace hNl := Lib.hid hNl
   go_wp2_with fail
   go_round
   case rel => exact ⟨j + 1, M, by go_num, rfl, (show j + 1 ≤ 8 by omega), hst.out⟩
   case measure => simp [intOf]; omega
  ·obtain rfl : j = 8 := by have := hj.out; omega
   have hT : Hid (((q.drop at_).take 8).take 8 = (q.drop at_).take 8) := by show _ = _; rw [List.take_take]; rfl
   go_wp2_with fail
   go_ret3
   rw [hT.out] at hNd
   obtain rfl := hNd.out
   exact ⟨rfl, rfl⟩
set_option maxRecDepth 100000 in
set_option maxHeartbeats 1000000 in
theorem ahead1_yes (q : Text) (at_ : Nat) (h8 : at_ + 1 ≤ q.length) (hq : q.length < 140737488355328) (A : Option Addr) (c g : Nat) (why : Int) (w : World) (hb : Blk w g 165 #[.slice A q.length c, .int .i64 (at_ : Int), .int .i64 why]) (hr : Reads w 1 A q.length (cells8 q)) (hc : q.length ≤ c) :
  Calls Tryz.prog 106 #[.pointer (some ⟨g, 0, none⟩), .int .i64 (at_ : Int)] w fun e w' => e = .returned (.tuple #[.int .u8 (b8 (q.getD at_ 0)), .int .i64 ((at_ : Int) + 1), .bool true]) ∧ w = w' := by
 obtain ⟨b, o, rfl, hbl, hcell⟩ := Rd.at_ hr (k := 1) (by omega) h8
 have g0 : w.cell? ⟨g, 0, none⟩ = some (.slice (some ⟨b, o, none⟩) q.length c) := by rw [hb.cell 0]; rfl
 have x1 : (0 : Int) ≤ (at_ : Int) := by omega
 have x2 : (at_ : Int) + 1 ≤ (q.length : Int) := by omega
 have x3 : (q.length : Int) < 9223372036854775807 := by omega
 have X : ∀ w', (Instr.sliceAt 31 (.slice (some ⟨b, o, none⟩) q.length c) (some (.int .i64 (at_ : Int))) (some (.int .i64 ((at_ : Int) + 1))) none).run Tryz.prog w' = .ok (.slice (some ⟨b, o + at_, none⟩) 1 (c - at_)) w' := fun w' => by
  rw [run_mid (l := at_) (h := at_ + 1) Tryz.underlying31 (fun _ => rfl) (by omega) (by omega) _ _ rfl (by omega) w']
  simp only [cutA, if_neg (show ¬ c = at_ by omega), Option.map_some, add_at]
  congr 2
  omega
 have x4 : (1 : Int) ≤ (q.length : Int) - (at_ : Int) := by omega
 obtain ⟨n, hn⟩ : ∃ n, Hid (n = q.length) := ⟨_, rfl⟩
 rw [← hn.out] at g0 x2 x3 x4
 simp only [← hn.out] at X
 have y1 : decide ((n : Int) - (at_ : Int) < 1) = false := by simp; omega
 have y2 : decide ((n : Int) < 1 + (at_ : Int)) = false := by simp; omega
 have y3 : decide ((n : Int) < (at_ : Int) + 1) = false := by simp; omega
 replace hcell := Lib.hid hcell
 have hq8 := Lib.hid h8
 clear hb hr hc h8 hq hbl
 go_enter Tryz.func106, Tryz.ntmps106
 go_wp2_with (go_at_call 104; refine (width1 _).mono ?_; rintro e w' ⟨rfl, rfl⟩)
 clear X y1 y2 y3
 go_loop [8, 32] (fun v u => ∃ j N : Nat, u = .int .i64 (j : Int) ∧ v = .int .u64 (N : Int) ∧ Hid (j ≤ 1) ∧ Hid (N = num (((q.drop at_).take 1).take j))) (fun _ u => 1 - (intOf u).toNat)
 case atStart => exact ⟨0, 0, rfl, rfl, (show 0 ≤ 1 by omega), rfl⟩
 case round =>
  obtain ⟨j, N, rfl, rfl, hj, hNd⟩ := hrel
  by_cases hlt : j < 1
  ·have z1 : (j : Int) < 1 := by omega
   have z2 : (0 : Int) ≤ (j : Int) := by omega
   have hNl : N < 72057594037927936 := by
    rw [hNd.out]
    have h1 := num_lt (((q.drop at_).take 1).take j).length _ rfl
    have h2 : (((q.drop at_).take 1).take j).length ≤ 0 := by rw [List.length_take]; omega
    exact Nat.lt_of_lt_of_le h1 (Nat.le_trans (Nat.pow_le_pow_right (by decide) h2) (by decide))
   have hcj := hcell.out j hlt
   obtain ⟨y, hy⟩ : ∃ y, Hid (y = q.getD (at_ + j) 0) := ⟨_, rfl⟩
   rw [← hy.out] at hcj
   have hst : Hid (N * 256 + y.toNat = num (((q.drop at_).take 1).take (j + 1))) := by
    show _ = _
    rw [take_num q at_ 1 j hlt hq8.out, ← hNd.out, hy.out]
   have f0 := b8_nonneg y
   have f1 := b8_lt y
   have f2 : IntKind.u64.wrap (b8 y) = b8 y := u64_in _ f0 (by omega)
   have f3 : IntKind.u64.wrap ((N : Int) * 256) = (N : Int) * 256 := u64_in _ (by omega) (by omega)
   have f4 : (N : Int) * 256 % 18446744073709551616 = (N : Int) * 256 := by omega
   have f5 := or_num N y hNl
   obtain ⟨M, hM⟩ : ∃ M, Hid (M = N * 256 + y.toNat) := ⟨_, rfl⟩
   rw [← hM.out] at f5 hst
   replace hNl := Lib.hid hNl
   go_wp2_with fail
   go_round
   case rel => exact ⟨j + 1, M, by go_num, rfl, (show j + 1 ≤ 1 by omega), hst.out⟩
   case measure => simp [intOf]; omega
  ·obtain rfl : j = 1 := by have := hj.out; omega
   have hT : Hid (N = (q.getD at_ 0).toNat) := by
    show _ = _
    have := take_num q at_ 1 0 (by omega) hq8.out
    rw [hNd.out, show (((q.drop at_).take 1).take 1) = (((q.drop at_).take 1).take (0 + 1)) from rfl, this]
    simp [num]
   obtain rfl := hT.out
   have f1 : IntKind.u8.wrap (((q.getD at_ 0).toNat : Nat) : Int) = b8 (q.getD at_ 0) := by
    have := (q.getD at_ 0).isLt
    unfold b8
    simp [IntKind.wrap, IntKind.bits, IntKind.signed]
    omega
   have f2 : (((q.getD at_ 0).toNat : Nat) : Int) % 256 = b8 (q.getD at_ 0) := by
    have := (q.getD at_ 0).isLt
    unfold b8
    omega
   go_wp2_with fail
   go_ret3
   exact ⟨rfl, rfl⟩

set_option maxRecDepth 100000 in
set_option maxHeartbeats 1000000 in
theorem ahead8_no (q : Text) (at_ : Nat) (hat : at_ ≤ q.length) (h8 : q.length < at_ + 8) (hq : q.length < 140737488355328) (A : Option Addr) (c g : Nat) (why : Int) (w : World) (hb : Blk w g 165 #[.slice A q.length c, .int .i64 (at_ : Int), .int .i64 why]) :
  Calls Tryz.prog 127 #[.pointer (some ⟨g, 0, none⟩), .int .i64 (at_ : Int)] w fun e w' => e = .returned (.tuple #[.int .u64 0, .int .i64 (at_ : Int), .bool false]) ∧ w = w' := by
 have g0 : w.cell? ⟨g, 0, none⟩ = some (.slice A q.length c) := by rw [hb.cell 0]; rfl
 have x1 : (0 : Int) ≤ (at_ : Int) := by omega
 have x2 : (at_ : Int) ≤ (q.length : Int) := by omega
 have x3 : (q.length : Int) < 9223372036854775807 := by omega
 obtain ⟨n, hn⟩ : ∃ n, Hid (n = q.length) := ⟨_, rfl⟩
 rw [← hn.out] at g0 x2 x3 h8
 have y1 : decide ((n : Int) - (at_ : Int) < 8) = true := by simp; omega
 have y2 : decide ((n : Int) < 8 + (at_ : Int)) = true := by simp; omega
 have y3 : decide ((n : Int) < (at_ : Int) + 8) = true := by simp; omega
 clear hb hq hat h8
 go_enter Tryz.func127, Tryz.ntmps127
 go_wp2_with (go_at_call 126; refine (width8 _).mono ?_; rintro e w' ⟨rfl, rfl⟩)
 go_ret3
 exact ⟨rfl, rfl⟩

set_option maxRecDepth 100000 in
set_option maxHeartbeats 1000000 in
theorem ahead1_no (q : Text) (at_ : Nat) (hat : at_ ≤ q.length) (h8 : q.length < at_ + 1) (hq : q.length < 140737488355328) (A : Option Addr) (c g : Nat) (why : Int) (w : World) (hb : Blk w g 165 #[.slice A q.length c, .int .i64 (at_ : Int), .int .i64 why]) :
  Calls Tryz.prog 106 #[.pointer (some ⟨g, 0, none⟩), .int .i64 (at_ : Int)] w fun e w' => e = .returned (.tuple #[.int .u8 0, .int .i64 (at_ : Int), .bool false]) ∧ w = w' := by
 have g0 : w.cell? ⟨g, 0, none⟩ = some (.slice A q.length c) := by rw [hb.cell 0]; rfl
 have x1 : (0 : Int) ≤ (at_ : Int) := by omega
 have x2 : (at_ : Int) ≤ (q.length : Int) := by omega
 have x3 : (q.length : Int) < 9223372036854775807 := by omega
 obtain ⟨n, hn⟩ : ∃ n, Hid (n = q.length) := ⟨_, rfl⟩
 rw [← hn.out] at g0 x2 x3 h8
 have y1 : decide ((n : Int) - (at_ : Int) < 1) = true := by simp; omega
 have y2 : decide ((n : Int) < 1 + (at_ : Int)) = true := by simp; omega
 have y3 : decide ((n : Int) < (at_ : Int) + 1) = true := by simp; omega
 clear hb hq hat h8
 go_enter Tryz.func106, Tryz.ntmps106
 go_wp2_with (go_at_call 104; refine (width1 _).mono ?_; rintro e w' ⟨rfl, rfl⟩)
 go_ret3
 exact ⟨rfl, rfl⟩
end Go.Proofs.YtfbhjoejffagjaaGreatDoor.Reader

namespace Go.Proofs.YtfbhjoejffagjaaGreatDoor.Reader2
open Go Go.RowKit Go.Proofs.YtfbhjoejffagjaaGreatDoor Mem Sha Bytes Go.Proofs.YtfbhjoejffagjaaGreatDoor.Append Octet QuietTail Grown Reader

section
variable {w : World} {g c at_ : Nat} {q : Text} {A : Option Addr}
theorem Rd.reads_set (hr : Reads w 1 A q.length (cells8 q)) (hA : 0 < q.length → ∀ a, A = some a → a.block ≠ g) (i : Nat) (u : Value) : Reads (w.setCell ⟨g, i, none⟩ u) 1 A q.length (cells8 q) :=
 hr.kept0 ((Kept.refl (· = g) w).setCell (.inl rfl) u) (fun hp b o e h => hA (by omega) _ e h)
theorem Rd.adv {k : Nat} (hb : Blk w g 165 #[.slice A q.length c, .int .i64 (at_ : Int), .int .i64 0]) (hr : Reads w 1 A q.length (cells8 q)) (hnil : A = none → q.length = 0 ∧ c = 0) (hA : 0 < q.length → ∀ a, A = some a → a.block ≠ g) (hc : q.length ≤ c) (h8 : at_ + k ≤ q.length) :
  Rd (w.setCell ⟨g, 1, none⟩ (.int .i64 ((at_ : Int) + (k : Int)))) g q A c (at_ + k) ∧ Kept (· = g) w (w.setCell ⟨g, 1, none⟩ (.int .i64 ((at_ : Int) + (k : Int)))) :=
 ⟨⟨at_ + k, 0, by have := hb.set_ 1 (.int .i64 ((at_ : Int) + (k : Int))); simpa using this, Rd.reads_set hr hA _ _, hnil, hA, hc, h8, fun _ => ⟨rfl, rfl⟩, fun h => absurd h (by omega)⟩, (Kept.refl (· = g) w).setCell (p := ⟨g, 1, none⟩) (.inl rfl) _⟩
theorem Rd.fail {need : Nat} (hb : Blk w g 165 #[.slice A q.length c, .int .i64 (at_ : Int), .int .i64 0]) (hr : Reads w 1 A q.length (cells8 q)) (hnil : A = none → q.length = 0 ∧ c = 0) (hA : 0 < q.length → ∀ a, A = some a → a.block ≠ g) (hc : q.length ≤ c) (hat : at_ ≤ q.length) (hn : q.length < need) :
  Rd (w.setCell ⟨g, 2, none⟩ (.int .i64 8)) g q A c need ∧ Kept (· = g) w (w.setCell ⟨g, 2, none⟩ (.int .i64 8)) :=
 ⟨⟨at_, 8, by have := hb.set_ 2 (.int .i64 8); simpa using this, Rd.reads_set hr hA _ _, hnil, hA, hc, hat, fun h => absurd h (by omega), fun _ => rfl⟩, (Kept.refl (· = g) w).setCell (p := ⟨g, 2, none⟩) (.inl rfl) _⟩
theorem Rd.stay {need : Nat} (hb : Blk w g 165 #[.slice A q.length c, .int .i64 (at_ : Int), .int .i64 8]) (hr : Reads w 1 A q.length (cells8 q)) (hnil : A = none → q.length = 0 ∧ c = 0) (hA : 0 < q.length → ∀ a, A = some a → a.block ≠ g) (hc : q.length ≤ c) (hat : at_ ≤ q.length) (hn : q.length < need) : Rd w g q A c need :=
 ⟨at_, 8, hb, hr, hnil, hA, hc, hat, fun h => absurd h (by omega), fun _ => rfl⟩
end
def whyOf (need len : Nat) : Int := if need ≤ len then 0 else 8
def doneOf (need len : Nat) : Int := if need = len then 0 else 8
theorem num_lt8 (l : Text) (h : l.length ≤ 8) : num l < 18446744073709551616 := Nat.lt_of_lt_of_le (num_lt _ l rfl) (Nat.le_trans (Nat.pow_le_pow_right (by decide) h) (by decide))

set_option maxRecDepth 100000 in
theorem refuse_first (g : Nat) (s : Value) (at_ : Int) (w : World) (hb : Blk w g 165 #[s, .int .i64 at_, .int .i64 0]) :
  Calls Tryz.prog 107 #[.pointer (some ⟨g, 0, none⟩), .int .i64 8] w fun e w' => e = .returned (.tuple #[]) ∧ w.setCell ⟨g, 2, none⟩ (.int .i64 8) = w' := by
 have g2 : w.cell? ⟨g, 2, none⟩ = some (.int .i64 0) := by rw [hb.cell 2]; rfl
 have gf := hb.frozen 2
 clear hb
 go_enter Tryz.func107, Tryz.ntmps107
 go_wp2_with fail
 go_end0
 exact ⟨rfl, rfl⟩

set_option maxRecDepth 100000 in
set_option maxHeartbeats 1000000 in
theorem take8_any (q : Text) (hq : q.length < 140737488355328) (g need : Nat) (A : Option Addr) (c : Nat) (w : World) (h : Rd w g q A c need) :
  Calls Tryz.prog 108 #[.pointer (some ⟨g, 0, none⟩)] w fun e w' => ∃ N : Nat, e = .returned (.int .u64 (N : Int)) ∧ N < 18446744073709551616 ∧ (need + 8 ≤ q.length → N = num ((q.drop need).take 8)) ∧ Rd w' g q A c (need + 8) ∧ Kept (· = g) w w' := by
 obtain ⟨at_, why, hb, hr, hnil, hA, hc, hat, hyes, hno⟩ := h
 have g1 : w.cell? ⟨g, 1, none⟩ = some (.int .i64 (at_ : Int)) := by rw [hb.cell 1]; rfl
 have g2 : w.cell? ⟨g, 2, none⟩ = some (.int .i64 why) := by rw [hb.cell 2]; rfl
 have gf := hb.frozen 1
 by_cases hn : need ≤ q.length
 ·obtain ⟨rfl, rfl⟩ := hyes hn
  by_cases h8 : at_ + 8 ≤ q.length
  ·have H := Lib.hid (ahead8_yes q at_ h8 hq A c g 0 w hb hr hc)
   have hF := Lib.hid (Rd.adv hb hr hnil hA hc h8)
   clear hb hyes hno
   go_enter Tryz.func108, Tryz.ntmps108
   go_wp2_with (go_at_call 127; refine Calls.mono H.out ?_; rintro e w' ⟨rfl, rfl⟩)
   go_ret
   exact ⟨_, rfl, num_lt8 _ (by rw [List.length_take, List.length_drop]; omega), fun _ => rfl, hF.out.1, hF.out.2⟩
  ·have H := Lib.hid (ahead8_no q at_ hn (by omega) hq A c g 0 w hb)
   have R := Lib.hid (refuse_first g _ _ w hb)
   have hF := Lib.hid (Rd.fail hb hr hnil hA hc hn (show q.length < at_ + 8 by omega))
   clear hb hyes hno
   go_enter Tryz.func108, Tryz.ntmps108
   go_wp2_with (first | (go_at_call 127; refine Calls.mono H.out ?_; rintro e w' ⟨rfl, rfl⟩) | (go_at_call 107; refine Calls.mono R.out ?_; rintro e w' ⟨rfl, rfl⟩))
   go_ret
   exact ⟨0, rfl, by decide, fun h => absurd h (by omega), hF.out.1, hF.out.2⟩
 ·obtain rfl := hno (by omega)
  have hF := Lib.hid (Rd.stay hb hr hnil hA hc hat (show q.length < need + 8 by omega))
  clear hb hyes hno
  go_enter Tryz.func108, Tryz.ntmps108
  go_wp2_with fail
  go_ret
  exact ⟨0, rfl, by decide, fun h => absurd h (by omega), hF.out, Kept.refl _ w⟩

set_option maxRecDepth 100000 in
set_option maxHeartbeats 1000000 in
theorem take1_any (q : Text) (hq : q.length < 140737488355328) (g need : Nat) (A : Option Addr) (c : Nat) (w : World) (h : Rd w g q A c need) :
  Calls Tryz.prog 71 #[.pointer (some ⟨g, 0, none⟩)] w fun e w' => ∃ y : BitVec 8, e = .returned (.int .u8 (b8 y)) ∧ (need + 1 ≤ q.length → y = q.getD need 0) ∧ Rd w' g q A c (need + 1) ∧ Kept (· = g) w w' := by
 obtain ⟨at_, why, hb, hr, hnil, hA, hc, hat, hyes, hno⟩ := h
 have g1 : w.cell? ⟨g, 1, none⟩ = some (.int .i64 (at_ : Int)) := by rw [hb.cell 1]; rfl
 have g2 : w.cell? ⟨g, 2, none⟩ = some (.int .i64 why) := by rw [hb.cell 2]; rfl
 have gf := hb.frozen 1
 by_cases hn : need ≤ q.length
 ·obtain ⟨rfl, rfl⟩ := hyes hn
  by_cases h8 : at_ + 1 ≤ q.length
  ·have H := Lib.hid (ahead1_yes q at_ h8 hq A c g 0 w hb hr hc)
   have hF := Lib.hid (Rd.adv hb hr hnil hA hc h8)
   clear hb hyes hno
   go_enter Tryz.func71, Tryz.ntmps71
   go_wp2_with (go_at_call 106; refine Calls.mono H.out ?_; rintro e w' ⟨rfl, rfl⟩)
   go_ret
   exact ⟨_, rfl, fun _ => rfl, hF.out.1, hF.out.2⟩
  ·have H := Lib.hid (ahead1_no q at_ hn (by omega) hq A c g 0 w hb)
   have R := Lib.hid (refuse_first g _ _ w hb)
   have hF := Lib.hid (Rd.fail hb hr hnil hA hc hn (show q.length < at_ + 1 by omega))
   clear hb hyes hno
   go_enter Tryz.func71, Tryz.ntmps71
   go_wp2_with (first | (go_at_call 106; refine Calls.mono H.out ?_; rintro e w' ⟨rfl, rfl⟩) | (go_at_call 107; refine Calls.mono R.out ?_; rintro e w' ⟨rfl, rfl⟩))
   go_ret
   exact ⟨0, rfl, fun h => absurd h (by omega), hF.out.1, hF.out.2⟩
 ·obtain rfl := hno (by omega)
  have hF := Lib.hid (Rd.stay hb hr hnil hA hc hat (show q.length < need + 1 by omega))
  clear hb hyes hno
  go_enter Tryz.func71, Tryz.ntmps71
  go_wp2_with fail
  go_ret
  exact ⟨0, rfl, fun h => absurd h (by omega), hF.out, Kept.refl _ w⟩

set_option maxRecDepth 100000 in
theorem why_any (q : Text) (g need : Nat) (A : Option Addr) (c : Nat) (w : World) (h : Rd w g q A c need) :
  Calls Tryz.prog 109 #[.pointer (some ⟨g, 0, none⟩)] w fun e w' => e = .returned (.int .i64 (whyOf need q.length)) ∧ w = w' := by
 obtain ⟨at_, why, hb, hr, hnil, hA, hc, hat, hyes, hno⟩ := h
 have g2 : w.cell? ⟨g, 2, none⟩ = some (.int .i64 why) := by rw [hb.cell 2]; rfl
 have hw : Hid (why = whyOf need q.length) := by
  show _ = _
  unfold whyOf
  by_cases hn : need ≤ q.length
  ·rw [if_pos hn]; exact (hyes hn).2
  ·rw [if_neg hn]; exact hno (by omega)
 clear hb hr hyes hno
 go_enter Tryz.func109, Tryz.ntmps109
 go_wp2_with fail
 go_ret
 exact ⟨by rw [← hw.out]; rfl, rfl⟩

set_option maxRecDepth 100000 in
theorem left_any (q : Text) (hq : q.length < 140737488355328) (g : Nat) (A : Option Addr) (c at_ : Nat) (why : Int) (w : World) (hb : Blk w g 165 #[.slice A q.length c, .int .i64 (at_ : Int), .int .i64 why]) (hat : at_ ≤ q.length) :
  Calls Tryz.prog 111 #[.pointer (some ⟨g, 0, none⟩)] w fun e w' => e = .returned (.int .i64 ((q.length : Int) - (at_ : Int))) ∧ ∃ n, w' = w.drewN n := by
 have g0 : w.cell? ⟨g, 0, none⟩ = some (.slice A q.length c) := by rw [hb.cell 0]; rfl
 have g1 : w.cell? ⟨g, 1, none⟩ = some (.int .i64 (at_ : Int)) := by rw [hb.cell 1]; rfl
 have x1 : IntKind.i64.wrap ((q.length : Int) - (at_ : Int)) = (q.length : Int) - (at_ : Int) := IntWalk.i64_in _ (by omega)
 generalize q.length = n at *
 clear hb hq hat
 go_enter Tryz.func111, Tryz.ntmps111
 go_wp2_with fail
 go_quiet (fail)
 go_wp2_with fail
 go_ret
 exact ⟨rfl, _, rfl⟩

set_option maxRecDepth 100000 in
theorem done_any (q : Text) (hq : q.length < 140737488355328) (g need : Nat) (A : Option Addr) (c : Nat) (w : World) (h : Rd w g q A c need) :
  Calls Tryz.prog 74 #[.pointer (some ⟨g, 0, none⟩)] w fun e w' => e = .returned (.int .i64 (doneOf need q.length)) ∧ ∃ n, w' = w.drewN n := by
 obtain ⟨at_, why, hb, hr, hnil, hA, hc, hat, hyes, hno⟩ := h
 have g2 : w.cell? ⟨g, 2, none⟩ = some (.int .i64 why) := by rw [hb.cell 2]; rfl
 by_cases hn : need ≤ q.length
 ·obtain ⟨rfl, rfl⟩ := hyes hn
  have L := Lib.hid (left_any q hq g A c at_ 0 w hb hat)
  clear hb hr hyes hno
  by_cases he : at_ = q.length
  ·have y1 : decide ((0 : Int) < (q.length : Int) - (at_ : Int)) = false := by simp; omega
   have y2 : decide ((at_ : Int) < (q.length : Int)) = false := by simp; omega
   have y3 : decide (at_ < q.length) = false := by simp; omega
   have hk : Hid (doneOf at_ q.length = 0) := if_pos he
   clear he hat hn
   go_enter Tryz.func74, Tryz.ntmps74
   go_wp2_with (go_at_call 111; refine Calls.mono L.out ?_; rintro e w' ⟨rfl, n, rfl⟩)
   go_ret
   exact ⟨by rw [hk.out]; rfl, n, rfl⟩
  ·have y1 : decide ((0 : Int) < (q.length : Int) - (at_ : Int)) = true := by simp; omega
   have y2 : decide ((at_ : Int) < (q.length : Int)) = true := by simp; omega
   have y3 : decide (at_ < q.length) = true := by simp; omega
   have hk : Hid (doneOf at_ q.length = 8) := if_neg he
   clear he hat hn
   go_enter Tryz.func74, Tryz.ntmps74
   go_wp2_with (go_at_call 111; refine Calls.mono L.out ?_; rintro e w' ⟨rfl, n, rfl⟩)
   go_ret
   exact ⟨by rw [hk.out]; rfl, n, rfl⟩
 ·obtain rfl := hno (by omega)
  have hk : Hid (doneOf need q.length = 8) := if_neg (by omega)
  clear hb hr hyes hno hn
  go_enter Tryz.func74, Tryz.ntmps74
  go_wp2_with fail
  go_ret
  exact ⟨by rw [hk.out]; rfl, 0, rfl⟩
end Go.Proofs.YtfbhjoejffagjaaGreatDoor.Reader2

namespace Go.Proofs.YtfbhjoejffagjaaGreatDoor.Reader3
open Go Go.RowKit Go.Proofs.YtfbhjoejffagjaaGreatDoor Mem Sha Bytes Go.Proofs.YtfbhjoejffagjaaGreatDoor.Append Octet QuietTail Grown Reader Reader2

def Out (w w' : World) (A : Option Addr) (c : Nat) (p : Text) : Prop :=
 Reads w' 1 A p.length (cells8 p) ∧ (A = none → p.length = 0 ∧ c = 0) ∧ p.length ≤ c ∧ ∀ a, A = some a → w.heap.size ≤ a.block

theorem Reads.mid {w : World} {A : Option Addr} {c at_ n : Nat} {q : Text} (h : Reads w 1 A q.length (cells8 q)) (hn : at_ + n ≤ q.length) (hc : q.length ≤ c) : Reads w 1 (cutA A at_ c) n (cells8 ((q.drop at_).take n)) := by
 have h1 := Reads.cut h at_ (by omega) hc
 have e : (cells8 q).drop at_ = cells8 (q.drop at_) := by simp [cells8]
 rw [e] at h1
 have h2 : Reads w 1 (cutA A at_ c) (q.drop at_).length (cells8 (q.drop at_)) := by rw [List.length_drop]; exact h1
 exact Reads.front h2 n (by rw [List.length_drop]; omega)
theorem cutA_none {A : Option Addr} {at_ c : Nat} (h : cutA A at_ c = none) : A = none := by
 unfold cutA at h
 split at h
 ·exact h
 ·cases A with
  | none => rfl
  | some a => simp at h

set_option maxRecDepth 100000 in
set_option maxHeartbeats 1000000 in
theorem raw_any (q : Text) (hq : q.length < 140737488355328) (g need n : Nat) (hn63 : n < 140737488355328) (A : Option Addr) (c : Nat) (w : World) (h : Rd w g q A c need) :
  Calls Tryz.prog 110 #[.pointer (some ⟨g, 0, none⟩), .int .i64 (n : Int)] w fun e w' => ∃ A' c' p, e = .returned (.slice A' p.length c') ∧ (need + n ≤ q.length → p = (q.drop need).take n) ∧ (q.length < need + n → p = []) ∧ Out w w' A' c' p ∧ Rd w' g q A c (need + n) ∧ Kept (· = g) w w' := by
 obtain ⟨i0, hi, hz0, hz1, hz2⟩ := info_parts8 info8
 obtain ⟨at_, why, hb, hr, hnil, hA, hc, hat, hyes, hno⟩ := h
 have g0 : w.cell? ⟨g, 0, none⟩ = some (.slice A q.length c) := by rw [hb.cell 0]; rfl
 have g1 : w.cell? ⟨g, 1, none⟩ = some (.int .i64 (at_ : Int)) := by rw [hb.cell 1]; rfl
 have g2 : w.cell? ⟨g, 2, none⟩ = some (.int .i64 why) := by rw [hb.cell 2]; rfl
 have gf := hb.frozen 1
 have x0 : (0 : Int) ≤ (n : Int) := by omega
 have x1 : decide ((n : Int) < 0) = false := by simp
 have x2 : IntKind.i64.wrap ((q.length : Int) - (at_ : Int)) = (q.length : Int) - (at_ : Int) := IntWalk.i64_in _ (by omega)
 by_cases hn : need ≤ q.length
 ·obtain ⟨rfl, rfl⟩ := hyes hn
  by_cases h8 : at_ + n ≤ q.length
  ·have x3 : decide ((q.length : Int) - (at_ : Int) < (n : Int)) = false := by simp; omega
   have x5 : (at_ : Int) + (n : Int) ≤ 140737488355328 := by omega
   have x6 : IntKind.i64.wrap ((at_ : Int) + (n : Int) - (n : Int)) = (at_ : Int) := by rw [show (at_ : Int) + (n : Int) - (n : Int) = (at_ : Int) by omega]; exact IntWalk.i64_in _ (by omega)
   have x7 : (0 : Int) ≤ (at_ : Int) := by omega
   have x8 : IntKind.i64.wrap (at_ : Int) = (at_ : Int) := IntWalk.i64_in _ (by omega)
   replace x5 := Lib.hid x5
   have y5 : IntKind.i64.wrap ((at_ : Int) + (n : Int)) = (at_ : Int) + (n : Int) := IntWalk.i64_in _ (by omega)
   have X : ∀ w', (Instr.sliceAt 31 (.slice A q.length c) (some (.int .i64 (at_ : Int))) (some (.int .i64 ((at_ : Int) + (n : Int)))) none).run Tryz.prog w' = .ok (.slice (cutA A at_ c) n (c - at_)) w' := fun w' => by
    rw [run_mid (l := at_) (h := at_ + n) Tryz.underlying31 (fun _ => rfl) (by omega) (by omega) _ _ rfl (by omega) w']
    congr 2
    omega
   have hpl : Hid (((q.drop at_).take n).length = n) := by show _ = _; rw [List.length_take, List.length_drop]; omega
   have hcn : Hid (cutA A at_ c = none → n = 0 ∧ c - at_ = 0) := fun e => by have := hnil (cutA_none e); omega
   have hc1 : Hid (0 + n ≤ maxLen) := by show _ ≤ _; unfold maxLen; omega
   have hc2 : Hid ((0 + n) * 1 ≤ 140737488355328) := by show _ ≤ _; omega
   have hk := fun (w' : World) (hb : Blk w' g 165 #[.slice A q.length c, .int .i64 (at_ : Int), .int .i64 0]) (hr : Reads w' 1 A q.length (cells8 q)) => Rd.adv hb hr hnil hA hc h8
   have hm := fun (w' : World) (hr : Reads w' 1 A q.length (cells8 q)) => Reads.mid (Rd.reads_set hr hA 1 (.int .i64 ((at_ : Int) + (n : Int)))) h8 hc
   replace hk := Lib.hid hk
   replace hm := Lib.hid hm
   replace hb := Lib.hid hb
   replace hr := Lib.hid hr
   clear hyes hno
   go_enter Tryz.func110, Tryz.ntmps110
   go_wp2_with fail
   go_quiet (fail)
   have hK0 : Hid (Kept (· = g) w (w.drewN nq)) := (Kept.refl _ w).drewN nq
   have hb' : Hid (Blk (w.drewN nq) g 165 #[.slice A q.length c, .int .i64 (at_ : Int), .int .i64 0]) := hb.out
   have hr' : Hid (Reads (w.drewN nq) 1 A q.length (cells8 q)) := hr.out
   generalize w.drewN nq = w2 at *
   clear g0 g1 g2 gf
   have g1 : w2.cell? ⟨g, 1, none⟩ = some (.int .i64 (at_ : Int)) := by rw [Blk.cell hb'.out 1]; rfl
   have gf := Blk.frozen hb'.out 1
   have hF := Lib.hid (hk.out w2 hb'.out hr'.out)
   have hR : Hid (Reads (w2.setCell ⟨g, 1, none⟩ (.int .i64 ((at_ : Int) + (n : Int)))) 1 (cutA A at_ c) n (cells8 ((q.drop at_).take n))) := hm.out w2 hr'.out
   have hB2 : Hid (Blk (w2.setCell ⟨g, 1, none⟩ (.int .i64 ((at_ : Int) + (n : Int)))) g 165 #[.slice A q.length c, .int .i64 ((at_ : Int) + (n : Int)), .int .i64 0]) := by show Blk _ _ _ _; have := Blk.set_ hb'.out 1 (.int .i64 ((at_ : Int) + (n : Int))); simpa using this
   go_wp2_with fail
   clear g1 gf
   generalize w2.setCell ⟨g, 1, none⟩ (.int .i64 ((at_ : Int) + (n : Int))) = w3 at *
   have k0 : w3.cell? ⟨g, 0, none⟩ = some (.slice A q.length c) := by rw [Blk.cell hB2.out 0]; rfl
   have k1 : w3.cell? ⟨g, 1, none⟩ = some (.int .i64 ((at_ : Int) + (n : Int))) := by rw [Blk.cell hB2.out 1]; rfl
   refine wp_region_quiet_tail 15 (by kernel_rfl) (by kernel_rfl) ?_
   repeat (quiet_step (fail))
   refine wpQuiet_nil ?_
   intro _ hw'
   obtain ⟨nr, hw''⟩ := hw'
   subst hw''
   simp only [List.drop]
   have hs3 : Hid (w.heap.size ≤ (w3.drewN nr).heap.size) := Nat.le_trans hK0.out.size hF.out.2.size
   go_wp2_with (at_builtin; refine wpList_append_src (w3.drewN nr) rfl (.const (.slice none 0 0)) (.tmp 50) 31 rfl w.heap.size 5 i0 (.int .u8 0) 1 1 Tryz.underlying31 hi hz0 hz1 hz2 rfl (by decide) (.slice none 0 0) 0 [] rfl (World.ownsRow_nil _ _ _ _) (cutA A at_ c) n (c - at_) (cells8 ((q.drop at_).take n)) rfl (hR.out.drewN nr) hcn.out (cells8_one _) hc1.out hc2.out hs3.out ?_; intro v1 W hG; have hO := hG.own; rw [Nat.zero_add, List.nil_append] at hO; obtain ⟨A1, c1, rfl, hn1, _, hnil1, hr1, hat1⟩ := Own.reads hO; have hbW : Hid (Below w3.heap.size w3 W) := (below_drawn (Below.refl _ w3) nr).grown hG.grow (Nat.le_refl _) (fun k e => by cases e); clear hG hO; replace hr1 := Lib.hid hr1; replace hnil1 := Lib.hid hnil1; replace hn1 := Lib.hid hn1; replace hat1 := Lib.hid hat1)
   go_ret
   refine ⟨A1, c1, (q.drop at_).take n, by rw [hpl.out]; rfl, fun _ => rfl, fun h => absurd h (by omega), ⟨by rw [hpl.out]; exact hr1.out, by rw [hpl.out]; exact hnil1.out, by rw [hpl.out]; exact hn1.out, fun a e => (hat1.out a e).1⟩, hF.out.1.below hbW.out, ?_⟩
   exact (hK0.out.trans hF.out.2 (fun _ _ h => h)).trans (Kept.of_below (S := (· = g)) hbW.out) (fun _ _ h => h)
  ·have x3 : decide ((q.length : Int) - (at_ : Int) < (n : Int)) = true := by simp; omega
   have hk := fun (w' : World) (hb : Blk w' g 165 #[.slice A q.length c, .int .i64 (at_ : Int), .int .i64 0]) (hr : Reads w' 1 A q.length (cells8 q)) => Rd.fail hb hr hnil hA hc hat (show q.length < at_ + n by omega)
   replace hk := Lib.hid hk
   replace hb := Lib.hid hb
   replace hr := Lib.hid hr
   clear hyes hno
   go_enter Tryz.func110, Tryz.ntmps110
   go_wp2_with fail
   go_quiet (fail)
   have hK0 : Hid (Kept (· = g) w (w.drewN nq)) := (Kept.refl _ w).drewN nq
   have hb' : Hid (Blk (w.drewN nq) g 165 #[.slice A q.length c, .int .i64 (at_ : Int), .int .i64 0]) := hb.out
   have hr' : Hid (Reads (w.drewN nq) 1 A q.length (cells8 q)) := hr.out
   generalize w.drewN nq = w2 at *
   have R := Lib.hid (refuse_first g _ _ w2 hb'.out)
   have hF := Lib.hid (hk.out w2 hb'.out hr'.out)
   clear g0 g1 g2 gf
   go_wp2_with (go_at_call 107; refine Calls.mono R.out ?_; rintro e w' ⟨rfl, rfl⟩)
   go_ret
   exact ⟨none, 0, [], rfl, fun h => absurd h (by omega), fun _ => rfl, ⟨Reads.nil_ _ _ _, fun _ => ⟨rfl, rfl⟩, Nat.le_refl _, fun _ e => by cases e⟩, hF.out.1, hK0.out.trans hF.out.2 (fun _ _ h => h)⟩
 ·obtain rfl := hno (by omega)
  have hF := Lib.hid (Rd.stay hb hr hnil hA hc hat (show q.length < need + n by omega))
  clear hb hyes hno
  go_enter Tryz.func110, Tryz.ntmps110
  go_wp2_with fail
  go_ret
  exact ⟨none, 0, [], rfl, fun h => absurd h (by omega), fun _ => rfl, ⟨Reads.nil_ _ _ _, fun _ => ⟨rfl, rfl⟩, Nat.le_refl _, fun _ e => by cases e⟩, hF.out, Kept.refl _ w⟩

theorem _root_.Go.Proofs.YtfbhjoejffagjaaGreatDoor.Reader.Rd.keptOff {S : Nat → Prop} {w w' : World} {g need c : Nat} {q : Text} {A : Option Addr} (h : Rd w g q A c need) (hk : Kept S w w') (hg : ¬ S g) (hS : 0 < q.length → ∀ a, A = some a → ¬ S a.block) : Rd w' g q A c need := by
 obtain ⟨at_, why, hb, hr, h1⟩ := h
 exact ⟨at_, why, hb.kept hk hg, hr.kept0 hk (fun hp b o e => hS (by omega) _ e), h1⟩
theorem _root_.Go.Proofs.YtfbhjoejffagjaaGreatDoor.Reader.Rd.old {w : World} {g need c : Nat} {q : Text} {A : Option Addr} (h : Rd w g q A c need) : 0 < q.length → ∀ a, A = some a → a.block < w.heap.size := by
 obtain ⟨_, _, _, hr, _⟩ := h
 intro hp a e
 obtain ⟨b, o, e', hlt, _⟩ := hr.2 (by omega)
 rw [e] at e'
 injection e' with e'
 subst e'
 exact hlt
def digP (p : Text) : Text := p ++ List.replicate (32 - p.length) 0
theorem digP_len (p : Text) (h : p.length ≤ 32) : (digP p).length = 32 := by simp [digP]; omega
theorem digP_cells (p : Text) (h : p.length ≤ 32) : (splice Z32.toList 0 (cells8 p)).toArray = (cells8 (digP p)).toArray := by
 congr 1
 apply List.ext_getElem?
 intro i
 rw [splice_get _ _ _ (by rw [cells8_len]; simp [Z32]; omega), if_neg (by omega), cells8_len]
 by_cases h1 : i < 0 + p.length
 ·rw [if_pos h1, Nat.sub_zero]
  simp only [cells8, digP, List.map_append]
  rw [List.getElem?_append_left (by simp; omega)]
 ·rw [if_neg h1]
  simp only [cells8, digP, List.map_append, List.map_replicate]
  rw [List.getElem?_append_right (by simp; omega), List.length_map, List.getElem?_replicate]
  by_cases h2 : i < 32
  ·rw [if_pos (by omega)]
   have e : Z32.toList = List.replicate 32 (Value.int IntKind.u8 0) := by rfl
   rw [e, List.getElem?_replicate, if_pos h2]
   rfl
  ·rw [if_neg (by omega), List.getElem?_eq_none (by simp [Z32]; omega)]
theorem digP_take (q : Text) (need : Nat) (h : need + 32 ≤ q.length) : digP ((q.drop need).take 32) = (q.drop need).take 32 := by
 have hl : ((q.drop need).take 32).length = 32 := by rw [List.length_take, List.length_drop]; omega
 simp [digP, hl]

theorem dig_size (x : Text) (hx : x.length = 32) : (Tryz.prog.info? 34).map (·.size) = some (cells8 x).toArray.size := size31.trans (congrArg some (by simp [cells8_len, hx]))
theorem dig_one (x : Text) : (cells8 x).toArray.all (fun v => v.oneCell') = true := by rw [List.all_toArray]; exact List.all_eq_true.2 (cells8_one x)
set_option maxRecDepth 100000 in
set_option maxHeartbeats 1000000 in
theorem digest_any (q : Text) (hq : q.length < 140737488355328) (g need : Nat) (A : Option Addr) (c : Nat) (w : World) (h : Rd w g q A c need) :
  Calls Tryz.prog 73 #[.pointer (some ⟨g, 0, none⟩)] w fun e w' => ∃ d : Text, e = .returned (.agg (cells8 d).toArray) ∧ d.length = 32 ∧ (need + 32 ≤ q.length → d = (q.drop need).take 32) ∧ Rd w' g q A c (need + 32) ∧ Kept (· = g) w w' := by
 obtain ⟨w0, hw0⟩ : ∃ w0, Hid (w0 = (w.alloc (.cells Z32 34)).alloc (.cells Z32 34)) := ⟨_, rfl⟩
 have hD : Hid (Blk w0 w.heap.size 34 Z32) := by show Blk _ _ _ _; rw [hw0.out]; exact (Blk.new w _ _).alloc _
 have hE : Hid (Blk w0 (w.heap.size + 1) 34 Z32) := by
  have := Blk.new (w.alloc (.cells Z32 34)) 34 Z32
  have e : (w.alloc (.cells Z32 34)).heap.size = w.heap.size + 1 := by simp
  rw [e] at this
  show Blk _ _ _ _; rw [hw0.out]
  exact this
 have hR : Hid (Rd w0 g q A c need) := by show Rd _ _ _ _ _ _; rw [hw0.out]; exact (h.alloc _).alloc _
 have hlt := Lib.hid h.lt
 have hold := Lib.hid h.old
 have hK0 : Hid (Kept (· = g) w w0) := by show Kept _ _ _; rw [hw0.out]; exact ((Kept.refl _ w).alloc _).alloc _
 replace hq := Lib.hid hq
 clear h
 go_enter Tryz.func73, Tryz.ntmps73
 go_wp2_with fail
 have hp32 : ∀ p : Text, (need + 32 ≤ q.length → p = (q.drop need).take 32) → (q.length < need + 32 → p = []) → p.length ≤ 32 := fun p h1 h2 => by
  by_cases hh : need + 32 ≤ q.length
  ·rw [h1 hh, List.length_take]; omega
  ·rw [h2 (by omega)]; simp
 replace hp32 := Lib.hid hp32
 have hsz : Hid (w0.heap.size = w.heap.size + 2) := by show _ = _; rw [hw0.out]; simp
 have hww : (w.alloc (.cells Z32 34)).alloc (.cells Z32 34) = w0 := hw0.out.symm
 unfold Z32 at hww
 rw [hww]
 clear hww hw0
 have hraw : Hid (∀ w', Rd w' g q A c need → Calls Tryz.prog 110 #[.pointer (some ⟨g, 0, none⟩), .int .i64 32] w' fun e w'' => ∃ A' c' p, e = .returned (.slice A' p.length c') ∧ (need + 32 ≤ q.length → p = (q.drop need).take 32) ∧ (q.length < need + 32 → p = []) ∧ Out w' w'' A' c' p ∧ Rd w'' g q A c (need + 32) ∧ Kept (· = g) w' w'') := fun w' h => raw_any q hq.out g need 32 (by omega) A c w' h
 have hid2 : Hid (g ≠ w.heap.size + 1) := by have := hlt.out; show _ ≠ _; omega
 have hid1 : Hid (g ≠ w.heap.size) := by have := hlt.out; show _ ≠ _; omega
 go_region_law (first
  | (go_simp; go_at_call 110; go_loud (refine (hraw.out w0.drew (hR.out.drewN 1)).mono ?_; rintro e w3 ⟨Ap, cp, p, rfl, hp1, hp2, hO3, hR3, hk3⟩; have hp := Lib.hid (hp32.out p hp1 hp2); have hcl : Hid ((cells8 p).length = Nat.min p.length 32) := (by show _ = min _ _; rw [cells8_len]; have := hp.out; omega); have hfit : Hid (0 + (cells8 p).length ≤ Z32.size) := (by show _ ≤ _; rw [cells8_len]; simp [Z32]; exact hp.out); have hpos : Hid (0 < (cells8 p).length → some (⟨w.heap.size + 1, 0, none⟩ : Addr) = some ⟨w.heap.size + 1, 0, none⟩ ∧ ∃ ad, Ap = some ad ∧ ∀ j v, (cells8 p)[j]? = some v → w3.cell? (ad.add j) = some v) := (fun h0 => ⟨rfl, by obtain ⟨b, o, e, _, hc⟩ := hO3.1.2 (by rw [cells8_len] at h0; omega); exact ⟨_, e, fun j v hv => by rw [add_at]; exact hc j v hv⟩⟩); have hE3 := Lib.hid ((Blk.drewN hE.out 1).kept hk3 (fun e => hid2.out e.symm)); have hD3 := Lib.hid ((Blk.drewN hD.out 1).kept hk3 (fun e => hid1.out e.symm)); have hK3 := Lib.hid ((hK0.out.drewN 1).trans hk3 (fun _ _ h => h)); replace hR3 := Lib.hid hR3; replace hp1 := Lib.hid hp1; clear hp2 hO3 hk3))
  | (refine step_copy_into (P := Tryz.prog) (w := w3) (o := ⟨some 7, _, _, _, _, _⟩) rfl (.tmp 4) (.tmp 6) 31 31 rfl 5 Tryz.underlying31 size8 (some ⟨w.heap.size + 1, 0, none⟩) Ap 32 32 p.length cp ?hd ?hs (w.heap.size + 1) 0 Z32 34 hE3.out (cells8 p) hcl.out hpos.out hfit.out (cells8_one p) w3 (Kept.refl _ w3) p.length (cells8_len p) ?_; (case hd => go_simp); (case hs => go_simp); intro w5 hb5 hk5; replace hb5 := hb5.out; rw [digP_cells p hp.out] at hb5; have hD5 := Lib.hid (hD3.out.kept hk5 (by omega)); have hR5 := Lib.hid (hR3.out.keptOff hk5 hid2.out (fun h0 a ea e => by have := hold.out h0 a ea; omega)); replace hb5 := Lib.hid hb5; replace hk5 := Lib.hid hk5))
 have hz := Lib.hid (dig_size (digP p) (digP_len p hp.out))
 have hz32 : Hid ((Z32 : Array Value).size = (cells8 (digP p)).toArray.size) := by show _ = _; simp [cells8_len, digP_len p hp.out, Z32]
 have ho := Lib.hid (dig_one (digP p))
 have hKK : Hid (Kept (· = g) w w5) := by
  show Kept _ _ _
  exact hK3.out.trans hk5.out (fun i h1 h2 => by omega)
 go_wp2_with (first
  | ((with_reducible change wpList _ _ _ (⟨some 8, _, _, _, _, _⟩ :: _) _ _); refine wpList_load_row (o := ⟨some 8, _, _, _, _, _⟩) rfl 34 (.tmp 3) rfl (w.heap.size + 1) rfl 34 (cells8 (digP p)).toArray (0, 0) _ hb5.out Tryz.underlying34 rfl hz.out ?_)
  | ((with_reducible change wpList _ _ _ ({ dst := none, op := Op.store 34 _ _, type := _, pos := _, after := _, guard := _ } :: _) _ _); refine wpList_store_row (o := ⟨none, _, _, _, _, _⟩) rfl 34 (.tmp 2) (.tmp 8) rfl w.heap.size (cells8 (digP p)).toArray rfl rfl 34 Z32 hD5.out hz.out hz32.out ho.out ?_))
 refine bodyPost_ret (results_cell_row rfl _ _ w.heap.size 34 (cells8 (digP p)).toArray (0, 0) _ rfl (setRow_heap _ _ _ _ _ _ hD5.out) Tryz.underlying34 rfl hz.out) rfl ?_
 have hS : Kept (· = w.heap.size) w5 (w5.setRow w.heap.size (cells8 (digP p)).toArray) := Bytes.Kept.setRow (S := (· = w.heap.size)) (Kept.refl _ w5) rfl _
 exact ⟨digP p, rfl, digP_len p hp.out, fun h => by rw [hp1.out h]; exact digP_take q need h, hR5.out.keptOff hS hid1.out (fun h0 a ea e => by have := hold.out h0 a ea; omega), hKK.out.trans hS (fun i h1 h2 => by omega)⟩
end Go.Proofs.YtfbhjoejffagjaaGreatDoor.Reader3

namespace Go.Proofs.YtfbhjoejffagjaaGreatDoor.HeadTake
open Go Go.RowKit Go.Proofs.YtfbhjoejffagjaaGreatDoor Mem Sha Bytes Go.Proofs.YtfbhjoejffagjaaGreatDoor.Append Octet QuietTail Grown Reader Reader2 Reader3 HeadMem

theorem wpList_store_at {P : Program} {ops : Array Oper} {rest : List Oper} {o : Oper} {a : Act} {w : World} {Q : Exit → Act → World → Prop} (hgd : o.guard = none) (ty : TypeId) (x y : Operand) (ho : o.op = .store ty x y)
  (g off : Nat) (cs : List Value) (hx : a.eval x = .pointer (some ⟨g, off, none⟩)) (hy : a.eval y = .agg cs.toArray)
  (t : TypeId) (cur : Array Value) (hg : Blk w g t cur) (hi : (P.info? ty).map (·.size) = some cs.length)
  (hfit : off + cs.length ≤ cur.size) (h1 : ∀ v ∈ cs, v.oneCell' = true)
  (h : ∀ w', Hid (Blk w' g t (splice cur.toList off cs).toArray) → Kept (· = g) w w' → wpList P ops Q rest (a.put o.dst undef) w') : wpList P ops Q (o :: rest) a w := by
 have hrun : (storeVar ty ⟨g, off, none⟩ (.agg cs.toArray)).run P w = .ok () (w.setRow g (splice cur.toList off cs).toArray) := by
  have := run_storeCells_at (P := P) g off t cs 0 cur w hg (by simpa using hfit) h1
  cases hq : P.info? ty with
  | none => simp [hq] at hi
  | some i =>
   have hs : cs.length = i.size := by simp [hq] at hi; omega
   simp [storeVar, sizeOf, typeInfo, hq, Value.cells, hs]
   simpa [splice, hs] using this
 refine wpList_plain hgd fun K hK => ?_
 unfold Oper.wp execOp
 simp only [ho, hx, hy, Instr.storeAt, Instr.sureAddr, Sem.run_bind, Sem.run_pure, Result.andThen_ok, hrun]
 exact hK _ _ (h _ (setRow_heap w g _ _ t _ hg) (Bytes.Kept.setRow (S := (· = g)) (Kept.refl _ w) rfl _))

def Z98 : Array Value := #[Value.int IntKind.u8 0, Value.int IntKind.u8 0, Value.int IntKind.u8 0, Value.int IntKind.u8 0, Value.int IntKind.u8 0, Value.int IntKind.u8 0, Value.int IntKind.u8 0, Value.int IntKind.u8 0, Value.int IntKind.u8 0, Value.int IntKind.u8 0, Value.int IntKind.u8 0, Value.int IntKind.u8 0, Value.int IntKind.u8 0, Value.int IntKind.u8 0, Value.int IntKind.u8 0, Value.int IntKind.u8 0, Value.int IntKind.u8 0, Value.int IntKind.u8 0, Value.int IntKind.u8 0, Value.int IntKind.u8 0, Value.int IntKind.u8 0, Value.int IntKind.u8 0, Value.int IntKind.u8 0, Value.int IntKind.u8 0, Value.int IntKind.u8 0, Value.int IntKind.u8 0, Value.int IntKind.u8 0, Value.int IntKind.u8 0, Value.int IntKind.u8 0, Value.int IntKind.u8 0, Value.int IntKind.u8 0, Value.int IntKind.u8 0, Value.int IntKind.i64 0, Value.int IntKind.u8 0, Value.int IntKind.u8 0, Value.int IntKind.u8 0, Value.int IntKind.u8 0, Value.int IntKind.u8 0, Value.int IntKind.u8 0, Value.int IntKind.u8 0, Value.int IntKind.u8 0, Value.int IntKind.u8 0, Value.int IntKind.u8 0, Value.int IntKind.u8 0, Value.int IntKind.u8 0, Value.int IntKind.u8 0, Value.int IntKind.u8 0, Value.int IntKind.u8 0, Value.int IntKind.u8 0, Value.int IntKind.u8 0, Value.int IntKind.u8 0, Value.int IntKind.u8 0, Value.int IntKind.u8 0, Value.int IntKind.u8 0, Value.int IntKind.u8 0, Value.int IntKind.u8 0, Value.int IntKind.u8 0, Value.int IntKind.u8 0, Value.int IntKind.u8 0, Value.int IntKind.u8 0, Value.int IntKind.u8 0, Value.int IntKind.u8 0, Value.int IntKind.u8 0, Value.int IntKind.u8 0, Value.int IntKind.u8 0, Value.int IntKind.u8 0, Value.int IntKind.u8 0, Value.int IntKind.u8 0, Value.int IntKind.u8 0, Value.int IntKind.u8 0, Value.int IntKind.u8 0, Value.int IntKind.u8 0, Value.int IntKind.u8 0, Value.int IntKind.u8 0, Value.int IntKind.u8 0, Value.int IntKind.u8 0, Value.int IntKind.u8 0, Value.int IntKind.u8 0, Value.int IntKind.u8 0, Value.int IntKind.u8 0, Value.int IntKind.u8 0, Value.int IntKind.u8 0, Value.int IntKind.u8 0, Value.int IntKind.u8 0, Value.int IntKind.u8 0, Value.int IntKind.u8 0, Value.int IntKind.u8 0, Value.int IntKind.u8 0, Value.int IntKind.u8 0, Value.int IntKind.u8 0, Value.int IntKind.u8 0, Value.int IntKind.u8 0, Value.int IntKind.u8 0, Value.int IntKind.u8 0, Value.int IntKind.u8 0, Value.int IntKind.u8 0, Value.int IntKind.u8 0, Value.int IntKind.i64 0]
theorem z98_size : Z98.size = 98 := by kernel_rfl
def filled (l r i : Text) : Array Value := (splice (splice (splice Z98.toList 0 (cells8 l)) 33 (cells8 r)) 65 (cells8 i)).toArray
theorem len_splice (L : List Value) (off : Nat) (cs : List Value) (h : off + cs.length ≤ L.length) : (splice L off cs).length = L.length := length_splice _ _ _ h
theorem filled_head (h : HeadD) (ok : h.Ok) : ((filled h.log h.root h.index).setIfInBounds 32 (.int .i64 h.size)).setIfInBounds 97 (.int .i64 h.clock) = (headCells h).toArray := by
 have e1 := ok.log
 have e2 := ok.root
 have e3 := ok.index
 have l0 : Z98.toList.length = 98 := by simpa using z98_size
 have l1 := len_splice Z98.toList 0 (cells8 h.log) (by rw [cells8_len]; omega)
 have l2 := len_splice (splice Z98.toList 0 (cells8 h.log)) 33 (cells8 h.root) (by rw [cells8_len]; omega)
 have l3 := len_splice (splice (splice Z98.toList 0 (cells8 h.log)) 33 (cells8 h.root)) 65 (cells8 h.index) (by rw [cells8_len]; omega)
 apply Array.ext_getElem?
 intro j
 rw [Array.getElem?_setIfInBounds, Array.getElem?_setIfInBounds]
 by_cases h97 : 97 = j
 ·subst h97
  rw [if_pos rfl, if_pos (by simp [filled]; omega), List.getElem?_toArray, headCells_clock ok]
 rw [if_neg h97]
 by_cases h32 : 32 = j
 ·subst h32
  rw [if_pos rfl, if_pos (by simp [filled]; omega), List.getElem?_toArray, headCells_size ok]
 rw [if_neg h32]
 unfold filled
 rw [List.getElem?_toArray, List.getElem?_toArray, splice_get _ _ _ (by rw [cells8_len]; omega), cells8_len]
 by_cases h65 : j < 65
 ·rw [if_pos h65, splice_get _ _ _ (by rw [cells8_len]; omega), cells8_len]
  by_cases h33 : j < 33
  ·rw [if_pos h33, splice_get _ _ _ (by rw [cells8_len]; omega), cells8_len, if_neg (by omega), if_pos (by omega)]
   have hj : (cells8 h.log)[j]? = some _ := List.getElem?_eq_getElem (by rw [cells8_len]; omega)
   have := headCells_log _ _ hj
   rw [Nat.zero_add] at this
   rw [Nat.sub_zero, hj, this]
  ·rw [if_neg h33, if_pos (by omega)]
   have hj : (cells8 h.root)[j - 33]? = some _ := List.getElem?_eq_getElem (by rw [cells8_len]; omega)
   rw [hj, ← headCells_root ok _ _ hj, show 33 + (j - 33) = j by omega]
 ·rw [if_neg h65]
  by_cases h97' : j < 97
  ·rw [if_pos (by omega)]
   have hj : (cells8 h.index)[j - 65]? = some _ := List.getElem?_eq_getElem (by rw [cells8_len]; omega)
   rw [hj, ← headCells_index ok _ _ hj, show 65 + (j - 65) = j by omega]
  ·rw [if_neg (by omega), List.getElem?_eq_none (by omega), List.getElem?_eq_none (by rw [headCells_len ok]; omega)]

def headOf (q : Text) : HeadD := ⟨(q.drop 1).take 32, (num ((q.drop 33).take 8) : Nat), (q.drop 41).take 32, (q.drop 73).take 32, (num ((q.drop 105).take 8) : Nat)⟩
def okH (q : Text) : Bool := decide (q.getD 0 0 = 32) && decide (num ((q.drop 33).take 8) ≤ 1099511627776) && decide (num ((q.drop 105).take 8) ≤ 4611686018427387904)
theorem headOf_ok (q : Text) (hl : 113 ≤ q.length) (h : okH q = true) : (headOf q).Ok := by
 simp only [okH, Bool.and_eq_true, decide_eq_true_eq] at h
 obtain ⟨⟨_, h1⟩, h2⟩ := h
 exact ⟨by simp [headOf]; omega, by simp [headOf]; omega, by simp [headOf]; omega, by simp only [headOf]; omega, by simp only [headOf]; omega⟩

structure TkSt (w0 w : World) (g n m : Nat) (q : Text) (A : Option Addr) (c need : Nat) (cs : Array Value) : Prop where
 rd : Rd w g q A c need
 res : Blk w n 36 Z98
 head : Blk w m 36 cs
 kept : Kept (· = g) w0 w
 hn : w0.heap.size ≤ n
 hm : w0.heap.size ≤ m
 ne : n ≠ m
 hg : g < w0.heap.size
 old : 0 < q.length → ∀ a, A = some a → a.block < w0.heap.size
section
variable {w0 w w' : World} {g n m c need need' : Nat} {q : Text} {A : Option Addr} {cs cs' : Array Value}
theorem TkSt.call (h : TkSt w0 w g n m q A c need cs) (hr : Rd w' g q A c need') (hk : Kept (· = g) w w') : TkSt w0 w' g n m q A c need' cs :=
 ⟨hr, h.res.kept hk (by have := h.hn; have := h.hg; omega), h.head.kept hk (by have := h.hm; have := h.hg; omega), h.kept.trans hk (fun _ _ x => x), h.hn, h.hm, h.ne, h.hg, h.old⟩
theorem TkSt.store (h : TkSt w0 w g n m q A c need cs) (hb : Blk w' m 36 cs') (hk : Kept (· = m) w w') : TkSt w0 w' g n m q A c need cs' :=
 ⟨h.rd.keptOff hk (by have := h.hm; have := h.hg; omega) (fun h0 a ea e => by have := h.old h0 a ea; have := h.hm; omega), h.res.kept hk h.ne, hb, h.kept.trans hk (fun i h1 h2 => by have := h.hm; omega), h.hn, h.hm, h.ne, h.hg, h.old⟩
theorem TkSt.set_ (h : TkSt w0 w g n m q A c need cs) (i : Nat) (u : Value) : TkSt w0 (w.setCell ⟨m, i, none⟩ u) g n m q A c need (cs.setIfInBounds i u) :=
 h.store (h.head.set_ i u) ((Kept.refl (· = m) w).setCell (p := ⟨m, i, none⟩) (.inl rfl) u)
theorem TkSt.begin (hR : Rd w g q A c need) (hg : g < w0.heap.size) (ho : 0 < q.length → ∀ a, A = some a → a.block < w0.heap.size) (hk : Kept (· = g) w0 w) (hn : w0.heap.size ≤ n) (hr : Blk w n 36 Z98) : TkSt w0 (w.alloc (.cells Z98 36)) g n w.heap.size q A c need Z98 :=
 ⟨hR.alloc _, hr.alloc _, Blk.new _ _ _, hk.alloc _, hn, hk.size, by have := hr.lt; omega, hg, ho⟩
end
end Go.Proofs.YtfbhjoejffagjaaGreatDoor.HeadTake

namespace Go.Proofs.YtfbhjoejffagjaaGreatDoor.HeadTake2
open Go Go.RowKit Go.Proofs.YtfbhjoejffagjaaGreatDoor Mem Sha Bytes Go.Proofs.YtfbhjoejffagjaaGreatDoor.Append Octet QuietTail Grown Reader Reader2 Reader3 HeadMem HeadTake

theorem results_cell_row2 {P : Program} {fn : Func} {p u : Tmp} {ty : TypeId} (h : fn.results = #[.cell p ty, .tmp u]) (tmps : Array Value) (w : World) (g : Nat) (t : TypeId) (cs : Array Value) (fr : Nat × Nat) (d : TypeDesc)
  (hp : tmps.getD p undef = .pointer (some ⟨g, 0, none⟩)) (hg : w.heap[g]? = some (.cells cs t fr))
  (hu : P.underlying ty = some d) (hd : (match d with | .struct _ | .array _ _ => true | _ => false) = true) (hi : (P.info? ty).map (·.size) = some cs.size) :
  (results fn tmps).run P w = .ok (.tuple #[.agg cs, tmps.getD u undef]) w := by
 have hp' : tmps[p]?.getD undef = .pointer (some ⟨g, 0, none⟩) := by simpa using hp
 simp [results, h, hp', asAddr, run_loadVar_row w g t ty cs fr d hg hu hd hi, Result.andThen]

theorem St_end {w0 w : World} {g n m c need : Nat} {q : Text} {A : Option Addr} {cs : Array Value} (h : TkSt w0 w g n m q A c need cs) (X : Array Value) : Rd (w.setRow n X) g q A c need ∧ Kept (· = g) w0 (w.setRow n X) := by
 have hk : Kept (· = n) w (w.setRow n X) := Bytes.Kept.setRow (S := (· = n)) (Kept.refl _ w) rfl _
 exact ⟨h.rd.keptOff hk (by have := h.hn; have := h.hg; omega) (fun h0 a ea e => by have := h.old h0 a ea; have := h.hn; omega), h.kept.trans hk (fun i h1 h2 => by have := h.hn; omega)⟩
theorem size98' : (Tryz.prog.info? 36).map (·.size) = some Z98.size := by rw [z98_size]; exact size98
theorem one98 : Z98.all (fun v => v.oneCell') = true := by kernel_rfl
theorem filled_size (a b c : Text) (h1 : a.length = 32) (h2 : b.length = 32) (h3 : c.length = 32) : (filled a b c).size = 98 := by
 have l0 : Z98.toList.length = 98 := by simpa using z98_size
 unfold filled
 rw [List.size_toArray, len_splice _ _ _ (by rw [len_splice _ _ _ (by rw [len_splice _ _ _ (by rw [cells8_len]; omega), cells8_len]; omega), len_splice _ _ _ (by rw [cells8_len]; omega), cells8_len]; omega), len_splice _ _ _ (by rw [len_splice _ _ _ (by rw [cells8_len]; omega), cells8_len]; omega), len_splice _ _ _ (by rw [cells8_len]; omega), l0]
def takeOut (q : Text) : Value := .tuple (if 113 ≤ q.length ∧ okH q = true then #[.agg (headCells (headOf q)).toArray, .bool true] else #[.agg Z98, .bool false])
theorem takeOut_yes {q : Text} (h : 113 ≤ q.length) (h1 : okH q = true) : takeOut q = .tuple #[.agg (headCells (headOf q)).toArray, .bool true] := by unfold takeOut; rw [if_pos ⟨h, h1⟩]
theorem takeOut_no {q : Text} (h : ¬ (113 ≤ q.length ∧ okH q = true)) : takeOut q = .tuple #[.agg Z98, .bool false] := by unfold takeOut; rw [if_neg h]

set_option maxRecDepth 100000 in
set_option maxHeartbeats 400000 in
theorem take_any (q : Text) (hq : q.length < 140737488355328) (g : Nat) (A : Option Addr) (c : Nat) (w : World) (h : Rd w g q A c 0) :
  Calls Tryz.prog 72 #[.pointer (some ⟨g, 0, none⟩)] w fun e w' => e = .returned (takeOut q) ∧ Rd w' g q A c 113 ∧ Kept (· = g) w w' := by
 have hR0 : Hid (Rd (w.alloc (.cells Z98 36)) g q A c 0) := h.alloc _
 have hlt := Lib.hid h.lt
 have hold := Lib.hid h.old
 have hZ : Hid (Blk (w.alloc (.cells Z98 36)) w.heap.size 36 Z98) := Blk.new w _ _
 have hZs : Hid (w.heap.size < (w.alloc (.cells Z98 36)).heap.size) := by show _ < _; simp
 replace hq := Lib.hid hq
 clear h
 go_enter Tryz.func72, Tryz.ntmps72
 go_wp2_with (first
  | (go_at_call 71; refine (take1_any q hq.out g 0 A c (w.alloc (.cells Z98 36)) hR0.out).mono ?_; rintro e w1 ⟨y, rfl, hy, hR1, hk1⟩; have S1 : Hid (TkSt w (w1.alloc (.cells Z98 36)) g w.heap.size w1.heap.size q A c 1 Z98) := TkSt.begin hR1 hlt.out hold.out (((Kept.refl (· = g) w).alloc _).trans hk1 (fun _ _ x => x)) (Nat.le_refl _) (hZ.out.kept hk1 (by have := hlt.out; omega)); generalize hm : w1.heap.size = m at *; replace hy := Lib.hid hy; clear hR1 hk1 hR0 hZ)
  | (go_at_call 73; refine (digest_any q hq.out g 1 A c _ S1.out.rd).mono ?_; rintro e w2 ⟨d1, rfl, hd1, he1, hR2, hk2⟩; have S2 := Lib.hid (S1.out.call hR2 hk2); replace hd1 := Lib.hid hd1; replace he1 := Lib.hid he1; clear hR2 hk2 S1 hm)
  | ((with_reducible change wpList _ _ _ ({ dst := none, op := Op.store 34 (.tmp 12) (.tmp 11), type := _, pos := _, after := _, guard := _ } :: _) _ _); refine wpList_store_at (o := ⟨none, _, _, _, _, _⟩) rfl 34 (.tmp 12) (.tmp 11) rfl m 0 (cells8 d1) rfl rfl 36 Z98 S2.out.head (size31.trans (congrArg some (by rw [cells8_len, hd1.out]))) (by rw [cells8_len, hd1.out]; decide) (cells8_one _) ?_; intro w3 hb3 hk3; have S3 := Lib.hid (S2.out.store hb3.out hk3); clear hb3 hk3 S2)
  | (go_at_call 108; refine (take8_any q hq.out g (1 + 32) A c _ S3.out.rd).mono ?_; rintro e w4 ⟨N, rfl, hN, hNe, hR4, hk4⟩; have S4 := Lib.hid (S3.out.call hR4 hk4); replace hN := Lib.hid hN; replace hNe := Lib.hid hNe; clear hR4 hk4 S3)
  | (go_at_call 73; refine (digest_any q hq.out g (1 + 32 + 8) A c _ S4.out.rd).mono ?_; rintro e w5 ⟨d2, rfl, hd2, he2, hR5, hk5⟩; have S5 := Lib.hid (S4.out.call hR5 hk5); replace hd2 := Lib.hid hd2; replace he2 := Lib.hid he2; clear hR5 hk5 S4)
  | ((with_reducible change wpList _ _ _ ({ dst := none, op := Op.store 34 (.tmp 17) (.tmp 16), type := _, pos := _, after := _, guard := _ } :: _) _ _); refine wpList_store_at (o := ⟨none, _, _, _, _, _⟩) rfl 34 (.tmp 17) (.tmp 16) rfl m 33 (cells8 d2) rfl rfl 36 _ S5.out.head (size31.trans (congrArg some (by rw [cells8_len, hd2.out]))) (by rw [List.size_toArray, len_splice _ _ _ (by rw [cells8_len, hd1.out]; decide), cells8_len, hd2.out]; decide) (cells8_one _) ?_; intro w6 hb hk; have S6 := Lib.hid (S5.out.store hb.out hk); clear hb hk S5)
  | (go_at_call 73; refine (digest_any q hq.out g (1 + 32 + 8 + 32) A c _ S6.out.rd).mono ?_; rintro e w7 ⟨d3, rfl, hd3, he3, hR7, hk7⟩; have S7 := Lib.hid (S6.out.call hR7 hk7); replace hd3 := Lib.hid hd3; replace he3 := Lib.hid he3; clear hR7 hk7 S6)
  | ((with_reducible change wpList _ _ _ ({ dst := none, op := Op.store 34 (.tmp 20) (.tmp 19), type := _, pos := _, after := _, guard := _ } :: _) _ _); refine wpList_store_at (o := ⟨none, _, _, _, _, _⟩) rfl 34 (.tmp 20) (.tmp 19) rfl m 65 (cells8 d3) rfl rfl 36 _ S7.out.head (size31.trans (congrArg some (by rw [cells8_len, hd3.out]))) (by rw [List.size_toArray, len_splice _ _ _ (by rw [len_splice _ _ _ (by rw [cells8_len, hd1.out]; decide), cells8_len, hd2.out]; decide), len_splice _ _ _ (by rw [cells8_len, hd1.out]; decide), cells8_len, hd3.out]; decide) (cells8_one _) ?_; intro w8 hb hk; have S8 := Lib.hid (S7.out.store hb.out hk); clear hb hk S7)
  | (go_at_call 108; refine (take8_any q hq.out g (1 + 32 + 8 + 32 + 32) A c _ S8.out.rd).mono ?_; rintro e w9 ⟨M, rfl, hM, hMe, hR9, hk9⟩; have S9 : Hid (TkSt w w9 g w.heap.size m q A c 113 (filled d1 d2 d3)) := S8.out.call hR9 hk9; replace hM := Lib.hid hM; replace hMe := Lib.hid hMe; clear hR9 hk9 S8))
 have hW := why_any q g 113 A c w9 S9.out.rd
 obtain ⟨yy, hyy⟩ : ∃ yy, Hid (yy = b8 y) := ⟨_, rfl⟩
 rw [← hyy.out]
 by_cases hl : 113 ≤ q.length
 ·rw [show whyOf 113 q.length = 0 from if_pos hl] at hW
  have hD : Hid (headOf q = ⟨d1, (N : Int), d2, d3, (M : Int)⟩) := by
   show _ = _
   rw [hNe.out (by omega), hMe.out (by omega), he1.out (by omega), he2.out (by omega), he3.out (by omega)]
   rfl
  have hO : Hid (okH q = (decide (yy = 32) && decide (N ≤ 1099511627776) && decide (M ≤ 4611686018427387904))) := by
   show _ = _
   rw [hNe.out (by omega), hMe.out (by omega), hyy.out, hy.out (by omega)]
   unfold okH
   congr 2
   apply decide_eq_decide.2
   constructor
   ·intro h
    rw [h]
    rfl
   ·intro h
    unfold b8 at h
    apply BitVec.eq_of_toNat_eq
    have : (32 : BitVec 8).toNat = 32 := rfl
    omega
  clear hy hNe hMe he1 he2 he3 hyy
  replace hl := Lib.hid hl
  by_cases hy1 : yy = 32
  ·subst hy1
   by_cases hN1 : N ≤ 1099511627776
   ·by_cases hM1 : M ≤ 4611686018427387904
    ·have n1 : (N : Int) ≤ 1099511627776 := by omega
     have m1 : (M : Int) ≤ 4611686018427387904 := by omega
     have n2 : IntKind.i64.wrap (N : Int) = (N : Int) := IntWalk.i64_in _ (by omega)
     have m2 : IntKind.i64.wrap (M : Int) = (M : Int) := IntWalk.i64_in _ (by omega)
     have hyes : Hid (113 ≤ q.length ∧ okH q = true) := by show _ ∧ _; refine ⟨hl.out, ?_⟩; rw [hO.out]; simp; omega
     have hsz := filled_size d1 d2 d3 hd1.out hd2.out hd3.out
     obtain ⟨v1, hv1⟩ : ∃ v1, (filled d1 d2 d3)[32]? = some v1 := ⟨_, Array.getElem?_eq_getElem (by omega)⟩
     obtain ⟨v2, hv2⟩ : ∃ v2, (filled d1 d2 d3)[97]? = some v2 := ⟨_, Array.getElem?_eq_getElem (by omega)⟩
     have c1 : w9.cell? ⟨m, 32, none⟩ = some v1 := (S9.out.head.cell 32).trans hv1
     have c2 : w9.cell? ⟨m, 97, none⟩ = some v2 := (S9.out.head.cell 97).trans hv2
     have f1 := S9.out.head.frozen 32
     have f2 := S9.out.head.frozen 97
     have S10 : Hid (TkSt w ((w9.setCell ⟨m, 32, none⟩ (.int .i64 (N : Int))).setCell ⟨m, 97, none⟩ (.int .i64 (M : Int))) g w.heap.size m q A c 113 (headCells (headOf q)).toArray) := by
      have := (S9.out.set_ 32 (.int .i64 (N : Int))).set_ 97 (.int .i64 (M : Int))
      have e := filled_head (headOf q) (headOf_ok q hyes.out.1 hyes.out.2)
      rw [hD.out] at e
      rw [e, ← hD.out] at this
      exact this
     have hz98 : Hid ((Tryz.prog.info? 36).map (·.size) = some (headCells (headOf q)).toArray.size) := by show _ = _; rw [List.size_toArray, headCells_len (headOf_ok q hyes.out.1 hyes.out.2)]; exact size98
     have ho98 : Hid ((headCells (headOf q)).toArray.all (fun v => v.oneCell') = true) := by show _ = _; rw [List.all_toArray]; exact List.all_eq_true.2 (headCells_one (headOf q))
     have ho99 : Hid ((Z98 : Array Value).size = (headCells (headOf q)).toArray.size) := z98_size.trans (by rw [List.size_toArray, headCells_len (headOf_ok q hyes.out.1 hyes.out.2)])
     clear hN1 hM1 hO hD hl hM hN hd1 hd2 hd3 hsz hv1 hv2
     refine hW.mono ?_
     rintro e w' ⟨rfl, rfl⟩
     go_wp2_with (first
      | ((with_reducible change wpList _ _ _ (⟨some 45, _, _, _, _, _⟩ :: _) _ _); refine wpList_load_row (o := ⟨some 45, _, _, _, _, _⟩) rfl 36 (.tmp 5) rfl m rfl 36 (headCells (headOf q)).toArray (0, 0) _ S10.out.head Tryz.underlying36 rfl hz98.out ?_)
      | ((with_reducible change wpList _ _ _ ({ dst := none, op := Op.store 36 _ _, type := _, pos := _, after := _, guard := _ } :: _) _ _); refine wpList_store_row (o := ⟨none, _, _, _, _, _⟩) rfl 36 (.tmp 2) (.tmp 45) rfl w.heap.size (headCells (headOf q)).toArray rfl rfl 36 Z98 S10.out.res hz98.out ho99.out ho98.out ?_))
     refine bodyPost_ret (results_cell_row2 rfl _ _ w.heap.size 36 (headCells (headOf q)).toArray (0, 0) _ rfl (setRow_heap _ _ _ _ _ _ S10.out.res) Tryz.underlying36 rfl hz98.out) rfl ?_
     exact ⟨by rw [takeOut_yes hyes.out.1 hyes.out.2]; rfl, St_end S10.out _⟩
    ·have n1 : (N : Int) ≤ 1099511627776 := by omega
     have m1 : (4611686018427387904 : Int) < (M : Int) := by omega
     have hno : Hid (¬ (113 ≤ q.length ∧ okH q = true)) := fun h => by have h2 := h.2; rw [hO.out] at h2; simp at h2; omega
     clear hN1 hM1
     refine hW.mono ?_
     rintro e w' ⟨rfl, rfl⟩
     go_wp2_with ((with_reducible change wpList _ _ _ ({ dst := none, op := Op.store 36 _ _, type := _, pos := _, after := _, guard := _ } :: _) _ _); refine wpList_store_row (o := ⟨none, _, _, _, _, _⟩) rfl 36 (.tmp 2) (.tmp 38) rfl w.heap.size Z98 rfl rfl 36 Z98 S9.out.res size98' rfl one98 ?_)
     refine bodyPost_ret (results_cell_row2 rfl _ _ w.heap.size 36 Z98 (0, 0) _ rfl (setRow_heap _ _ _ _ _ _ S9.out.res) Tryz.underlying36 rfl size98') rfl ?_
     exact ⟨by rw [takeOut_no hno.out]; rfl, St_end S9.out _⟩
   ·have n1 : (1099511627776 : Int) < (N : Int) := by omega
    have hno : Hid (¬ (113 ≤ q.length ∧ okH q = true)) := fun h => by have h2 := h.2; rw [hO.out] at h2; simp at h2; omega
    clear hN1
    refine hW.mono ?_
    rintro e w' ⟨rfl, rfl⟩
    go_wp2_with ((with_reducible change wpList _ _ _ ({ dst := none, op := Op.store 36 _ _, type := _, pos := _, after := _, guard := _ } :: _) _ _); refine wpList_store_row (o := ⟨none, _, _, _, _, _⟩) rfl 36 (.tmp 2) (.tmp 38) rfl w.heap.size Z98 rfl rfl 36 Z98 S9.out.res size98' rfl one98 ?_)
    refine bodyPost_ret (results_cell_row2 rfl _ _ w.heap.size 36 Z98 (0, 0) _ rfl (setRow_heap _ _ _ _ _ _ S9.out.res) Tryz.underlying36 rfl size98') rfl ?_
    exact ⟨by rw [takeOut_no hno.out]; rfl, St_end S9.out _⟩
  ·have hno : Hid (¬ (113 ≤ q.length ∧ okH q = true)) := fun h => by have h2 := h.2; rw [hO.out] at h2; simp [hy1] at h2
   refine hW.mono ?_
   rintro e w' ⟨rfl, rfl⟩
   go_wp2_with ((with_reducible change wpList _ _ _ ({ dst := none, op := Op.store 36 _ _, type := _, pos := _, after := _, guard := _ } :: _) _ _); refine wpList_store_row (o := ⟨none, _, _, _, _, _⟩) rfl 36 (.tmp 2) (.tmp 38) rfl w.heap.size Z98 rfl rfl 36 Z98 S9.out.res size98' rfl one98 ?_)
   refine bodyPost_ret (results_cell_row2 rfl _ _ w.heap.size 36 Z98 (0, 0) _ rfl (setRow_heap _ _ _ _ _ _ S9.out.res) Tryz.underlying36 rfl size98') rfl ?_
   exact ⟨by rw [takeOut_no hno.out]; rfl, St_end S9.out _⟩
 ·rw [show whyOf 113 q.length = 8 from if_neg hl] at hW
  have hno : Hid (¬ (113 ≤ q.length ∧ okH q = true)) := fun h => hl h.1
  clear hl
  refine hW.mono ?_
  rintro e w' ⟨rfl, rfl⟩
  go_wp2_with ((with_reducible change wpList _ _ _ ({ dst := none, op := Op.store 36 _ _, type := _, pos := _, after := _, guard := _ } :: _) _ _); refine wpList_store_row (o := ⟨none, _, _, _, _, _⟩) rfl 36 (.tmp 2) (.tmp 38) rfl w.heap.size Z98 rfl rfl 36 Z98 S9.out.res size98' rfl one98 ?_)
  refine bodyPost_ret (results_cell_row2 rfl _ _ w.heap.size 36 Z98 (0, 0) _ rfl (setRow_heap _ _ _ _ _ _ S9.out.res) Tryz.underlying36 rfl size98') rfl ?_
  exact ⟨by rw [takeOut_no hno.out]; rfl, St_end S9.out _⟩
end Go.Proofs.YtfbhjoejffagjaaGreatDoor.HeadTake2

namespace Go.Proofs.YtfbhjoejffagjaaGreatDoor.NoteP
open Go Go.RowKit Go.Proofs.YtfbhjoejffagjaaGreatDoor Mem Sha Bytes HeadMem HeadTake HeadTake2 SortP

def kyS (t : Text) : Text := t.take 32
def noteB (h : HeadD) (r : List Text) : Text := 33 :: (headBytes h ++ (BitVec.ofNat 8 r.length :: r.flatten))
def noteAns (h : HeadD) (ss : List Text) : Option Text × Int :=
 if rightB h = false then (none, 1) else if ss.length = 0 ∨ 16 < ss.length then (none, 7) else match rising kyS ss with
  | none => (none, 92)
  | some r => (some (noteB h r), 0)
theorem flatten_len : ∀ {r : List Text}, (∀ t ∈ r, t.length = 64) → r.flatten.length = 64 * r.length
 | [], _ => rfl
 | t :: r, h => by
  rw [List.flatten_cons, List.length_append, h t (by simp), flatten_len (fun t ht => h t (by simp [ht])), List.length_cons]
  omega
theorem noteB_len {h : HeadD} (ok : h.Ok) {r : List Text} (hr : ∀ t ∈ r, t.length = 64) : (noteB h r).length = 115 + 64 * r.length := by
 unfold noteB
 rw [List.length_cons, List.length_append, headBytes_len ok, List.length_cons, flatten_len hr]
 omega
def signAt (q : Text) (i : Nat) : Text := (q.drop (115 + 64 * i)).take 64
def signsOf (q : Text) (n : Nat) : List Text := (List.range n).map (signAt q)
def cntOf (q : Text) : Nat := (q.getD 114 0).toNat
def noteOk (q : Text) : Bool := decide (115 ≤ q.length) && (decide (q.getD 0 0 = 33) && (okH (q.drop 1) && (decide (1 ≤ cntOf q) && (decide (cntOf q ≤ 16) && (decide (q.length = 115 + 64 * cntOf q) && riseB (ky := kyS) (signsOf q (cntOf q)))))))
theorem signsOf_len (q : Text) (n : Nat) : (signsOf q n).length = n := by unfold signsOf; simp
theorem signsOf_at (q : Text) {n i : Nat} (h : i < n) : (signsOf q n)[i]? = some (signAt q i) := by
 unfold signsOf
 rw [List.getElem?_map, List.getElem?_range h]
 rfl
theorem signAt_len {q : Text} {n i : Nat} (hq : q.length = 115 + 64 * n) (hi : i < n) : (signAt q i).length = 64 := by
 unfold signAt
 rw [List.length_take, List.length_drop]
 omega
theorem rise_drop {l : List Text} {i : Nat} {a b : Text} (ha : l[i]? = some a) (hb : l[i + 1]? = some b) : riseB (ky := kyS) (l.drop i) = (lex (kyS a) (kyS b) && riseB (ky := kyS) (l.drop (i + 1))) := by
 obtain ⟨h1, rfl⟩ := List.getElem?_eq_some_iff.1 ha
 obtain ⟨h2, rfl⟩ := List.getElem?_eq_some_iff.1 hb
 rw [List.drop_eq_getElem_cons h1, List.drop_eq_getElem_cons h2]
 rfl
theorem rise_last {l : List Text} {i : Nat} (h : l.length ≤ i + 1) : riseB (ky := kyS) (l.drop i) = true := by
 have hl : (l.drop i).length ≤ 1 := by rw [List.length_drop]; omega
 match hd : l.drop i, hl with
 | [], _ => rfl
 | [a], _ => rfl
 | a :: b :: r, hl => simp at hl
end Go.Proofs.YtfbhjoejffagjaaGreatDoor.NoteP

namespace Go.Proofs.YtfbhjoejffagjaaGreatDoor.Decode
open Go Go.RowKit Go.Proofs.YtfbhjoejffagjaaGreatDoor Mem Sha Bytes Go.Proofs.YtfbhjoejffagjaaGreatDoor.Append Octet QuietTail Grown Reader Reader2 Reader3 HeadMem HeadTake HeadTake2

theorem wpList_store_all {P : Program} {ops : Array Oper} {rest : List Oper} {o : Oper} {a : Act} {w : World} {Q : Exit → Act → World → Prop} (hgd : o.guard = none) (ty : TypeId) (x y : Operand) (ho : o.op = .store ty x y)
  (g : Nat) (cells : Array Value) (hx : a.eval x = .pointer (some ⟨g, 0, none⟩)) (hy : a.eval y = .agg cells)
  (t : TypeId) (old : Array Value) (hg : Blk w g t old) (hi : (P.info? ty).map (·.size) = some cells.size)
  (hold : old.size = cells.size) (h1 : cells.all (·.oneCell') = true)
  (h : ∀ w', Hid (Blk w' g t cells) → Kept (· = g) w w' → wpList P ops Q rest (a.put o.dst undef) w') : wpList P ops Q (o :: rest) a w :=
 wpList_store_row hgd ty x y ho g cells hx hy t old hg hi hold h1 (h _ (setRow_heap _ _ _ _ _ _ hg) (Bytes.Kept.setRow (S := (· = g)) (Kept.refl _ w) rfl _))

def decOk (q : Text) : Bool := decide (q.length = 113) && okH q
def decOut (q : Text) : Value := .tuple (if decOk q = true then #[.agg (headCells (headOf q)).toArray, .int .i64 0] else #[.agg Z98, .int .i64 8])
theorem decOut_yes {q : Text} (h : decOk q = true) : decOut q = .tuple #[.agg (headCells (headOf q)).toArray, .int .i64 0] := by unfold decOut; rw [if_pos h]
theorem decOut_no {q : Text} (h : ¬ decOk q = true) : decOut q = .tuple #[.agg Z98, .int .i64 8] := by unfold decOut; rw [if_neg h]

theorem head_sizes {h : HeadD} (ok : h.Ok) : Hid ((Tryz.prog.info? 36).map (·.size) = some (headCells h).toArray.size) ∧ Hid ((headCells h).toArray.all (fun v => v.oneCell') = true) ∧ Hid ((Z98 : Array Value).size = (headCells h).toArray.size) :=
 ⟨by show _ = _; rw [List.size_toArray, headCells_len ok]; exact size98, by show _ = _; rw [List.all_toArray]; exact List.all_eq_true.2 (headCells_one h), z98_size.trans (by rw [List.size_toArray, headCells_len ok])⟩

structure Dec (w0 w : World) (g : Nat) (q : Text) (A : Option Addr) (c need : Nat) : Prop where
 rd : Rd w g q A c need
 res : Blk w w0.heap.size 36 Z98
 below : Below w0.heap.size w0 w
 hg : w0.heap.size < g
section
variable {w0 w w' : World} {g c need need' : Nat} {q : Text} {A : Option Addr}
theorem Dec.call (h : Dec w0 w g q A c need) (hr : Rd w' g q A c need') (hk : Kept (· = g) w w') : Dec w0 w' g q A c need' :=
 ⟨hr, h.res.kept hk (by have := h.hg; omega), h.below.trans (Kept.below_of hk (by have := h.hg; omega) h.below.size), h.hg⟩
theorem Dec.far (h : Dec w0 w g q A c need) (hk : Below w.heap.size w w') : Dec w0 w' g q A c need :=
 ⟨h.rd.below hk, h.res.kept (S := fun _ => False) (Kept.of_below hk) (fun x => x), h.below.trans (hk.mono h.below.size), h.hg⟩
theorem Dec.end_ (h : Dec w0 w g q A c need) (X : Array Value) : Below w0.heap.size w0 (w.setRow w0.heap.size X) := below_setRow h.below (Nat.le_refl _) X
end
theorem below_new {w w' : World} {o : Obj} (hk : Kept (· = w.heap.size) (w.alloc o) w') : Below w.heap.size w w' :=
 (Below.heap_below w o).trans (Kept.below_of hk (Nat.le_refl _) (by simp))

set_option maxRecDepth 100000 in
set_option maxHeartbeats 1000000 in
theorem decode_any (q : Text) (k : Nat) (hk : q.length = k) (hk47 : k < 140737488355328) (A : Option Addr) (c : Nat) (w : World) (hr : Reads w 1 A k (cells8 q)) (hnil : A = none → k = 0 ∧ c = 0) :
  Calls Tryz.prog 45 #[.slice A k c] w fun e w' => e = .returned (decOut q) ∧ Below w.heap.size w w' := by
 subst hk
 have hr0 : Hid (Reads (w.alloc (.cells Z98 36)) 1 A q.length (cells8 q)) := hr.alloc _
 have hb0 : Hid (Below w.heap.size w (w.alloc (.cells Z98 36))) := Below.heap_below w _
 have hZ : Hid (Blk (w.alloc (.cells Z98 36)) w.heap.size 36 Z98) := Blk.new w _ _
 have hZs : Hid ((w.alloc (.cells Z98 36)).heap.size = w.heap.size + 1) := by show _ = _; simp
 have hT : Hid (∀ w' : World, Below (w.heap.size + 1) (w.alloc (.cells Z98 36)) w' → ∀ g A' c', w.heap.size + 1 ≤ g → Rd w' g q A' c' 0 → Dec w w' g q A' c' 0) := fun w' hb g A' c' hg hr => ⟨hr, hZ.out.kept (S := fun _ => False) (Kept.of_below (by rw [hZs.out]; exact hb)) (fun x => x), hb0.out.trans (hb.mono (Nat.le_succ _)), hg⟩
 replace hnil := Lib.hid hnil
 replace hk47 := Lib.hid hk47
 clear hr
 by_cases ht : 113 ≤ q.length ∧ okH q = true
 ·have hX : takeOut q = .tuple #[.agg (headCells (headOf q)).toArray, .bool true] := takeOut_yes ht.1 ht.2
  obtain ⟨hz, ho, hs⟩ := head_sizes (headOf_ok q ht.1 ht.2)
  by_cases hd : q.length = 113
  ·have hY : Hid (decOut q = .tuple #[.agg (headCells (headOf q)).toArray, .int .i64 0]) := decOut_yes (by simp [decOk, hd, ht.2])
   have hDn : Hid (doneOf 113 q.length = 0) := if_pos hd.symm
   clear ht hd
   go_enter Tryz.func45, Tryz.ntmps45
   go_wp2_with (first
    | (go_at_call 70; refine (read_any q q.length rfl hk47.out A c (w.alloc (.cells Z98 36)) hr0.out hnil.out).mono ?_; rintro e w1 ⟨g, A1, c1, rfl, hg, hb1, hR1⟩; rw [hZs.out] at hg hb1; have D1 := Lib.hid (hT.out w1 hb1 g A1 c1 hg hR1); clear hg hb1 hR1 hT hb0)
    | (go_at_call 72; refine (take_any q hk47.out g A1 c1 w1 D1.out.rd).mono ?_; rw [hX]; rintro e w2 ⟨rfl, hR2, hk2⟩; have D2 := Lib.hid (D1.out.call hR2 hk2); clear hR2 hk2 D1)
    | ((with_reducible change wpList _ _ _ ({ dst := none, op := Op.store 36 (.tmp 5) (.tmp 12), type := _, pos := _, after := _, guard := _ } :: _) _ _); refine wpList_store_all (o := ⟨none, _, _, _, _, _⟩) rfl 36 (.tmp 5) (.tmp 12) rfl w2.heap.size (headCells (headOf q)).toArray rfl rfl 36 Z98 (Blk.new w2 _ _) hz.out hs.out ho.out ?_; intro w3 hB3 hk3; have D3 := Lib.hid (D2.out.far (below_new hk3)); clear hk3 D2; generalize w2.heap.size = m at *)
    | (go_at_call 74; refine (done_any q hk47.out g 113 A1 c1 w3 D3.out.rd).mono ?_; rw [hDn.out]; rintro e w4' ⟨rfl, n4, rfl⟩; have hB4 := Lib.hid (hB3.out.drewN n4); have D4 := Lib.hid (D3.out.far (below_drawn (Below.refl _ w3) n4)); clear hB3 D3; generalize w3.drewN n4 = w4 at *)
    | ((with_reducible change wpList _ _ _ (⟨some 22, _, _, _, _, _⟩ :: _) _ _); refine wpList_load_row (o := ⟨some 22, _, _, _, _, _⟩) rfl 36 (.tmp 5) rfl m rfl 36 (headCells (headOf q)).toArray (0, 0) _ hB4.out Tryz.underlying36 rfl hz.out ?_)
    | ((with_reducible change wpList _ _ _ ({ dst := none, op := Op.store 36 (.tmp 2) (.tmp 22), type := _, pos := _, after := _, guard := _ } :: _) _ _); refine wpList_store_row (o := ⟨none, _, _, _, _, _⟩) rfl 36 (.tmp 2) (.tmp 22) rfl w.heap.size (headCells (headOf q)).toArray rfl rfl 36 Z98 D4.out.res hz.out hs.out ho.out ?_))
   refine bodyPost_ret (results_cell_row2 rfl _ _ w.heap.size 36 (headCells (headOf q)).toArray (0, 0) _ rfl (setRow_heap _ _ _ _ _ _ D4.out.res) Tryz.underlying36 rfl hz.out) rfl ?_
   exact ⟨by rw [hY.out]; rfl, D4.out.end_ _⟩
  ·have hY : Hid (decOut q = .tuple #[.agg Z98, .int .i64 8]) := decOut_no (by simp [decOk, hd])
   have hDn : Hid (doneOf 113 q.length = 8) := if_neg (fun e => hd e.symm)
   clear ht hd
   go_enter Tryz.func45, Tryz.ntmps45
   go_wp2_with (first
    | (go_at_call 70; refine (read_any q q.length rfl hk47.out A c (w.alloc (.cells Z98 36)) hr0.out hnil.out).mono ?_; rintro e w1 ⟨g, A1, c1, rfl, hg, hb1, hR1⟩; rw [hZs.out] at hg hb1; have D1 := Lib.hid (hT.out w1 hb1 g A1 c1 hg hR1); clear hg hb1 hR1 hT hb0)
    | (go_at_call 72; refine (take_any q hk47.out g A1 c1 w1 D1.out.rd).mono ?_; rw [hX]; rintro e w2 ⟨rfl, hR2, hk2⟩; have D2 := Lib.hid (D1.out.call hR2 hk2); clear hR2 hk2 D1)
    | ((with_reducible change wpList _ _ _ ({ dst := none, op := Op.store 36 (.tmp 5) (.tmp 12), type := _, pos := _, after := _, guard := _ } :: _) _ _); refine wpList_store_all (o := ⟨none, _, _, _, _, _⟩) rfl 36 (.tmp 5) (.tmp 12) rfl w2.heap.size (headCells (headOf q)).toArray rfl rfl 36 Z98 (Blk.new w2 _ _) hz.out hs.out ho.out ?_; intro w3 hB3 hk3; have D3 := Lib.hid (D2.out.far (below_new hk3)); clear hk3 D2; generalize w2.heap.size = m at *)
    | (go_at_call 74; refine (done_any q hk47.out g 113 A1 c1 w3 D3.out.rd).mono ?_; rw [hDn.out]; rintro e w4' ⟨rfl, n4, rfl⟩; have hB4 := Lib.hid (hB3.out.drewN n4); have D4 := Lib.hid (D3.out.far (below_drawn (Below.refl _ w3) n4)); clear hB3 D3; generalize w3.drewN n4 = w4 at *)
    | ((with_reducible change wpList _ _ _ ({ dst := none, op := Op.store 36 (.tmp 2) (.tmp 21), type := _, pos := _, after := _, guard := _ } :: _) _ _); refine wpList_store_row (o := ⟨none, _, _, _, _, _⟩) rfl 36 (.tmp 2) (.tmp 21) rfl w.heap.size Z98 rfl rfl 36 Z98 D4.out.res size98' rfl one98 ?_))
   refine bodyPost_ret (results_cell_row2 rfl _ _ w.heap.size 36 Z98 (0, 0) _ rfl (setRow_heap _ _ _ _ _ _ D4.out.res) Tryz.underlying36 rfl size98') rfl ?_
   exact ⟨by rw [hY.out]; rfl, D4.out.end_ _⟩
 ·have hX : takeOut q = .tuple #[.agg Z98, .bool false] := takeOut_no ht
  have hY : Hid (decOut q = .tuple #[.agg Z98, .int .i64 8]) := decOut_no (fun h => ht (by simp [decOk] at h; exact ⟨by omega, h.2⟩))
  clear ht
  go_enter Tryz.func45, Tryz.ntmps45
  go_wp2_with (first
   | (go_at_call 70; refine (read_any q q.length rfl hk47.out A c (w.alloc (.cells Z98 36)) hr0.out hnil.out).mono ?_; rintro e w1 ⟨g, A1, c1, rfl, hg, hb1, hR1⟩; rw [hZs.out] at hg hb1; have D1 := Lib.hid (hT.out w1 hb1 g A1 c1 hg hR1); clear hg hb1 hR1 hT hb0)
   | (go_at_call 72; refine (take_any q hk47.out g A1 c1 w1 D1.out.rd).mono ?_; rw [hX]; rintro e w2 ⟨rfl, hR2, hk2⟩; have D2 := Lib.hid (D1.out.call hR2 hk2); clear hR2 hk2 D1)
   | ((with_reducible change wpList _ _ _ ({ dst := none, op := Op.store 36 (.tmp 5) (.tmp 12), type := _, pos := _, after := _, guard := _ } :: _) _ _); refine wpList_store_all (o := ⟨none, _, _, _, _, _⟩) rfl 36 (.tmp 5) (.tmp 12) rfl w2.heap.size Z98 rfl rfl 36 Z98 (Blk.new w2 _ _) size98' rfl one98 ?_; intro w3 hB3 hk3; have D3 := Lib.hid (D2.out.far (below_new hk3)); clear hk3 D2; generalize w2.heap.size = m at *)
   | ((with_reducible change wpList _ _ _ ({ dst := none, op := Op.store 36 (.tmp 2) (.tmp 21), type := _, pos := _, after := _, guard := _ } :: _) _ _); refine wpList_store_row (o := ⟨none, _, _, _, _, _⟩) rfl 36 (.tmp 2) (.tmp 21) rfl w.heap.size Z98 rfl rfl 36 Z98 D3.out.res size98' rfl one98 ?_))
  refine bodyPost_ret (results_cell_row2 rfl _ _ w.heap.size 36 Z98 (0, 0) _ rfl (setRow_heap _ _ _ _ _ _ D3.out.res) Tryz.underlying36 rfl size98') rfl ?_
  exact ⟨by rw [hY.out]; rfl, D3.out.end_ _⟩
end Go.Proofs.YtfbhjoejffagjaaGreatDoor.Decode

namespace Go.Proofs.YtfbhjoejffagjaaGreatDoor.High
open Go Go.RowKit Go.Proofs.YtfbhjoejffagjaaGreatDoor Mem Sha Bytes Go.Proofs.YtfbhjoejffagjaaGreatDoor.Append Octet QuietTail Grown Reader Reader2 Reader3 HeadMem HeadTake HeadTake2 Decode

theorem take_num0 (l : Text) (j : Nat) (hj : j < l.length) : num (l.take (j + 1)) = num (l.take j) * 256 + (l.getD j 0).toNat := by
 have h : l[j]? = some (l.getD j 0) := by simp [List.getD, hj]
 rw [List.take_add_one, h, Option.toList_some, num_snoc]

def highOut (l : Text) (L : Nat) : Value := .tuple #[.int .i64 (wrap64 (num l : Int)), .bool (decide (num l ≤ L))]

set_option maxRecDepth 100000 in
set_option maxHeartbeats 1000000 in
theorem high_any (l : Text) (hl : l.length = 8) (L : Nat) (hL : L ≤ 4611686018427387904) (A : Option Addr) (c : Nat) (w : World) (hr : Reads w 1 A 8 (cells8 l)) :
  Calls Tryz.prog 81 #[.slice A 8 c, .int .i64 (L : Int)] w fun e w' => e = .returned (highOut l L) ∧ w = w' := by
 obtain ⟨b, o, rfl, hbl, hcell⟩ := hr.2 (by omega)
 have hcell' : Hid (∀ j, j < 8 → w.cell? ⟨b, o + j, none⟩ = some (.int .u8 (b8 (l.getD j 0)))) := fun j hj => hcell j _ (cells8_at l j (by omega))
 have e0 : IntKind.u64.wrap (L : Int) = (L : Int) := u64_in _ (by omega) (by omega)
 clear hcell hbl hr
 replace hl := Lib.hid hl
 replace hL := Lib.hid hL
 go_enter Tryz.func81, Tryz.ntmps81
 go_wp2_with fail
 go_loop [6, 7] (fun v u => ∃ j N : Nat, u = .int .i64 (j : Int) ∧ v = .int .u64 (N : Int) ∧ Hid (j ≤ 8) ∧ Hid (N = num (l.take j))) (fun _ u => 8 - (intOf u).toNat)
 case atStart => exact ⟨0, 0, rfl, rfl, (show 0 ≤ 8 by omega), rfl⟩
 case round =>
  obtain ⟨j, N, rfl, rfl, hj, hNd⟩ := hrel
  by_cases hlt : j < 8
  ·have z1 : (j : Int) < 8 := by omega
   have z2 : (0 : Int) ≤ (j : Int) := by omega
   have hNl : N < 72057594037927936 := by
    rw [hNd.out]
    have h1 := num_lt (l.take j).length _ rfl
    have h2 : (l.take j).length ≤ 7 := by rw [List.length_take]; omega
    exact Nat.lt_of_lt_of_le h1 (Nat.le_trans (Nat.pow_le_pow_right (by decide) h2) (by decide))
   have hcj := hcell'.out j hlt
   obtain ⟨y, hy⟩ : ∃ y, Hid (y = l.getD j 0) := ⟨_, rfl⟩
   rw [← hy.out] at hcj
   have hst : Hid (N * 256 + y.toNat = num (l.take (j + 1))) := by
    show _ = _
    rw [take_num0 l j (by have := hl.out; omega), ← hNd.out, hy.out]
   have f0 := b8_nonneg y
   have f1 := b8_lt y
   have f2 : IntKind.u64.wrap (b8 y) = b8 y := u64_in _ f0 (by omega)
   have f3 : IntKind.u64.wrap ((N : Int) * 256) = (N : Int) * 256 := u64_in _ (by omega) (by omega)
   have f4 : (N : Int) * 256 % 18446744073709551616 = (N : Int) * 256 := by omega
   obtain ⟨M, hM⟩ : ∃ M, Hid (M = N * 256 + y.toNat) := ⟨_, rfl⟩
   have f5 : IntKind.u64.wrap ((N : Int) * 256 + b8 y) = (M : Int) := by rw [u64_in _ (by omega) (by omega), hM.out]; unfold b8; omega
   rw [← hM.out] at hst
   replace hNl := Lib.hid hNl
   go_wp2_with fail
   go_round
   case rel => exact ⟨j + 1, M, by go_num, rfl, (show j + 1 ≤ 8 by omega), hst.out⟩
   case measure => simp [intOf]; omega
  ·obtain rfl : j = 8 := by have := hj.out; omega
   have hT : Hid (N = num l) := by show _ = _; rw [hNd.out, List.take_of_length_le (by have := hl.out; omega)]
   clear hNd hj hlt
   by_cases hle : N ≤ L
   ·have t1 : (N : Int) ≤ (L : Int) := by omega
    have hO : Hid (highOut l L = .tuple #[.int .i64 (wrap64 (N : Int)), .bool true]) := by show _ = _; unfold highOut; rw [← hT.out, decide_eq_true hle]
    go_wp2_with fail
    go_ret2
    exact ⟨by rw [hO.out]; rfl, rfl⟩
   ·have t1 : (L : Int) < (N : Int) := by omega
    have hO : Hid (highOut l L = .tuple #[.int .i64 (wrap64 (N : Int)), .bool false]) := by show _ = _; unfold highOut; rw [← hT.out, decide_eq_false hle]
    go_wp2_with fail
    go_ret2
    exact ⟨by rw [hO.out]; rfl, rfl⟩
end Go.Proofs.YtfbhjoejffagjaaGreatDoor.High

namespace Go.Proofs.YtfbhjoejffagjaaGreatDoor.ReadHead
open Go Go.RowKit Go.Proofs.YtfbhjoejffagjaaGreatDoor Mem Sha Bytes Go.Proofs.YtfbhjoejffagjaaGreatDoor.Append Octet QuietTail Grown Reader Reader2 Reader3 HeadMem HeadTake HeadTake2 Decode High

theorem high_val (l : Text) (L : Nat) (hL : L ≤ 4611686018427387904) : ∃ v : Int, ∃ b : Bool, highOut l L = .tuple #[.int .i64 v, .bool b] ∧ b = decide (num l ≤ L) ∧ (b = true → v = (num l : Int)) := by
 refine ⟨_, _, rfl, rfl, fun h => ?_⟩
 have h1 := of_decide_eq_true h
 exact IntWalk.wrap64_in _ (by omega)
theorem reads_sub {w : World} {b o c : Nat} {q : Text} (h : Reads w 1 (some ⟨b, o, none⟩) q.length (cells8 q)) (at_ n : Nat) (hn : at_ + n ≤ q.length) (hc : q.length ≤ c) (hlt : at_ < q.length) : Reads w 1 (some ⟨b, o + at_, none⟩) n (cells8 ((q.drop at_).take n)) := by
 have := Reads.mid (A := some ⟨b, o, none⟩) (c := c) h hn hc
 unfold cutA at this
 rw [if_neg (by omega), Option.map_some, add_at] at this
 exact this
theorem reads_pos {w : World} {A : Addr} {p : Text} {X : Prop} (h : Reads w 1 (some A) p.length (cells8 p)) (hX : X) : 0 < (cells8 p).length → X ∧ ∃ ad, some A = some ad ∧ ∀ j v, (cells8 p)[j]? = some v → w.cell? (ad.add j) = some v := fun h0 => by
 obtain ⟨b, o, e, _, hc⟩ := h.2 (by rw [cells8_len] at h0; omega)
 exact ⟨hX, A, rfl, fun j v hv => by injection e with e; subst e; rw [add_at]; exact hc j v hv⟩

structure Rs (w0 w : World) (cs : Array Value) : Prop where
 res : Blk w w0.heap.size 36 Z98
 head : Blk w (w0.heap.size + 1) 36 cs
 below : Below w0.heap.size w0 w
section
variable {w0 w w' : World} {cs cs' : Array Value}
theorem Rs.store (h : Rs w0 w cs) (hb : Blk w' (w0.heap.size + 1) 36 cs') (hk : Kept (· = w0.heap.size + 1) w w') : Rs w0 w' cs' :=
 ⟨h.res.kept hk (by omega), hb, h.below.trans (Kept.below_of hk (Nat.le_succ _) h.below.size)⟩
theorem Rs.drewN (h : Rs w0 w cs) (n : Nat) : Rs w0 (w.drewN n) cs := ⟨h.res, h.head, below_drawn h.below n⟩
theorem Rs.set_ (h : Rs w0 w cs) (i : Nat) (u : Value) : Rs w0 (w.setCell ⟨w0.heap.size + 1, i, none⟩ u) (cs.setIfInBounds i u) :=
 h.store (h.head.set_ i u) ((Kept.refl (· = w0.heap.size + 1) w).setCell (p := ⟨w0.heap.size + 1, i, none⟩) (.inl rfl) u)
theorem Rs.new (w : World) : Rs w ((w.alloc (.cells Z98 36)).alloc (.cells Z98 36)) Z98 := by
 have e : (w.alloc (.cells Z98 36)).heap.size = w.heap.size + 1 := by simp
 have hN := Blk.new (w.alloc (.cells Z98 36)) 36 Z98
 rw [e] at hN
 exact ⟨(Blk.new w _ _).alloc _, hN, (Below.heap_below w _).alloc (by rw [e]; omega) _⟩
theorem Rs.end_ (h : Rs w0 w cs) (X : Array Value) : Below w0.heap.size w0 (w.setRow w0.heap.size X) := below_setRow h.below (Nat.le_refl _) X
end

def readOut (q : Text) : Value := .tuple (if decOk q = true then #[.agg (headCells (headOf q)).toArray, .bool true] else #[.agg Z98, .bool false])
theorem readOut_yes {q : Text} (h : decOk q = true) : readOut q = .tuple #[.agg (headCells (headOf q)).toArray, .bool true] := by unfold readOut; rw [if_pos h]
theorem readOut_no {q : Text} (h : ¬ decOk q = true) : readOut q = .tuple #[.agg Z98, .bool false] := by unfold readOut; rw [if_neg h]

set_option maxRecDepth 100000 in
set_option maxHeartbeats 1000000 in
theorem readHead_short (q : Text) (k : Nat) (hk : q.length = k) (hk47 : k < 140737488355328) (A : Option Addr) (c : Nat) (w : World) (hr : Reads w 1 A k (cells8 q)) (hd : ¬ (k = 113 ∧ q.getD 0 0 = 32)) :
  Calls Tryz.prog 46 #[.slice A k c] w fun e w' => e = .returned (readOut q) ∧ Below w.heap.size w w' := by
 have hY : Hid (readOut q = .tuple #[.agg Z98, .bool false]) := readOut_no (fun h => hd (by simp [decOk, okH] at h; exact ⟨by omega, h.2.1.1⟩))
 have hZ : Hid (Blk (w.alloc (.cells Z98 36)) w.heap.size 36 Z98) := Blk.new w _ _
 have hb : Hid (Below w.heap.size w (w.alloc (.cells Z98 36))) := Below.heap_below w _
 by_cases h113 : k = 113
 ·subst h113
  obtain ⟨b, o, rfl, hbl, hcell⟩ := hr.2 (by omega)
  have hc0 : (w.alloc (.cells Z98 36)).cell? ⟨b, o, none⟩ = some (.int .u8 (b8 (q.getD 0 0))) := by
   rw [Below.cell (p := ⟨b, o, none⟩) (Below.heap_below w _) hbl]
   exact hcell 0 _ (cells8_at q 0 (by omega))
  have hy : ¬ b8 (q.getD 0 0) = 32 := fun e => hd ⟨rfl, by unfold b8 at e; apply BitVec.eq_of_toNat_eq; have : (32 : BitVec 8).toNat = 32 := rfl; omega⟩
  obtain ⟨y, hye⟩ : ∃ y, y = b8 (q.getD 0 0) := ⟨_, rfl⟩
  rw [← hye] at hc0 hy
  change (w.alloc (.cells Tryz.zeroCells36 36)).cell? ⟨b, o, none⟩ = some (.int .u8 y) at hc0
  clear hye hk hk47 hr hd hbl hcell
  go_enter Tryz.func46, Tryz.ntmps46
  go_wp2_with ((with_reducible change wpList _ _ _ ({ dst := none, op := Op.store 36 (.tmp 2) (.tmp 18), type := _, pos := _, after := _, guard := _ } :: _) _ _); refine wpList_store_row (o := ⟨none, _, _, _, _, _⟩) rfl 36 (.tmp 2) (.tmp 18) rfl w.heap.size Z98 rfl rfl 36 Z98 hZ.out size98' rfl one98 ?_)
  refine bodyPost_ret (results_cell_row2 rfl _ _ w.heap.size 36 Z98 (0, 0) _ rfl (setRow_heap _ _ _ _ _ _ hZ.out) Tryz.underlying36 rfl size98') rfl ?_
  exact ⟨by rw [hY.out]; rfl, below_setRow hb.out (Nat.le_refl _) _⟩
 ·have hk2 : ¬ (k : Int) = 113 := by omega
  replace hk47 := Lib.hid hk47
  clear hr hd hk h113
  go_enter Tryz.func46, Tryz.ntmps46
  go_wp2_with ((with_reducible change wpList _ _ _ ({ dst := none, op := Op.store 36 (.tmp 2) (.tmp 18), type := _, pos := _, after := _, guard := _ } :: _) _ _); refine wpList_store_row (o := ⟨none, _, _, _, _, _⟩) rfl 36 (.tmp 2) (.tmp 18) rfl w.heap.size Z98 rfl rfl 36 Z98 hZ.out size98' rfl one98 ?_)
  refine bodyPost_ret (results_cell_row2 rfl _ _ w.heap.size 36 Z98 (0, 0) _ rfl (setRow_heap _ _ _ _ _ _ hZ.out) Tryz.underlying36 rfl size98') rfl ?_
  exact ⟨by rw [hY.out]; rfl, below_setRow hb.out (Nat.le_refl _) _⟩

set_option maxRecDepth 100000 in
set_option maxHeartbeats 1000000 in
theorem readHead_full (q : Text) (hk : q.length = 113) (hy : q.getD 0 0 = 32) (b o c : Nat) (hcap : 113 ≤ c) (w : World) (hr : Reads w 1 (some ⟨b, o, none⟩) q.length (cells8 q)) :
  Calls Tryz.prog 46 #[.slice (some ⟨b, o, none⟩) 113 c] w fun e w' => e = .returned (readOut q) ∧ Below w.heap.size w w' := by
 have hbl : b < w.heap.size := by obtain ⟨b', o', e, h, _⟩ := hr.2 (by omega); injection e with e; injection e with e1; subst e1; exact h
 have hc0 : (w.alloc (.cells Z98 36)).cell? ⟨b, o, none⟩ = some (.int .u8 32) := by
  rw [Below.cell (p := ⟨b, o, none⟩) (Below.heap_below w _) hbl]
  obtain ⟨b', o', e, h, hcell⟩ := hr.2 (by omega)
  injection e with e; injection e with e1 e2; subst e1 e2
  have := hcell 0 _ (cells8_at q 0 (by omega))
  rw [hy] at this
  exact this
 change (w.alloc (.cells Tryz.zeroCells36 36)).cell? ⟨b, o, none⟩ = some (.int .u8 32) at hc0
 obtain ⟨w0, hw0⟩ : ∃ w0, w0 = (w.alloc (.cells Z98 36)).alloc (.cells Z98 36) := ⟨_, rfl⟩
 have R0 : Hid (Rs w w0 Z98) := by show Rs _ _ _; rw [hw0]; exact Rs.new w
 have hsub : Hid (∀ w', Below w.heap.size w w' → ∀ at_ n, at_ + n ≤ 113 → at_ < 113 → Reads w' 1 (some ⟨b, o + at_, none⟩) n (cells8 ((q.drop at_).take n))) := fun w' hb at_ n h1 h2 => reads_sub (c := c) (hr.below hb) at_ n (by omega) (by omega) (by omega)
 have hlen : Hid (∀ at_ n, at_ + n ≤ 113 → ((q.drop at_).take n).length = n) := fun at_ n h => by rw [List.length_take, List.length_drop]; omega
 have X : ∀ (l h : Nat), l ≤ h → h ≤ c → l < c → ∀ (x y : Int), x = l → y = h → ∀ w', (Instr.sliceAt 31 (.slice (some ⟨b, o, none⟩) 113 c) (some (.int .i64 x)) (some (.int .i64 y)) none).run Tryz.prog w' = .ok (.slice (some ⟨b, o + l, none⟩) (h - l) (c - l)) w' := fun l h h1 h2 h3 x y hx hy w' => by
  rw [run_mid (l := l) (h := h) Tryz.underlying31 (fun _ => rfl) h1 h2 x y hx hy w']
  simp only [cutA, if_neg (show ¬ c = l by omega), Option.map_some, add_at]
 have X1 : ∀ w', (Instr.sliceAt 31 (.slice (some ⟨b, o, none⟩) 113 c) (some (.int .i64 1)) (some (.int .i64 33)) none).run Tryz.prog w' = .ok (.slice (some ⟨b, o + 1, none⟩) 32 (c - 1)) w' := X 1 33 (by omega) (by omega) (by omega) 1 33 rfl rfl
 have X2 : ∀ w', (Instr.sliceAt 31 (.slice (some ⟨b, o, none⟩) 113 c) (some (.int .i64 33)) (some (.int .i64 41)) none).run Tryz.prog w' = .ok (.slice (some ⟨b, o + 33, none⟩) 8 (c - 33)) w' := X 33 41 (by omega) (by omega) (by omega) 33 41 rfl rfl
 have X3 : ∀ w', (Instr.sliceAt 31 (.slice (some ⟨b, o, none⟩) 113 c) (some (.int .i64 41)) (some (.int .i64 73)) none).run Tryz.prog w' = .ok (.slice (some ⟨b, o + 41, none⟩) 32 (c - 41)) w' := X 41 73 (by omega) (by omega) (by omega) 41 73 rfl rfl
 have X4 : ∀ w', (Instr.sliceAt 31 (.slice (some ⟨b, o, none⟩) 113 c) (some (.int .i64 73)) (some (.int .i64 105)) none).run Tryz.prog w' = .ok (.slice (some ⟨b, o + 73, none⟩) 32 (c - 73)) w' := X 73 105 (by omega) (by omega) (by omega) 73 105 rfl rfl
 have X5 : ∀ w', (Instr.sliceAt 31 (.slice (some ⟨b, o, none⟩) 113 c) (some (.int .i64 105)) (some (.int .i64 113)) none).run Tryz.prog w' = .ok (.slice (some ⟨b, o + 105, none⟩) 8 (c - 105)) w' := X 105 113 (by omega) (by omega) (by omega) 105 113 rfl rfl
 obtain ⟨v1, f1, ho1, hf1, hv1⟩ := high_val ((q.drop 33).take 8) 1099511627776 (by omega)
 have hH1 : Hid (∀ w', Reads w' 1 (some ⟨b, o + 33, none⟩) 8 (cells8 ((q.drop 33).take 8)) → Calls Tryz.prog 81 #[.slice (some ⟨b, o + 33, none⟩) 8 (c - 33), .int .i64 1099511627776] w' fun e w'' => e = .returned (.tuple #[.int .i64 v1, .bool f1]) ∧ w' = w'') := fun w' h => by
  have := high_any ((q.drop 33).take 8) (hlen.out 33 8 (by omega)) 1099511627776 (by omega) (some ⟨b, o + 33, none⟩) (c - 33) w' h
  rw [ho1] at this
  exact this
 clear ho1
 replace hf1 := Lib.hid hf1
 replace hv1 := Lib.hid hv1
 obtain ⟨v2, f2, ho2, hf2, hv2⟩ := high_val ((q.drop 105).take 8) 4611686018427387904 (by omega)
 have hH2 : Hid (∀ w', Reads w' 1 (some ⟨b, o + 105, none⟩) 8 (cells8 ((q.drop 105).take 8)) → Calls Tryz.prog 81 #[.slice (some ⟨b, o + 105, none⟩) 8 (c - 105), .int .i64 4611686018427387904] w' fun e w'' => e = .returned (.tuple #[.int .i64 v2, .bool f2]) ∧ w' = w'') := fun w' h => by
  have := high_any ((q.drop 105).take 8) (hlen.out 105 8 (by omega)) 4611686018427387904 (by omega) (some ⟨b, o + 105, none⟩) (c - 105) w' h
  rw [ho2] at this
  exact this
 clear ho2
 replace hf2 := Lib.hid hf2
 replace hv2 := Lib.hid hv2
 clear X hr hbl
 replace hk := Lib.hid hk
 replace hy := Lib.hid hy
 replace hcap := Lib.hid hcap
 go_enter Tryz.func46, Tryz.ntmps46
 go_wp2_with fail
 have hww : (w.alloc (.cells Tryz.zeroCells36 36)).alloc (.cells Tryz.zeroCells36 36) = w0 := hw0.symm
 rw [hww]
 clear hww hw0 hc0
 refine wp_region_quiet_tail 4 (by kernel_rfl) (by kernel_rfl) ?_
 repeat (quiet_step (fail))
 refine wpQuiet_nil ?_
 intro _ hw'
 obtain ⟨na, hw''⟩ := hw'
 subst hw''
 simp only [List.drop]
 have Qa : Hid (Rs w (w0.drewN na) Z98) := R0.out.drewN na
 clear R0
 generalize w0.drewN na = ua at *
 have Ca := Lib.hid (reads_pos (X := some (⟨w.heap.size + 1, 0, none⟩ : Addr) = some ⟨w.heap.size + 1, 0, none⟩) (p := (q.drop 1).take 32) (by rw [hlen.out 1 32 (by omega)]; exact hsub.out ua Qa.out.below 1 32 (by omega) (by omega)) rfl)
 have La : Hid ((cells8 ((q.drop 1).take 32)).length = 32) := by show _ = _; rw [cells8_len, hlen.out 1 32 (by omega)]
 have Za : Hid (((Z98 : Array Value)).size = 98) := z98_size
 have Fa : Hid (0 + (cells8 ((q.drop 1).take 32)).length ≤ (Z98 : Array Value).size) := by show _ ≤ _; rw [Za.out, La.out]; decide
 go_wp2_with ((with_reducible change wpList _ _ _ (⟨some 23, _, _, _, _, _⟩ :: _) _ _); refine wpList_copy_into (o := ⟨some 23, _, _, _, _, _⟩) rfl (.tmp 20) (.tmp 22) 31 31 rfl 5 Tryz.underlying31 size8 (some ⟨w.heap.size + 1, 0, none⟩) (some ⟨b, o + 1, none⟩) 32 32 32 (c - 1) rfl rfl (w.heap.size + 1) 0 (Z98) 36 Qa.out.head (cells8 ((q.drop 1).take 32)) La.out Ca.out Fa.out (cells8_one _) ua (Kept.refl _ ua) 32 La.out ?_; intro w1 hba hka; have R1 := Lib.hid (Qa.out.store hba.out hka); clear hba hka Qa Ca Fa)
 refine (hH1.out w1 (hsub.out w1 R1.out.below 33 8 (by omega) (by omega))).mono ?_
 rintro e w' ⟨rfl, rfl⟩
 go_wp2_with fail
 refine wp_region_quiet_tail 4 (by kernel_rfl) (by kernel_rfl) ?_
 repeat (quiet_step (fail))
 refine wpQuiet_nil ?_
 intro _ hw'
 obtain ⟨nb, hw''⟩ := hw'
 subst hw''
 simp only [List.drop]
 have Qb : Hid (Rs w (w1.drewN nb) (splice Z98.toList 0 (cells8 ((q.drop 1).take 32))).toArray) := R1.out.drewN nb
 clear R1
 generalize w1.drewN nb = ub at *
 have Cb := Lib.hid (reads_pos (X := some (⟨w.heap.size + 1, 33, none⟩ : Addr) = some ⟨w.heap.size + 1, 33, none⟩) (p := (q.drop 41).take 32) (by rw [hlen.out 41 32 (by omega)]; exact hsub.out ub Qb.out.below 41 32 (by omega) (by omega)) rfl)
 have Lb : Hid ((cells8 ((q.drop 41).take 32)).length = 32) := by show _ = _; rw [cells8_len, hlen.out 41 32 (by omega)]
 have Zb : Hid ((((splice Z98.toList 0 (cells8 ((q.drop 1).take 32))).toArray : Array Value)).size = 98) := by show _ = _; rw [List.size_toArray, len_splice _ _ _ (by rw [La.out]; decide)]; exact z98_size
 have Fb : Hid (33 + (cells8 ((q.drop 41).take 32)).length ≤ ((splice Z98.toList 0 (cells8 ((q.drop 1).take 32))).toArray : Array Value).size) := by show _ ≤ _; rw [Zb.out, Lb.out]; decide
 go_wp2_with ((with_reducible change wpList _ _ _ (⟨some 34, _, _, _, _, _⟩ :: _) _ _); refine wpList_copy_into (o := ⟨some 34, _, _, _, _, _⟩) rfl (.tmp 31) (.tmp 33) 31 31 rfl 5 Tryz.underlying31 size8 (some ⟨w.heap.size + 1, 33, none⟩) (some ⟨b, o + 41, none⟩) 32 32 32 (c - 41) rfl rfl (w.heap.size + 1) 33 ((splice Z98.toList 0 (cells8 ((q.drop 1).take 32))).toArray) 36 Qb.out.head (cells8 ((q.drop 41).take 32)) Lb.out Cb.out Fb.out (cells8_one _) ub (Kept.refl _ ub) 32 Lb.out ?_; intro w2 hbb hkb; have R2 := Lib.hid (Qb.out.store hbb.out hkb); clear hbb hkb Qb Cb Fb)
 refine wp_region_quiet_tail 4 (by kernel_rfl) (by kernel_rfl) ?_
 repeat (quiet_step (fail))
 refine wpQuiet_nil ?_
 intro _ hw'
 obtain ⟨nc, hw''⟩ := hw'
 subst hw''
 simp only [List.drop]
 have Qc : Hid (Rs w (w2.drewN nc) (splice (splice Z98.toList 0 (cells8 ((q.drop 1).take 32))) 33 (cells8 ((q.drop 41).take 32))).toArray) := R2.out.drewN nc
 clear R2
 generalize w2.drewN nc = uc at *
 have Cc := Lib.hid (reads_pos (X := some (⟨w.heap.size + 1, 65, none⟩ : Addr) = some ⟨w.heap.size + 1, 65, none⟩) (p := (q.drop 73).take 32) (by rw [hlen.out 73 32 (by omega)]; exact hsub.out uc Qc.out.below 73 32 (by omega) (by omega)) rfl)
 have Lc : Hid ((cells8 ((q.drop 73).take 32)).length = 32) := by show _ = _; rw [cells8_len, hlen.out 73 32 (by omega)]
 have Zc : Hid ((((splice (splice Z98.toList 0 (cells8 ((q.drop 1).take 32))) 33 (cells8 ((q.drop 41).take 32))).toArray : Array Value)).size = 98) := by show _ = _; rw [List.size_toArray, len_splice _ _ _ (by rw [Lb.out]; have := Zb.out; rw [List.size_toArray] at this; omega)]; have := Zb.out; rwa [List.size_toArray] at this
 have Fc : Hid (65 + (cells8 ((q.drop 73).take 32)).length ≤ ((splice (splice Z98.toList 0 (cells8 ((q.drop 1).take 32))) 33 (cells8 ((q.drop 41).take 32))).toArray : Array Value).size) := by show _ ≤ _; rw [Zc.out, Lc.out]; decide
 go_wp2_with ((with_reducible change wpList _ _ _ (⟨some 39, _, _, _, _, _⟩ :: _) _ _); refine wpList_copy_into (o := ⟨some 39, _, _, _, _, _⟩) rfl (.tmp 36) (.tmp 38) 31 31 rfl 5 Tryz.underlying31 size8 (some ⟨w.heap.size + 1, 65, none⟩) (some ⟨b, o + 73, none⟩) 32 32 32 (c - 73) rfl rfl (w.heap.size + 1) 65 ((splice (splice Z98.toList 0 (cells8 ((q.drop 1).take 32))) 33 (cells8 ((q.drop 41).take 32))).toArray) 36 Qc.out.head (cells8 ((q.drop 73).take 32)) Lc.out Cc.out Fc.out (cells8_one _) uc (Kept.refl _ uc) 32 Lc.out ?_; intro w3 hbc hkc; have R3 := Lib.hid (Qc.out.store hbc.out hkc); clear hbc hkc Qc Cc Fc)
 have R4 : Hid (Rs w w3 (filled ((q.drop 1).take 32) ((q.drop 41).take 32) ((q.drop 73).take 32))) := R3.out
 clear R3
 refine (hH2.out w3 (hsub.out w3 R4.out.below 105 8 (by omega) (by omega))).mono ?_
 rintro e w' ⟨rfl, rfl⟩
 clear hH1 hH2 X1 X2 X3 X4 X5 hsub La Lb Lc Za Zb Zc
 rcases Bool.eq_false_or_eq_true f1 with rfl | rfl
 ·rcases Bool.eq_false_or_eq_true f2 with rfl | rfl
  ·have hdec : Hid (decOk q = true) := by
    have h1 := hf1.out; have h2 := hf2.out
    show _ = _
    simp at h1 h2
    unfold decOk okH
    rw [hk.out, hy.out, decide_eq_true h1, decide_eq_true h2]
    rfl
   have hOK := headOf_ok q (by have := hk.out; omega) (by have := hdec.out; simp only [decOk, Bool.and_eq_true] at this; exact this.2)
   obtain ⟨hz, ho, hs⟩ := head_sizes hOK
   have hY : Hid (readOut q = .tuple #[.agg (headCells (headOf q)).toArray, .bool true]) := readOut_yes hdec.out
   have hsz := filled_size ((q.drop 1).take 32) ((q.drop 41).take 32) ((q.drop 73).take 32) (hlen.out 1 32 (by omega)) (hlen.out 41 32 (by omega)) (hlen.out 73 32 (by omega))
   obtain ⟨x1, hx1⟩ : ∃ x1, (filled ((q.drop 1).take 32) ((q.drop 41).take 32) ((q.drop 73).take 32))[32]? = some x1 := ⟨_, Array.getElem?_eq_getElem (by omega)⟩
   obtain ⟨x2, hx2⟩ : ∃ x2, (filled ((q.drop 1).take 32) ((q.drop 41).take 32) ((q.drop 73).take 32))[97]? = some x2 := ⟨_, Array.getElem?_eq_getElem (by omega)⟩
   have c1 : w3.cell? ⟨w.heap.size + 1, 32, none⟩ = some x1 := (R4.out.head.cell 32).trans hx1
   have c2 : w3.cell? ⟨w.heap.size + 1, 97, none⟩ = some x2 := (R4.out.head.cell 97).trans hx2
   have g1 := R4.out.head.frozen 32
   have g2 := R4.out.head.frozen 97
   have R5 : Hid (Rs w ((w3.setCell ⟨w.heap.size + 1, 32, none⟩ (.int .i64 v1)).setCell ⟨w.heap.size + 1, 97, none⟩ (.int .i64 v2)) (headCells (headOf q)).toArray) := by
    have := (R4.out.set_ 32 (.int .i64 v1)).set_ 97 (.int .i64 v2)
    have e := filled_head (headOf q) hOK
    rw [hv1.out rfl, hv2.out rfl] at this ⊢
    unfold headOf at e
    simp only at e
    rw [e] at this
    exact this
   clear hf1 hf2 hv1 hv2 hsz hx1 hx2 hlen hOK hdec
   go_wp2_with (first
    | ((with_reducible change wpList _ _ _ (⟨some 57, _, _, _, _, _⟩ :: _) _ _); refine wpList_load_row (o := ⟨some 57, _, _, _, _, _⟩) rfl 36 (.tmp 4) rfl (w.heap.size + 1) rfl 36 (headCells (headOf q)).toArray (0, 0) _ R5.out.head Tryz.underlying36 rfl hz.out ?_)
    | ((with_reducible change wpList _ _ _ ({ dst := none, op := Op.store 36 _ _, type := _, pos := _, after := _, guard := _ } :: _) _ _); refine wpList_store_row (o := ⟨none, _, _, _, _, _⟩) rfl 36 (.tmp 2) (.tmp 57) rfl w.heap.size (headCells (headOf q)).toArray rfl rfl 36 Z98 R5.out.res hz.out hs.out ho.out ?_))
   refine bodyPost_ret (results_cell_row2 rfl _ _ w.heap.size 36 (headCells (headOf q)).toArray (0, 0) _ rfl (setRow_heap _ _ _ _ _ _ R5.out.res) Tryz.underlying36 rfl hz.out) rfl ?_
   exact ⟨by rw [hY.out]; rfl, R5.out.end_ _⟩
  ·have hY : Hid (readOut q = .tuple #[.agg Z98, .bool false]) := readOut_no (fun h => by simp [decOk, okH] at h; have h1 := hf1.out; have h2 := hf2.out; simp at h1 h2; omega)
   go_wp2_with ((with_reducible change wpList _ _ _ ({ dst := none, op := Op.store 36 (.tmp 2) (.tmp 52), type := _, pos := _, after := _, guard := _ } :: _) _ _); refine wpList_store_row (o := ⟨none, _, _, _, _, _⟩) rfl 36 (.tmp 2) (.tmp 52) rfl w.heap.size Z98 rfl rfl 36 Z98 R4.out.res size98' rfl one98 ?_)
   refine bodyPost_ret (results_cell_row2 rfl _ _ w.heap.size 36 Z98 (0, 0) _ rfl (setRow_heap _ _ _ _ _ _ R4.out.res) Tryz.underlying36 rfl size98') rfl ?_
   exact ⟨by rw [hY.out]; rfl, R4.out.end_ _⟩
 ·have hY : Hid (readOut q = .tuple #[.agg Z98, .bool false]) := readOut_no (fun h => by simp [decOk, okH] at h; have h1 := hf1.out; have h2 := hf2.out; simp at h1 h2; omega)
  go_wp2_with ((with_reducible change wpList _ _ _ ({ dst := none, op := Op.store 36 (.tmp 2) (.tmp 52), type := _, pos := _, after := _, guard := _ } :: _) _ _); refine wpList_store_row (o := ⟨none, _, _, _, _, _⟩) rfl 36 (.tmp 2) (.tmp 52) rfl w.heap.size Z98 rfl rfl 36 Z98 R4.out.res size98' rfl one98 ?_)
  refine bodyPost_ret (results_cell_row2 rfl _ _ w.heap.size 36 Z98 (0, 0) _ rfl (setRow_heap _ _ _ _ _ _ R4.out.res) Tryz.underlying36 rfl size98') rfl ?_
  exact ⟨by rw [hY.out]; rfl, R4.out.end_ _⟩

theorem readHead_any (q : Text) (k : Nat) (hk : q.length = k) (hk47 : k < 140737488355328) (A : Option Addr) (c : Nat) (hkc : k ≤ c) (w : World) (hr : Reads w 1 A k (cells8 q)) :
  Calls Tryz.prog 46 #[.slice A k c] w fun e w' => e = .returned (readOut q) ∧ Below w.heap.size w w' := by
 by_cases hd : k = 113 ∧ q.getD 0 0 = 32
 ·obtain ⟨rfl, hy⟩ := hd
  obtain ⟨b, o, rfl, _⟩ := hr.2 (by omega)
  exact readHead_full q hk hy b o c hkc w (by rw [hk]; exact hr)
 ·exact readHead_short q k hk hk47 A c w hr hd
end Go.Proofs.YtfbhjoejffagjaaGreatDoor.ReadHead

namespace Go.Proofs.YtfbhjoejffagjaaGreatDoor.HeadTake3
open Go Go.RowKit Go.Proofs.YtfbhjoejffagjaaGreatDoor Mem Sha Bytes Go.Proofs.YtfbhjoejffagjaaGreatDoor.Append Octet QuietTail Grown Reader Reader2 Reader3 HeadMem HeadTake HeadTake2

theorem len1 {q q1 : Text} (e : q.drop 1 = q1) (h : 114 ≤ q.length) : 113 ≤ q1.length := by rw [← e, List.length_drop]; omega
theorem len0 {q q1 : Text} (e : q.drop 1 = q1) (h : 113 ≤ q1.length) : 114 ≤ q.length := by rw [← e, List.length_drop] at h; omega
theorem head1 (q : Text) : headOf (q.drop 1) = ⟨(q.drop 2).take 32, (num ((q.drop (2 + 32)).take 8) : Nat), (q.drop (2 + 32 + 8)).take 32, (q.drop (2 + 32 + 8 + 32)).take 32, (num ((q.drop (2 + 32 + 8 + 32 + 32)).take 8) : Nat)⟩ := by
 unfold headOf
 simp only [List.drop_drop]
theorem ok1 (q : Text) : okH (q.drop 1) = (decide (q.getD 1 0 = 32) && decide (num ((q.drop (2 + 32)).take 8) ≤ 1099511627776) && decide (num ((q.drop (2 + 32 + 8 + 32 + 32)).take 8) ≤ 4611686018427387904)) := by
 unfold okH
 simp only [List.drop_drop, List.getD_eq_getElem?_getD, List.getElem?_drop]
set_option maxRecDepth 100000 in
set_option maxHeartbeats 400000 in
theorem take1_at (q q1 : Text) (hq1 : Hid (q.drop 1 = q1)) (hq : q.length < 140737488355328) (g : Nat) (A : Option Addr) (c : Nat) (w : World) (h : Rd w g q A c 1) :
  Calls Tryz.prog 72 #[.pointer (some ⟨g, 0, none⟩)] w fun e w' => e = .returned (takeOut q1) ∧ Rd w' g q A c 114 ∧ Kept (· = g) w w' := by
 have hR0 : Hid (Rd (w.alloc (.cells Z98 36)) g q A c 1) := h.alloc _
 have hlt := Lib.hid h.lt
 have hold := Lib.hid h.old
 have hZ : Hid (Blk (w.alloc (.cells Z98 36)) w.heap.size 36 Z98) := Blk.new w _ _
 have hZs : Hid (w.heap.size < (w.alloc (.cells Z98 36)).heap.size) := by show _ < _; simp
 replace hq := Lib.hid hq
 clear h
 go_enter Tryz.func72, Tryz.ntmps72
 go_wp2_with (first
  | (go_at_call 71; refine (take1_any q hq.out g 1 A c (w.alloc (.cells Z98 36)) hR0.out).mono ?_; rintro e w1 ⟨y, rfl, hy, hR1, hk1⟩; have S1 : Hid (TkSt w (w1.alloc (.cells Z98 36)) g w.heap.size w1.heap.size q A c 2 Z98) := TkSt.begin hR1 hlt.out hold.out (((Kept.refl (· = g) w).alloc _).trans hk1 (fun _ _ x => x)) (Nat.le_refl _) (hZ.out.kept hk1 (by have := hlt.out; omega)); generalize hm : w1.heap.size = m at *; replace hy := Lib.hid hy; clear hR1 hk1 hR0 hZ)
  | (go_at_call 73; refine (digest_any q hq.out g 2 A c _ S1.out.rd).mono ?_; rintro e w2 ⟨d1, rfl, hd1, he1, hR2, hk2⟩; have S2 := Lib.hid (S1.out.call hR2 hk2); replace hd1 := Lib.hid hd1; replace he1 := Lib.hid he1; clear hR2 hk2 S1 hm)
  | ((with_reducible change wpList _ _ _ ({ dst := none, op := Op.store 34 (.tmp 12) (.tmp 11), type := _, pos := _, after := _, guard := _ } :: _) _ _); refine wpList_store_at (o := ⟨none, _, _, _, _, _⟩) rfl 34 (.tmp 12) (.tmp 11) rfl m 0 (cells8 d1) rfl rfl 36 Z98 S2.out.head (size31.trans (congrArg some (by rw [cells8_len, hd1.out]))) (by rw [cells8_len, hd1.out]; decide) (cells8_one _) ?_; intro w3 hb3 hk3; have S3 := Lib.hid (S2.out.store hb3.out hk3); clear hb3 hk3 S2)
  | (go_at_call 108; refine (take8_any q hq.out g (2 + 32) A c _ S3.out.rd).mono ?_; rintro e w4 ⟨N, rfl, hN, hNe, hR4, hk4⟩; have S4 := Lib.hid (S3.out.call hR4 hk4); replace hN := Lib.hid hN; replace hNe := Lib.hid hNe; clear hR4 hk4 S3)
  | (go_at_call 73; refine (digest_any q hq.out g (2 + 32 + 8) A c _ S4.out.rd).mono ?_; rintro e w5 ⟨d2, rfl, hd2, he2, hR5, hk5⟩; have S5 := Lib.hid (S4.out.call hR5 hk5); replace hd2 := Lib.hid hd2; replace he2 := Lib.hid he2; clear hR5 hk5 S4)
  | ((with_reducible change wpList _ _ _ ({ dst := none, op := Op.store 34 (.tmp 17) (.tmp 16), type := _, pos := _, after := _, guard := _ } :: _) _ _); refine wpList_store_at (o := ⟨none, _, _, _, _, _⟩) rfl 34 (.tmp 17) (.tmp 16) rfl m 33 (cells8 d2) rfl rfl 36 _ S5.out.head (size31.trans (congrArg some (by rw [cells8_len, hd2.out]))) (by rw [List.size_toArray, len_splice _ _ _ (by rw [cells8_len, hd1.out]; decide), cells8_len, hd2.out]; decide) (cells8_one _) ?_; intro w6 hb hk; have S6 := Lib.hid (S5.out.store hb.out hk); clear hb hk S5)
  | (go_at_call 73; refine (digest_any q hq.out g (2 + 32 + 8 + 32) A c _ S6.out.rd).mono ?_; rintro e w7 ⟨d3, rfl, hd3, he3, hR7, hk7⟩; have S7 := Lib.hid (S6.out.call hR7 hk7); replace hd3 := Lib.hid hd3; replace he3 := Lib.hid he3; clear hR7 hk7 S6)
  | ((with_reducible change wpList _ _ _ ({ dst := none, op := Op.store 34 (.tmp 20) (.tmp 19), type := _, pos := _, after := _, guard := _ } :: _) _ _); refine wpList_store_at (o := ⟨none, _, _, _, _, _⟩) rfl 34 (.tmp 20) (.tmp 19) rfl m 65 (cells8 d3) rfl rfl 36 _ S7.out.head (size31.trans (congrArg some (by rw [cells8_len, hd3.out]))) (by rw [List.size_toArray, len_splice _ _ _ (by rw [len_splice _ _ _ (by rw [cells8_len, hd1.out]; decide), cells8_len, hd2.out]; decide), len_splice _ _ _ (by rw [cells8_len, hd1.out]; decide), cells8_len, hd3.out]; decide) (cells8_one _) ?_; intro w8 hb hk; have S8 := Lib.hid (S7.out.store hb.out hk); clear hb hk S7)
  | (go_at_call 108; refine (take8_any q hq.out g (2 + 32 + 8 + 32 + 32) A c _ S8.out.rd).mono ?_; rintro e w9 ⟨M, rfl, hM, hMe, hR9, hk9⟩; have S9 : Hid (TkSt w w9 g w.heap.size m q A c 114 (filled d1 d2 d3)) := S8.out.call hR9 hk9; replace hM := Lib.hid hM; replace hMe := Lib.hid hMe; clear hR9 hk9 S8))
 have hW := why_any q g 114 A c w9 S9.out.rd
 obtain ⟨yy, hyy⟩ : ∃ yy, Hid (yy = b8 y) := ⟨_, rfl⟩
 rw [← hyy.out]
 by_cases hl : 114 ≤ q.length
 ·rw [show whyOf 114 q.length = 0 from if_pos hl] at hW
  have hD : Hid (headOf q1 = ⟨d1, (N : Int), d2, d3, (M : Int)⟩) := by
   show _ = _
   rw [← hq1.out, head1]
   rw [hNe.out (by omega), hMe.out (by omega), he1.out (by omega), he2.out (by omega), he3.out (by omega)]
  have hO : Hid (okH q1 = (decide (yy = 32) && decide (N ≤ 1099511627776) && decide (M ≤ 4611686018427387904))) := by
   show _ = _
   rw [hNe.out (by omega), hMe.out (by omega), hyy.out, hy.out (by omega), ← hq1.out, ok1]
   congr 2
   apply decide_eq_decide.2
   constructor
   ·intro h
    rw [h]
    rfl
   ·intro h
    unfold b8 at h
    apply BitVec.eq_of_toNat_eq
    have : (32 : BitVec 8).toNat = 32 := rfl
    omega
  clear hy hNe hMe he1 he2 he3 hyy
  replace hl := Lib.hid hl
  by_cases hy1 : yy = 32
  ·subst hy1
   by_cases hN1 : N ≤ 1099511627776
   ·by_cases hM1 : M ≤ 4611686018427387904
    ·have n1 : (N : Int) ≤ 1099511627776 := by omega
     have m1 : (M : Int) ≤ 4611686018427387904 := by omega
     have n2 : IntKind.i64.wrap (N : Int) = (N : Int) := IntWalk.i64_in _ (by omega)
     have m2 : IntKind.i64.wrap (M : Int) = (M : Int) := IntWalk.i64_in _ (by omega)
     have hyes : Hid (114 ≤ q.length ∧ okH q1 = true) := by show _ ∧ _; refine ⟨hl.out, ?_⟩; rw [hO.out]; simp; omega
     have hsz := filled_size d1 d2 d3 hd1.out hd2.out hd3.out
     obtain ⟨v1, hv1⟩ : ∃ v1, (filled d1 d2 d3)[32]? = some v1 := ⟨_, Array.getElem?_eq_getElem (by omega)⟩
     obtain ⟨v2, hv2⟩ : ∃ v2, (filled d1 d2 d3)[97]? = some v2 := ⟨_, Array.getElem?_eq_getElem (by omega)⟩
     have c1 : w9.cell? ⟨m, 32, none⟩ = some v1 := (S9.out.head.cell 32).trans hv1
     have c2 : w9.cell? ⟨m, 97, none⟩ = some v2 := (S9.out.head.cell 97).trans hv2
     have f1 := S9.out.head.frozen 32
     have f2 := S9.out.head.frozen 97
     have S10 : Hid (TkSt w ((w9.setCell ⟨m, 32, none⟩ (.int .i64 (N : Int))).setCell ⟨m, 97, none⟩ (.int .i64 (M : Int))) g w.heap.size m q A c 114 (headCells (headOf q1)).toArray) := by
      have := (S9.out.set_ 32 (.int .i64 (N : Int))).set_ 97 (.int .i64 (M : Int))
      have e := filled_head (headOf q1) (headOf_ok q1 (len1 hq1.out hyes.out.1) hyes.out.2)
      rw [hD.out] at e
      rw [e, ← hD.out] at this
      exact this
     have hz98 : Hid ((Tryz.prog.info? 36).map (·.size) = some (headCells (headOf q1)).toArray.size) := by show _ = _; rw [List.size_toArray, headCells_len (headOf_ok q1 (len1 hq1.out hyes.out.1) hyes.out.2)]; exact size98
     have ho98 : Hid ((headCells (headOf q1)).toArray.all (fun v => v.oneCell') = true) := by show _ = _; rw [List.all_toArray]; exact List.all_eq_true.2 (headCells_one (headOf q1))
     have ho99 : Hid ((Z98 : Array Value).size = (headCells (headOf q1)).toArray.size) := z98_size.trans (by rw [List.size_toArray, headCells_len (headOf_ok q1 (len1 hq1.out hyes.out.1) hyes.out.2)])
     clear hN1 hM1 hO hD hl hM hN hd1 hd2 hd3 hsz hv1 hv2
     refine hW.mono ?_
     rintro e w' ⟨rfl, rfl⟩
     go_wp2_with (first
      | ((with_reducible change wpList _ _ _ (⟨some 45, _, _, _, _, _⟩ :: _) _ _); refine wpList_load_row (o := ⟨some 45, _, _, _, _, _⟩) rfl 36 (.tmp 5) rfl m rfl 36 (headCells (headOf q1)).toArray (0, 0) _ S10.out.head Tryz.underlying36 rfl hz98.out ?_)
      | ((with_reducible change wpList _ _ _ ({ dst := none, op := Op.store 36 _ _, type := _, pos := _, after := _, guard := _ } :: _) _ _); refine wpList_store_row (o := ⟨none, _, _, _, _, _⟩) rfl 36 (.tmp 2) (.tmp 45) rfl w.heap.size (headCells (headOf q1)).toArray rfl rfl 36 Z98 S10.out.res hz98.out ho99.out ho98.out ?_))
     refine bodyPost_ret (results_cell_row2 rfl _ _ w.heap.size 36 (headCells (headOf q1)).toArray (0, 0) _ rfl (setRow_heap _ _ _ _ _ _ S10.out.res) Tryz.underlying36 rfl hz98.out) rfl ?_
     exact ⟨by rw [takeOut_yes (len1 hq1.out hyes.out.1) hyes.out.2]; rfl, St_end S10.out _⟩
    ·have n1 : (N : Int) ≤ 1099511627776 := by omega
     have m1 : (4611686018427387904 : Int) < (M : Int) := by omega
     have hno : Hid (¬ (114 ≤ q.length ∧ okH q1 = true)) := fun h => by have h2 := h.2; rw [hO.out] at h2; simp at h2; omega
     clear hN1 hM1
     refine hW.mono ?_
     rintro e w' ⟨rfl, rfl⟩
     go_wp2_with ((with_reducible change wpList _ _ _ ({ dst := none, op := Op.store 36 _ _, type := _, pos := _, after := _, guard := _ } :: _) _ _); refine wpList_store_row (o := ⟨none, _, _, _, _, _⟩) rfl 36 (.tmp 2) (.tmp 38) rfl w.heap.size Z98 rfl rfl 36 Z98 S9.out.res size98' rfl one98 ?_)
     refine bodyPost_ret (results_cell_row2 rfl _ _ w.heap.size 36 Z98 (0, 0) _ rfl (setRow_heap _ _ _ _ _ _ S9.out.res) Tryz.underlying36 rfl size98') rfl ?_
     exact ⟨by rw [takeOut_no (fun h => hno.out ⟨len0 hq1.out h.1, h.2⟩)]; rfl, St_end S9.out _⟩
   ·have n1 : (1099511627776 : Int) < (N : Int) := by omega
    have hno : Hid (¬ (114 ≤ q.length ∧ okH q1 = true)) := fun h => by have h2 := h.2; rw [hO.out] at h2; simp at h2; omega
    clear hN1
    refine hW.mono ?_
    rintro e w' ⟨rfl, rfl⟩
    go_wp2_with ((with_reducible change wpList _ _ _ ({ dst := none, op := Op.store 36 _ _, type := _, pos := _, after := _, guard := _ } :: _) _ _); refine wpList_store_row (o := ⟨none, _, _, _, _, _⟩) rfl 36 (.tmp 2) (.tmp 38) rfl w.heap.size Z98 rfl rfl 36 Z98 S9.out.res size98' rfl one98 ?_)
    refine bodyPost_ret (results_cell_row2 rfl _ _ w.heap.size 36 Z98 (0, 0) _ rfl (setRow_heap _ _ _ _ _ _ S9.out.res) Tryz.underlying36 rfl size98') rfl ?_
    exact ⟨by rw [takeOut_no (fun h => hno.out ⟨len0 hq1.out h.1, h.2⟩)]; rfl, St_end S9.out _⟩
  ·have hno : Hid (¬ (114 ≤ q.length ∧ okH q1 = true)) := fun h => by have h2 := h.2; rw [hO.out] at h2; simp [hy1] at h2
   refine hW.mono ?_
   rintro e w' ⟨rfl, rfl⟩
   go_wp2_with ((with_reducible change wpList _ _ _ ({ dst := none, op := Op.store 36 _ _, type := _, pos := _, after := _, guard := _ } :: _) _ _); refine wpList_store_row (o := ⟨none, _, _, _, _, _⟩) rfl 36 (.tmp 2) (.tmp 38) rfl w.heap.size Z98 rfl rfl 36 Z98 S9.out.res size98' rfl one98 ?_)
   refine bodyPost_ret (results_cell_row2 rfl _ _ w.heap.size 36 Z98 (0, 0) _ rfl (setRow_heap _ _ _ _ _ _ S9.out.res) Tryz.underlying36 rfl size98') rfl ?_
   exact ⟨by rw [takeOut_no (fun h => hno.out ⟨len0 hq1.out h.1, h.2⟩)]; rfl, St_end S9.out _⟩
 ·rw [show whyOf 114 q.length = 8 from if_neg hl] at hW
  have hno : Hid (¬ (114 ≤ q.length ∧ okH q1 = true)) := fun h => hl h.1
  clear hl
  refine hW.mono ?_
  rintro e w' ⟨rfl, rfl⟩
  go_wp2_with ((with_reducible change wpList _ _ _ ({ dst := none, op := Op.store 36 _ _, type := _, pos := _, after := _, guard := _ } :: _) _ _); refine wpList_store_row (o := ⟨none, _, _, _, _, _⟩) rfl 36 (.tmp 2) (.tmp 38) rfl w.heap.size Z98 rfl rfl 36 Z98 S9.out.res size98' rfl one98 ?_)
  refine bodyPost_ret (results_cell_row2 rfl _ _ w.heap.size 36 Z98 (0, 0) _ rfl (setRow_heap _ _ _ _ _ _ S9.out.res) Tryz.underlying36 rfl size98') rfl ?_
  exact ⟨by rw [takeOut_no (fun h => hno.out ⟨len0 hq1.out h.1, h.2⟩)]; rfl, St_end S9.out _⟩
end Go.Proofs.YtfbhjoejffagjaaGreatDoor.HeadTake3
