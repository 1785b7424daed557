/-
  Texts of the claim, put into one file: Ref17, Ref17b, InclAll.
-/
import Derived.Test.YtmdkfhfkdcbpgaaDoorRZ11
import Derived.Test.YtmdkfhfkdcbpgaaDoorRZ7
import Derived.Test.YtmdkfhfkdcbpgaaDoorRZ6
import Derived.Test.YtmdkfhfkdcbpgaaDoorRZ3

namespace Go.Proofs.YtmdkfhfkdcbpgaaDoorR.Ref17
open Go Go.RowKit Go.Proofs.YtmdkfhfkdcbpgaaDoorR Mem Sha Bytes Go.Proofs.YtmdkfhfkdcbpgaaDoorR.Append Octet Octet2 QuietTail Grown TreeMath Sides ProofBeside ProofEnc Beside17 Held Own TreeMem

def eightTab (N i j : Nat) : Value := if j < i then cell8 ((be8 N).getD j 0) else .int .u8 0
theorem eightTab_succ (N i j : Nat) : eightTab N (i + 1) j = if j = i then cell8 ((be8 N).getD i 0) else eightTab N i j := by
 unfold eightTab
 by_cases h : j = i
 ·subst h; rw [if_pos (by omega), if_pos rfl]
 ·rw [if_neg h]
  by_cases h2 : j < i
  ·rw [if_pos (by omega), if_pos h2]
  ·rw [if_neg (by omega), if_neg h2]
theorem tab_own {w : World} {g n : Nat} {q : Text} {f : Nat → Value} (h : Tab w g 5 n f) (hq : q.length = n) (hn : n ≤ maxLen) (hf : ∀ j, j < n → f j = cell8 (q.getD j 0)) {B : Nat} (hB : B ≤ g) : w.ownsRow B 5 1 (.slice (some ⟨g, 0, none⟩) n n) n (cells8 q) := by
 obtain ⟨cs, hb, hs, hc⟩ := h
 refine ⟨by rw [cells8_len, hq, Nat.mul_one], .inr ⟨g, n, cs, rfl, hB, hb, Nat.le_refl _, hn, by omega, ?_⟩⟩
 have e : cs.toList = cells8 q := by
  apply List.ext_getElem?
  intro j
  rw [Array.getElem?_toList]
  rcases Nat.lt_or_ge j n with hj | hj
  ·rw [hc j hj, cells8_at q j (by omega), hf j hj]
  ·rw [Array.getElem?_eq_none (by omega), List.getElem?_eq_none (by rw [cells8_len]; omega)]
 rw [e, Nat.mul_one]
 exact List.take_of_length_le (by rw [cells8_len]; omega)

set_option maxRecDepth 100000 in
set_option maxHeartbeats 1000000 in
theorem eight_any (N : Nat) (hN : N < 9223372036854775808) (w : World) :
  Calls Tryd.prog 75 #[.int .i64 (N : Int)] w fun e w' => e = .returned (.slice (some ⟨w.heap.size, 0, none⟩) 8 8) ∧ Below w.heap.size w w' ∧ w'.ownsRow w.heap.size 5 1 (.slice (some ⟨w.heap.size, 0, none⟩) 8 8) 8 (cells8 (be8 N)) := by
 have HN : Hid (N < 9223372036854775808) := hN
 have hN1 : (0 : Int) ≤ (N : Int) := by omega
 have hN2 : IntKind.u64.wrap (N : Int) = (N : Int) := u64_in _ (by omega) (by omega)
 have hT0 : Hid (Tab (w.alloc (.cells #[.int .u8 0, .int .u8 0, .int .u8 0, .int .u8 0, .int .u8 0, .int .u8 0, .int .u8 0, .int .u8 0] 5)) w.heap.size 5 8 (eightTab N 0)) := Tab.new w _ _ 8 _ rfl (fun j hj => by
  match j, hj with
  | 0, _ => rfl
  | 1, _ => rfl
  | 2, _ => rfl
  | 3, _ => rfl
  | 4, _ => rfl
  | 5, _ => rfl
  | 6, _ => rfl
  | 7, _ => rfl
  | j + 8, h => omega)
 clear hN
 have hmk : ∀ w : World, (Instr.makeSlice 27 (.int .i64 8) (.int .i64 8)).run Tryd.prog w = .ok (.slice (some ⟨w.heap.size, 0, none⟩) 8 8) (w.alloc (.cells #[.int .u8 0, .int .u8 0, .int .u8 0, .int .u8 0, .int .u8 0, .int .u8 0, .int .u8 0, .int .u8 0] 5)) := fun _ => by kernel_rfl
 go_enter Tryd.func75, Tryd.ntmps75
 go_wp2_with fail
 clear hmk
 go_loopw [4] (fun v wr => ∃ i : Nat, v = .int .i64 (i : Int) ∧ i ≤ 8 ∧ Hid (Tab wr w.heap.size 5 8 (eightTab N i)) ∧ Hid (Below w.heap.size w wr)) (fun v _ => 8 - (intOf v).toNat)
 case atStart => exact ⟨0, rfl, by omega, hT0.out, Below.heap_below w _⟩
 case round =>
  clear hT0
  obtain ⟨i, rfl, hi, hT, hW⟩ := hrel
  by_cases hlt : i < 8
  ·have hz : (i : Int) < 8 := by omega
   have hzi : (0 : Int) ≤ (i : Int) := by omega
   obtain ⟨x, hx⟩ : ∃ x, Hid (x = byteAt N (56 - 8 * i)) := ⟨_, rfl⟩
   have z1 : IntKind.i64.wrap (8 * (i : Int)) = 8 * (i : Int) := IntWalk.i64_in _ (by omega)
   have z2 : IntKind.i64.wrap (56 - 8 * (i : Int)) = 56 - 8 * (i : Int) := IntWalk.i64_in _ (by omega)
   have z3 : IntKind.u64.wrap (56 - 8 * (i : Int)) = 56 - 8 * (i : Int) := u64_in _ (by omega) (by omega)
   have y4 : (56 - 8 * (i : Int)).toNat = 56 - 8 * i := by omega
   have y3 : (N : Int) / 2 ^ (56 - 8 * i) % 256 = b8 x := by rw [hx.out]; exact b8_at N _
   have y5 : (56 - 8 * (i : Int)) < 64 := by omega
   have y6 : 0 ≤ (56 - 8 * (i : Int)) := by omega
   have y7 : (0 : Int) ≤ (N : Int) / 2 ^ (56 - 8 * i) := Int.ediv_nonneg (by omega) (by exact Int.le_of_lt (Int.pow_pos (by decide)))
   have hgd : Hid ((be8 N).getD i 0 = x) := by show _ = _; rw [List.getD, be8_at N i hlt, hx.out]; rfl
   have c0 : wr.cell? ⟨w.heap.size, i, none⟩ = some (eightTab N i i) := hT.out.cell hlt
   have f0 : wr.frozen? ⟨w.heap.size, i, none⟩ = false := hT.out.frozen _
   have hi8 : Hid (i < 8) := hlt
   clear hlt
   go_wp2_with fail
   go_roundw
   case rel => exact ⟨i + 1, by go_num, hi8.out, hT.out.set_ i _ (fun j _ => by rw [eightTab_succ, hgd.out]; rfl), hW.out.trans (Kept.below_of ((Kept.refl (· = w.heap.size) wr).setCell (.inl rfl) _) (Nat.le_refl _) hW.out.size)⟩
   case measure => (have := hi8.out; simp [intOf]; omega)
  ·obtain rfl : i = 8 := by omega
   go_wp2_with fail
   go_ret
   exact ⟨rfl, hW.out, tab_own hT.out (be8_len N) (by decide) (fun j hj => by unfold eightTab; rw [if_pos hj]) (Nat.le_refl _)⟩

theorem flat_take {ds : List Text} {i : Nat} {d : Text} (h : ds[i]? = some d) : (ds.take (i + 1)).flatten = (ds.take i).flatten ++ d := by
 rw [List.take_add_one, h]
 simp
set_option maxRecDepth 100000 in
set_option maxHeartbeats 1000000 in
theorem digests17_any (B : Nat) (q : Text) (k : Nat) (A : Option Addr) (c : Nat) (ds : List Text) (n : Nat) (A2 : Option Addr) (c2 : Nat) (w : World) (hB : B ≤ w.heap.size) (hO : w.ownsRow B 5 1 (.slice A k c) k (cells8 q)) (hr : RdD w A2 n ds)
  (hA2 : 0 < n → ∀ b o, A2 = some ⟨b, o, none⟩ → b < B) (hlen : k + 32 * n ≤ 140737488355328) :
  Calls Tryd.prog 138 #[.slice A k c, .slice A2 n c2] w fun e w' => ∃ v, e = .returned v ∧ w'.ownsRow B 5 1 v (k + 32 * n) (cells8 (q ++ ds.flatten)) ∧ Below B w w' := by
 obtain ⟨i0, hi, hz0, hz1, hz2⟩ := info_parts8 info8
 have hdn := Lib.hid hr.1
 have hdd := Lib.hid hr.2.1
 have hO0 : Hid (w.ownsRow B 5 1 (.slice A (k + 32 * 0) c) (k + 32 * 0) (cells8 (q ++ (ds.take 0).flatten))) := by show World.ownsRow _ _ _ _ _ _ _; simpa using hO
 replace hr := Lib.hid hr
 replace hA2 := Lib.hid hA2
 replace hlen := Lib.hid hlen
 replace hB := Lib.hid hB
 clear hO
 go_enter Tryd.func138, Tryd.ntmps138
 go_wp2_with fail
 go_loopw [0, 5] (fun bv iv wr => ∃ (i : Nat) (A1 : Option Addr) (c1 : Nat), bv = .slice A1 (k + 32 * i) c1 ∧ iv = .int .i64 (i : Int) ∧ i ≤ n ∧ Hid (wr.ownsRow B 5 1 (.slice A1 (k + 32 * i) c1) (k + 32 * i) (cells8 (q ++ (ds.take i).flatten))) ∧ Hid (Below B w wr)) (fun _ iv _ => n - (intOf iv).toNat)
 case atStart => exact ⟨0, A, c, rfl, rfl, Nat.zero_le _, hO0.out, Below.refl _ _⟩
 case round =>
  clear hO0
  obtain ⟨i, A1, c1, rfl, rfl, hin, hO, hW⟩ := hrel
  have hil : (i : Int) < 9223372036854775807 := by have := hlen.out; omega
  by_cases hlt : i < n
  ·have hz : (i : Int) < (n : Int) := by omega
   have hz0' : (0 : Int) ≤ (i : Int) := by omega
   obtain ⟨d, hd⟩ : ∃ d, ds[i]? = some d := ⟨_, List.getElem?_eq_getElem (by rw [hdn.out]; exact hlt)⟩
   have hdl := hdd.out.at_ hd
   obtain ⟨b, o, e, hbb, hdc0⟩ := hr.out.at_ hd
   have hbB := hA2.out (by omega) b o e
   subst e
   have hsz : Hid (B ≤ wr.heap.size) := Nat.le_trans hB.out hW.out.size
   have hnew : Hid (Reads wr 1 (some ⟨b, o + i * 32, none⟩) 32 (cells8 d)) := ⟨by rw [cells8_len, hdl], fun _ => ⟨b, o + i * 32, rfl, Nat.lt_of_lt_of_le hbB hsz.out, fun j v hv => (hW.out.cell (p := ⟨b, o + i * 32 + j, none⟩) hbB).trans (hdc0 j v hv)⟩⟩
   have hft : Hid (q ++ (ds.take (i + 1)).flatten = (q ++ (ds.take i).flatten) ++ d) := by show _ = _; rw [flat_take hd, List.append_assoc]
   have hk1 : Hid (k + 32 * (i + 1) = k + 32 * i + 32) := by show _ = _; omega
   have hm1 : Hid (k + 32 * i + 32 ≤ maxLen) := by have := hlen.out; show _ ≤ _; unfold maxLen; omega
   have hm2 : Hid ((k + 32 * i + 32) * 1 ≤ 140737488355328) := by have := hlen.out; show _ ≤ _; omega
   have hil2 : Hid (i < n) := hlt
   clear hd hdl hdc0 hbb hbB hlt
   go_wp2_with (at_builtin; refine wpList_append_src _ rfl (.tmp 12) (.tmp 16) 27 rfl B 5 i0 (.int .u8 0) 1 1 Tryd.underlying27 hi hz0 hz1 hz2 rfl (by decide) (.slice A1 (k + 32 * i) c1) (k + 32 * i) (cells8 (q ++ (ds.take i).flatten)) rfl hO.out (some ⟨b, o + i * 32, none⟩) 32 32 (cells8 d) rfl hnew.out (fun e => by cases e) (cells8_one d) hm1.out hm2.out hsz.out ?_; intro v1 W hG; obtain ⟨A3, c3, rfl, hO3, hW3⟩ := grew_text hG hW.out hsz.out hO.out _ hft.out (k + 32 * (i + 1)) hk1.out; clear hG)
   go_roundw
   case rel => exact ⟨i + 1, A3, c3, rfl, by go_num, hil2.out, hO3.out, hW3.out⟩
   case measure => (have := hil2.out; simp [intOf]; omega)
  ·obtain rfl : i = n := by omega
   have hT : Hid ((ds.take i).flatten = ds.flatten) := by show _ = _; rw [List.take_of_length_le (by rw [hdn.out]; exact Nat.le_refl _)]
   rw [hT.out] at hO
   have hz : ¬ ((i : Int) < (i : Int)) := by omega
   go_wp2_with fail
   go_ret
   exact ⟨_, rfl, hO.out, hW.out⟩

def inclCells (size i : Int) (A : Option Addr) (n c : Nat) : Array Value := #[.int .i64 size, .int .i64 i, .slice A n c]
def inclWant (size i : Int) (ds : List Text) : Option Text := if insideB size i = true ∧ (sides size.toNat i.toNat).length = ds.length then some (inclBytes size.toNat i.toNat ds) else none
end Go.Proofs.YtmdkfhfkdcbpgaaDoorR.Ref17

namespace Go.Proofs.YtmdkfhfkdcbpgaaDoorR.Ref17b
open Go Go.RowKit Go.Proofs.YtmdkfhfkdcbpgaaDoorR Mem Sha Bytes Go.Proofs.YtmdkfhfkdcbpgaaDoorR.Append Octet Octet2 QuietTail Grown TreeMath Sides ProofBeside ProofEnc Beside17 Held Own TreeMem Ref17

end Go.Proofs.YtmdkfhfkdcbpgaaDoorR.Ref17b

namespace Go.Proofs.YtmdkfhfkdcbpgaaDoorR.InclAll
open Go Go.RowKit Go.Proofs.YtmdkfhfkdcbpgaaDoorR Mem Sha Bytes TreeMath Sides TreeMem TreeRoot Held Own ProofBeside ProofEnc Beside17 Ref17 Ref17b

theorem encIncl_any (x1 x2 : Int) (l : List Text) (A : Option Addr) (n c : Nat) (w : World) (hr : RdD w A n l) :
  Calls Tryd.prog 195 #[.agg (inclCells x1 x2 A n c)] w fun e w' => ∃ A4 c4 b err, e = .returned (.tuple #[.slice A4 b.length c4, .int .i64 err]) ∧ Reads w' 1 A4 b.length (cells8 b) ∧ ((inclWant x1 x2 l = some b ∧ err = 0) ∨ (inclWant x1 x2 l = none ∧ b = [] ∧ err = 170)) ∧ Below w.heap.size w w' := by
 have hno : ∀ w', Below w.heap.size w w' → inclWant x1 x2 l = none → ∃ (A4 : Option Addr) (c4 : Nat) (b : Text) (err : Int), Ending.returned (.tuple #[.slice none 0 0, .int .i64 170]) = Ending.returned (.tuple #[.slice A4 b.length c4, .int .i64 err]) ∧ Reads w' 1 A4 b.length (cells8 b) ∧ ((inclWant x1 x2 l = some b ∧ err = 0) ∨ (inclWant x1 x2 l = none ∧ b = [] ∧ err = 170)) ∧ Below w.heap.size w w' := fun w' hb h => ⟨none, 0, [], 170, rfl, Reads.nil_ _ _ _, .inr ⟨h, rfl, rfl⟩, hb⟩
 cases hin : insideB x1 x2 with
 | false =>
  refine (encodeInclusion_out x1 x2 A n c w hin).mono ?_
  rintro e w' ⟨rfl, hb⟩
  refine hno w' hb ?_
  unfold inclWant
  rw [if_neg (fun h => by rw [hin] at h; exact absurd h.1 (by decide))]
 | true =>
  have hin2 := hin
  simp only [insideB, Bool.and_eq_true, decide_eq_true_eq] at hin2
  obtain ⟨sz, rfl⟩ := Int.eq_ofNat_of_zero_le (show 0 ≤ x1 by omega)
  obtain ⟨j, rfl⟩ := Int.eq_ofNat_of_zero_le hin2.1.2
  by_cases hs : besideOf sz j = n
  ·refine (encodeInclusion_yes sz j (by omega) (by omega) l n hr.1 hr.2.1 A c w hr.2.2 (fun a h0 e => ?_) hs).mono ?_
   ·obtain ⟨b, o, e', hlt, -⟩ := hr.2.2.2 (by omega)
    rw [e] at e'
    obtain rfl := Option.some.inj e'
    exact hlt
   rintro e w' ⟨v, rfl, hb, ho⟩
   obtain ⟨A4, c4, rfl, hc4, hn4, hr4, -⟩ := own_reads ho
   have hbl : (inclBytes sz j l).length = 17 + 32 * n := by rw [inclBytes_len _ _ _ hr.2.1, hr.1]
   refine ⟨A4, c4, inclBytes sz j l, 0, by rw [hbl], by rw [hbl]; exact hr4, .inl ⟨?_, rfl⟩, hb⟩
   unfold inclWant
   rw [Int.toNat_natCast, Int.toNat_natCast, if_pos ⟨hin, by rw [← beside_sides (by omega), hs, hr.1]⟩]
  ·refine (encodeInclusion_no sz j (by omega) (by omega) A n c w hs).mono ?_
   rintro e w' ⟨rfl, hb⟩
   refine hno w' hb ?_
   unfold inclWant
   rw [Int.toNat_natCast, Int.toNat_natCast, if_neg (fun h => hs (by rw [beside_sides (by omega), h.2, hr.1]))]

end Go.Proofs.YtmdkfhfkdcbpgaaDoorR.InclAll
