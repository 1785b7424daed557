/-
  proof.take, proof.begun, proof.DecodeInclusion, walked (printed by wip/gen_decincl.py).
-/
import Derived.Test.YtngieimjlkpkaaaReader4
import Derived.Test.YtngieimjlkpkaaaRef17b
namespace Go.Proofs.Ytngieimjlkpkaaa.DecIncl
open Go Go.RowKit Go.Proofs.Ytngieimjlkpkaaa Go.Proofs.Ytngieimjlkpkaaa.Mem Go.Proofs.Ytngieimjlkpkaaa.Sha Go.Proofs.Ytngieimjlkpkaaa.Bytes Go.Proofs.Ytngieimjlkpkaaa.TreeMath Go.Proofs.Ytngieimjlkpkaaa.Sides Go.Proofs.Ytngieimjlkpkaaa.TreeMem Go.Proofs.Ytngieimjlkpkaaa.TreeRoot Go.Proofs.Ytngieimjlkpkaaa.Held Go.Proofs.Ytngieimjlkpkaaa.Reader Go.Proofs.Ytngieimjlkpkaaa.Reader2 Go.Proofs.Ytngieimjlkpkaaa.Reader3 Go.Proofs.Ytngieimjlkpkaaa.Reader4 Go.Proofs.Ytngieimjlkpkaaa.ProofBeside Go.Proofs.Ytngieimjlkpkaaa.Beside17 Go.Proofs.Ytngieimjlkpkaaa.Ref17 Go.Proofs.Ytngieimjlkpkaaa.Ref17b

/-- What bytes are read as, if they are an inclusion proof. -/
def decIncl (q : Text) : Option (Nat × Nat × List Text) :=
  if 17 ≤ q.length ∧ q.getD 0 0 = 48 ∧ insideB (num ((q.drop 1).take 8)) (num ((q.drop 9).take 8)) = true ∧ q.length = 17 + 32 * (sides (num ((q.drop 1).take 8)) (num ((q.drop 9).take 8))).length
  then some (num ((q.drop 1).take 8), num ((q.drop 9).take 8), chunks (q.drop 17) (sides (num ((q.drop 1).take 8)) (num ((q.drop 9).take 8))).length) else none
/-- The answer: size, number, way, refusal. -/
def decAns (q : Text) : Int × Int × List Text × Int :=
  if 9000 < q.length then (0, 0, [], 170) else match decIncl q with
    | none => (0, 0, [], 8)
    | some (s, i, l) => ((s : Int), (i : Int), l, 0)
theorem decAns_long {q : Text} (h : 9000 < q.length) : decAns q = (0, 0, [], 170) := by unfold decAns; rw [if_pos h]
theorem decAns_fail {q : Text} (h : ¬ 9000 < q.length) (h2 : ¬ (17 ≤ q.length ∧ q.getD 0 0 = 48 ∧ insideB (num ((q.drop 1).take 8)) (num ((q.drop 9).take 8)) = true ∧ q.length = 17 + 32 * (sides (num ((q.drop 1).take 8)) (num ((q.drop 9).take 8))).length)) : decAns q = (0, 0, [], 8) := by
  unfold decAns decIncl
  rw [if_neg h, if_neg h2]
theorem decAns_ok {q : Text} (h : ¬ 9000 < q.length) (h2 : 17 ≤ q.length ∧ q.getD 0 0 = 48 ∧ insideB (num ((q.drop 1).take 8)) (num ((q.drop 9).take 8)) = true ∧ q.length = 17 + 32 * (sides (num ((q.drop 1).take 8)) (num ((q.drop 9).take 8))).length) : decAns q = ((num ((q.drop 1).take 8) : Int), (num ((q.drop 9).take 8) : Int), chunks (q.drop 17) (sides (num ((q.drop 1).take 8)) (num ((q.drop 9).take 8))).length, 0) := by
  unfold decAns decIncl
  rw [if_neg h, if_pos h2]

/-- A taken number, as an int: what is above the log's bound may be anything. -/
def lgInt (N : Nat) : Int := wrap64 (N : Int)
theorem lgInt_le {N : Nat} (h : N ≤ 1099511627776) : lgInt N = (N : Int) := IntWalk.wrap64_in _ (by omega)
theorem ret2b {a a' : Int} {b b' : Bool} (h1 : a = a') (h2 : b = b') : Ending.returned (.tuple #[.int .i64 a, .bool b]) = .returned (.tuple #[.int .i64 a', .bool b']) := by rw [h1, h2]
set_option maxRecDepth 100000 in
set_option maxHeartbeats 1000000 in
theorem ptake_any (q : Text) (hq : q.length < 140737488355328) (g need : Nat) (A : Option Addr) (c : Nat) (w : World) (h : Rd w g q A c need) :
    Calls Try.prog 59 #[.pointer (some ⟨g, 0, none⟩)] w fun e w' => ∃ N : Nat, e = .returned (.tuple #[.int .i64 (lgInt N), .bool (decide (N ≤ 1099511627776))]) ∧ (need + 8 ≤ q.length → N = num ((q.drop need).take 8)) ∧ Rd w' g q A c (need + 8) ∧ Kept (· = g) w w' := by
  have hT := Lib.hid (take8_any q hq g need A c w h)
  clear h hq
  go_enter Try.func59, Try.ntmps59
  go_wp2_with fail
  refine hT.out.mono ?_
  rintro e w1 ⟨N, rfl, hN, hnum, hR, hk⟩
  replace hR := Lib.hid hR
  replace hk := Lib.hid hk
  replace hnum := Lib.hid hnum
  have e2 : decide ((N : Int) ≤ 1099511627776) = decide (N ≤ 1099511627776) := by
    by_cases h : N ≤ 1099511627776
    · rw [decide_eq_true h]; exact decide_eq_true (by omega)
    · rw [decide_eq_false h]; exact decide_eq_false (by omega)
  go_wp2_with fail
  go_ret2
  exact ⟨N, ret2b rfl (by first | rfl | exact e2 | trace_state), hnum.out, hR.out, hk.out⟩

theorem b8_48 {y : BitVec 8} : b8 y = 48 ↔ y = 48 := by
  constructor
  · intro h
    exact b8_inj (h.trans (show (48 : Int) = b8 48 by rfl))
  · rintro rfl
    rfl
set_option maxRecDepth 100000 in
set_option maxHeartbeats 1000000 in
theorem begun_long (k : Nat) (h : 9000 < k) (A : Option Addr) (c : Nat) (w : World) :
    Calls Try.prog 58 #[.slice A k c, .int .i64 9000, .int .u8 48] w fun e w' => e = .returned (.tuple #[.pointer none, .int .i64 170]) ∧ w = w' := by
  have y1 : (9000 : Int) < (k : Int) := by omega
  clear h
  go_enter Try.func58, Try.ntmps58
  go_wp2_with fail
  go_ret2
  exact ⟨rfl, rfl⟩
set_option maxRecDepth 100000 in
set_option maxHeartbeats 1000000 in
theorem begun_yes (q : Text) (k : Nat) (hk : q.length = k) (h9 : ¬ 9000 < k) (h1 : 1 ≤ k) (hy : q.getD 0 0 = 48) (A : Option Addr) (c : Nat) (w : World) (hr : Reads w 1 A k (cells8 q)) (hnil : A = none → k = 0 ∧ c = 0) :
    Calls Try.prog 58 #[.slice A k c, .int .i64 9000, .int .u8 48] w fun e w' => ∃ g A' c', e = .returned (.tuple #[.pointer (some ⟨g, 0, none⟩), .int .i64 0]) ∧ w.heap.size ≤ g ∧ Rd w' g q A' c' 1 ∧ Below w.heap.size w w' := by
  have y1 : decide ((9000 : Int) < (k : Int)) = false := decide_eq_false (by omega)
  have y2 : ¬ ((9000 : Int) < (k : Int)) := by omega
  have hR := Lib.hid (read_any q k hk (by omega) A c w hr hnil)
  have hT := Lib.hid (fun g A' c' w' (h : Rd w' g q A' c' 0) => take1_any q (by omega) g 0 A' c' w' h)
  have hq1 : Hid (0 + 1 ≤ q.length) := by show _ ≤ _; omega
  have hyy := Lib.hid hy
  have hw1 : Hid (whyOf (0 + 1) q.length = 0) := if_pos (by omega)
  clear hr hnil hk h9 h1 hy
  go_enter Try.func58, Try.ntmps58
  go_wp2_with fail
  refine hR.out.mono ?_
  rintro e w1 ⟨g, A', c', rfl, hg, hb, hRd⟩
  replace hg := Lib.hid hg
  replace hb := Lib.hid hb
  replace hRd := Lib.hid hRd
  go_wp2_with fail
  refine (hT.out g A' c' w1 hRd.out).mono ?_
  rintro e w2 ⟨y, rfl, hy2, hR2, hk2⟩
  obtain rfl : y = 48 := (hy2 hq1.out).trans hyy.out
  have hb2 : Hid (Below w.heap.size w w2) := hb.out.trans (Kept.below_of hk2 hg.out hb.out.size)
  have e48 : b8 (48 : BitVec 8) = 48 := rfl
  have hW := Lib.hid (why_any q g (0 + 1) A' c' w2 hR2)
  rw [hw1.out] at hW
  replace hR2 := Lib.hid hR2
  clear hy2 hk2
  rw [e48]
  go_wp2_with (go_at_call 60; refine hW.out.mono ?_; rintro e w3 ⟨rfl, rfl⟩)
  go_ret2
  exact ⟨g, A', c', rfl, hg.out, hR2.out, hb2.out⟩
set_option maxRecDepth 100000 in
set_option maxHeartbeats 1000000 in
theorem begun_no (q : Text) (k : Nat) (hk : q.length = k) (h9 : ¬ 9000 < k) (hn : ¬ (1 ≤ k ∧ q.getD 0 0 = 48)) (A : Option Addr) (c : Nat) (w : World) (hr : Reads w 1 A k (cells8 q)) (hnil : A = none → k = 0 ∧ c = 0) :
    Calls Try.prog 58 #[.slice A k c, .int .i64 9000, .int .u8 48] w fun e w' => e = .returned (.tuple #[.pointer none, .int .i64 8]) ∧ Below w.heap.size w w' := by
  have y1 : decide ((9000 : Int) < (k : Int)) = false := decide_eq_false (by omega)
  have y2 : ¬ ((9000 : Int) < (k : Int)) := by omega
  have hR := Lib.hid (read_any q k hk (by omega) A c w hr hnil)
  have hT := Lib.hid (fun g A' c' w' (h : Rd w' g q A' c' 0) => take1_any q (by omega) g 0 A' c' w' h)
  have hnn := Lib.hid hn
  have hkk := Lib.hid hk
  clear hr hnil hk h9 hn
  go_enter Try.func58, Try.ntmps58
  go_wp2_with fail
  refine hR.out.mono ?_
  rintro e w1 ⟨g, A', c', rfl, hg, hb, hRd⟩
  replace hg := Lib.hid hg
  replace hb := Lib.hid hb
  replace hRd := Lib.hid hRd
  go_wp2_with fail
  refine (hT.out g A' c' w1 hRd.out).mono ?_
  rintro e w2 ⟨y, rfl, hy2, hR2, hk2⟩
  have hb2 : Hid (Below w.heap.size w w2) := hb.out.trans (Kept.below_of hk2 hg.out hb.out.size)
  by_cases hy : y = 48
  · subst hy
    have hw1 : whyOf (0 + 1) q.length = 8 := if_neg (fun h => hnn.out ⟨by rw [← hkk.out]; omega, (hy2 h).symm⟩)
    have e48 : b8 (48 : BitVec 8) = 48 := rfl
    have hW := Lib.hid (why_any q g (0 + 1) A' c' w2 hR2)
    rw [hw1] at hW
    clear hy2 hk2 hR2 hw1
    rw [e48]
    go_wp2_with (go_at_call 60; refine hW.out.mono ?_; rintro e w3 ⟨rfl, rfl⟩)
    go_ret2
    exact ⟨rfl, hb2.out⟩
  · have z3 : ¬ b8 y = 48 := fun e => hy (b8_48.1 e)
    have z1 : (b8 y == 48) = false := beq_eq_false_iff_ne.2 z3
    have z2 : (b8 y != 48) = true := by rw [bne, z1]; rfl
    clear hy2 hk2 hR2 hy
    go_wp2_with fail
    go_ret2
    exact ⟨rfl, hb2.out⟩
/-- What beside answers, at any numbers. -/
def bsNum (size i : Int) : Int := if insideB size i = true then ((sides size.toNat i.toNat).length : Int) else 0
theorem beside_all (size i : Int) (w : World) : Calls Try.prog 22 #[.int .i64 size, .int .i64 i] w fun e w' => e = .returned (.tuple #[.int .i64 (bsNum size i), .bool (insideB size i)]) ∧ w = w' := by
  unfold bsNum
  cases h : insideB size i with
  | true =>
    have h2 := h
    simp only [insideB, Bool.and_eq_true, decide_eq_true_eq] at h2
    obtain ⟨sz, rfl⟩ := Int.eq_ofNat_of_zero_le (show 0 ≤ size by omega)
    obtain ⟨j, rfl⟩ := Int.eq_ofNat_of_zero_le h2.1.2
    rw [if_pos rfl, Int.toNat_natCast, Int.toNat_natCast, ← beside_sides (show j < sz by omega)]
    exact beside_yes sz j (by omega) (by omega) w
  | false =>
    rw [if_neg (by decide)]
    exact beside_no size i h w
end Go.Proofs.Ytngieimjlkpkaaa.DecIncl
