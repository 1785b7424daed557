/-
  Texts of the claim, put into one file: DecCons, ReadCons, ProofConsistencies.
-/
import Derived.Test.YtaelcgimgomnnaaZ17
import Derived.Test.YtaelcgimgomnnaaZ22

namespace Go.Proofs.Ytaelcgimgomnnaa.DecCons
open Go Go.RowKit Go.Proofs.Ytaelcgimgomnnaa Go.Proofs.Ytaelcgimgomnnaa.Mem Go.Proofs.Ytaelcgimgomnnaa.Sha Go.Proofs.Ytaelcgimgomnnaa.Bytes Go.Proofs.Ytaelcgimgomnnaa.TreeMath Go.Proofs.Ytaelcgimgomnnaa.Sides Go.Proofs.Ytaelcgimgomnnaa.TreeMem Go.Proofs.Ytaelcgimgomnnaa.TreeRoot Go.Proofs.Ytaelcgimgomnnaa.Held Go.Proofs.Ytaelcgimgomnnaa.Reader Go.Proofs.Ytaelcgimgomnnaa.Reader2 Go.Proofs.Ytaelcgimgomnnaa.Reader3 Go.Proofs.Ytaelcgimgomnnaa.Reader4 Go.Proofs.Ytaelcgimgomnnaa.Ref17 Go.Proofs.Ytaelcgimgomnnaa.Ref17b Go.Proofs.Ytaelcgimgomnnaa.DecIncl Go.Proofs.Ytaelcgimgomnnaa.DecIncl2 Go.Proofs.Ytaelcgimgomnnaa.Subs Go.Proofs.Ytaelcgimgomnnaa.Betw Go.Proofs.Ytaelcgimgomnnaa.BetwRef Go.Proofs.Ytaelcgimgomnnaa.EncCons Go.Proofs.Ytaelcgimgomnnaa.RefCons

/-- What bytes are read as, if they are an inclusion proof. -/
def decCons (q : Text) : Option (Nat × Nat × List Text) :=
  if 17 ≤ q.length ∧ q.getD 0 0 = 49 ∧ joinsB (num ((q.drop 1).take 8)) (num ((q.drop 9).take 8)) = true ∧ q.length = 17 + 32 * (betw (num ((q.drop 1).take 8)) (num ((q.drop 9).take 8)))
  then some (num ((q.drop 1).take 8), num ((q.drop 9).take 8), chunks (q.drop 17) (betw (num ((q.drop 1).take 8)) (num ((q.drop 9).take 8)))) else none
/-- The answer: size, number, way, refusal. -/
def decAnsC (q : Text) : Int × Int × List Text × Int :=
  if 9000 < q.length then (0, 0, [], 170) else match decCons q with
    | none => (0, 0, [], 8)
    | some (s, i, l) => ((s : Int), (i : Int), l, 0)
theorem decAnsC_long {q : Text} (h : 9000 < q.length) : decAnsC q = (0, 0, [], 170) := by unfold decAnsC; rw [if_pos h]
theorem decAnsC_fail {q : Text} (h : ¬ 9000 < q.length) (h2 : ¬ (17 ≤ q.length ∧ q.getD 0 0 = 49 ∧ joinsB (num ((q.drop 1).take 8)) (num ((q.drop 9).take 8)) = true ∧ q.length = 17 + 32 * (betw (num ((q.drop 1).take 8)) (num ((q.drop 9).take 8))))) : decAnsC q = (0, 0, [], 8) := by
  unfold decAnsC decCons
  rw [if_neg h, if_neg h2]
theorem decAnsC_ok {q : Text} (h : ¬ 9000 < q.length) (h2 : 17 ≤ q.length ∧ q.getD 0 0 = 49 ∧ joinsB (num ((q.drop 1).take 8)) (num ((q.drop 9).take 8)) = true ∧ q.length = 17 + 32 * (betw (num ((q.drop 1).take 8)) (num ((q.drop 9).take 8)))) : decAnsC q = ((num ((q.drop 1).take 8) : Int), (num ((q.drop 9).take 8) : Int), chunks (q.drop 17) (betw (num ((q.drop 1).take 8)) (num ((q.drop 9).take 8))), 0) := by
  unfold decAnsC decCons
  rw [if_neg h, if_pos h2]

theorem b8_49 {y : BitVec 8} : b8 y = 49 ↔ y = 49 := by
  constructor
  · intro h
    exact b8_inj (h.trans (show (49 : Int) = b8 49 by rfl))
  · rintro rfl
    rfl
set_option maxRecDepth 100000 in
set_option maxHeartbeats 1000000 in
theorem begunC_long (k : Nat) (h : 9000 < k) (A : Option Addr) (c : Nat) (w : World) :
    Calls Try.prog 60 #[.slice A k c, .int .i64 9000, .int .u8 49] w fun e w' => e = .returned (.tuple #[.pointer none, .int .i64 170]) ∧ w = w' := by
  have y1 : (9000 : Int) < (k : Int) := by omega
  clear h
  go_enter Try.func60, Try.ntmps60
  go_wp2_with fail
  go_ret2
  exact ⟨rfl, rfl⟩
set_option maxRecDepth 100000 in
set_option maxHeartbeats 1000000 in
theorem begunC_yes (q : Text) (k : Nat) (hk : q.length = k) (h9 : ¬ 9000 < k) (h1 : 1 ≤ k) (hy : q.getD 0 0 = 49) (A : Option Addr) (c : Nat) (w : World) (hr : Reads w 1 A k (cells8 q)) (hnil : A = none → k = 0 ∧ c = 0) :
    Calls Try.prog 60 #[.slice A k c, .int .i64 9000, .int .u8 49] w fun e w' => ∃ g A' c', e = .returned (.tuple #[.pointer (some ⟨g, 0, none⟩), .int .i64 0]) ∧ w.heap.size ≤ g ∧ Rd w' g q A' c' 1 ∧ Below w.heap.size w w' := by
  have y1 : decide ((9000 : Int) < (k : Int)) = false := decide_eq_false (by omega)
  have y2 : ¬ ((9000 : Int) < (k : Int)) := by omega
  have hR := Lib.hid (read_any q k hk (by omega) A c w hr hnil)
  have hT := Lib.hid (fun g A' c' w' (h : Rd w' g q A' c' 0) => take1_any q (by omega) g 0 A' c' w' h)
  have hq1 : Hid (0 + 1 ≤ q.length) := by show _ ≤ _; omega
  have hyy := Lib.hid hy
  have hw1 : Hid (whyOf (0 + 1) q.length = 0) := if_pos (by omega)
  clear hr hnil hk h9 h1 hy
  go_enter Try.func60, Try.ntmps60
  go_wp2_with fail
  refine hR.out.mono ?_
  rintro e w1 ⟨g, A', c', rfl, hg, hb, hRd⟩
  replace hg := Lib.hid hg
  replace hb := Lib.hid hb
  replace hRd := Lib.hid hRd
  go_wp2_with fail
  refine (hT.out g A' c' w1 hRd.out).mono ?_
  rintro e w2 ⟨y, rfl, hy2, hR2, hk2⟩
  obtain rfl : y = 49 := (hy2 hq1.out).trans hyy.out
  have hb2 : Hid (Below w.heap.size w w2) := hb.out.trans (Kept.below_of hk2 hg.out hb.out.size)
  have e49 : b8 (49 : BitVec 8) = 49 := rfl
  have hW := Lib.hid (why_any q g (0 + 1) A' c' w2 hR2)
  rw [hw1.out] at hW
  replace hR2 := Lib.hid hR2
  clear hy2 hk2
  rw [e49]
  go_wp2_with (go_at_call 62; refine hW.out.mono ?_; rintro e w3 ⟨rfl, rfl⟩)
  go_ret2
  exact ⟨g, A', c', rfl, hg.out, hR2.out, hb2.out⟩
set_option maxRecDepth 100000 in
set_option maxHeartbeats 1000000 in
theorem begunC_no (q : Text) (k : Nat) (hk : q.length = k) (h9 : ¬ 9000 < k) (hn : ¬ (1 ≤ k ∧ q.getD 0 0 = 49)) (A : Option Addr) (c : Nat) (w : World) (hr : Reads w 1 A k (cells8 q)) (hnil : A = none → k = 0 ∧ c = 0) :
    Calls Try.prog 60 #[.slice A k c, .int .i64 9000, .int .u8 49] w fun e w' => e = .returned (.tuple #[.pointer none, .int .i64 8]) ∧ Below w.heap.size w w' := by
  have y1 : decide ((9000 : Int) < (k : Int)) = false := decide_eq_false (by omega)
  have y2 : ¬ ((9000 : Int) < (k : Int)) := by omega
  have hR := Lib.hid (read_any q k hk (by omega) A c w hr hnil)
  have hT := Lib.hid (fun g A' c' w' (h : Rd w' g q A' c' 0) => take1_any q (by omega) g 0 A' c' w' h)
  have hnn := Lib.hid hn
  have hkk := Lib.hid hk
  clear hr hnil hk h9 hn
  go_enter Try.func60, Try.ntmps60
  go_wp2_with fail
  refine hR.out.mono ?_
  rintro e w1 ⟨g, A', c', rfl, hg, hb, hRd⟩
  replace hg := Lib.hid hg
  replace hb := Lib.hid hb
  replace hRd := Lib.hid hRd
  go_wp2_with fail
  refine (hT.out g A' c' w1 hRd.out).mono ?_
  rintro e w2 ⟨y, rfl, hy2, hR2, hk2⟩
  have hb2 : Hid (Below w.heap.size w w2) := hb.out.trans (Kept.below_of hk2 hg.out hb.out.size)
  by_cases hy : y = 49
  · subst hy
    have hw1 : whyOf (0 + 1) q.length = 8 := if_neg (fun h => hnn.out ⟨by rw [← hkk.out]; omega, (hy2 h).symm⟩)
    have e49 : b8 (49 : BitVec 8) = 49 := rfl
    have hW := Lib.hid (why_any q g (0 + 1) A' c' w2 hR2)
    rw [hw1] at hW
    clear hy2 hk2 hR2 hw1
    rw [e49]
    go_wp2_with (go_at_call 62; refine hW.out.mono ?_; rintro e w3 ⟨rfl, rfl⟩)
    go_ret2
    exact ⟨rfl, hb2.out⟩
  · have z3 : ¬ b8 y = 49 := fun e => hy (b8_49.1 e)
    have z1 : (b8 y == 49) = false := beq_eq_false_iff_ne.2 z3
    have z2 : (b8 y != 49) = true := by rw [bne, z1]; rfl
    clear hy2 hk2 hR2 hy
    go_wp2_with fail
    go_ret2
    exact ⟨rfl, hb2.out⟩
/-- What beside answers, at any numbers. -/
def btNum (size i : Int) : Int := if joinsB size i = true then ((betw size.toNat i.toNat) : Int) else 0
theorem between_all (size i : Int) (w : World) : Calls Try.prog 24 #[.int .i64 size, .int .i64 i] w fun e w' => e = .returned (.tuple #[.int .i64 (btNum size i), .bool (joinsB size i)]) ∧ w = w' := by
  unfold btNum
  cases h : joinsB size i with
  | true =>
    have h2 := h
    simp only [joinsB, Bool.and_eq_true, decide_eq_true_eq] at h2
    obtain ⟨sz, rfl⟩ := Int.eq_ofNat_of_zero_le (show 0 ≤ size by omega)
    obtain ⟨j, rfl⟩ := Int.eq_ofNat_of_zero_le (show 0 ≤ i by omega)
    rw [if_pos rfl, Int.toNat_natCast, Int.toNat_natCast]
    exact between_yes sz j (by omega) (by omega) w
  | false =>
    rw [if_neg (by decide)]
    exact between_no size i h w
theorem sizeC : (Try.prog.info? 24).map (·.size) = some 3 := by kernel_rfl
/-- What an answer of an inclusion is, in memory. -/
def APostC (w : World) (X : Int × Int × List Text × Int) (e : Ending) (w' : World) : Prop := ∃ A n c, e = .returned (.tuple #[.agg (inclCells X.1 X.2.1 A n c), .int .i64 X.2.2.2]) ∧ RdD w' A n X.2.2.1 ∧ (A = none → n = 0 ∧ c = 0) ∧ n ≤ c ∧ n ≤ 41 ∧ Below w.heap.size w w'

set_option maxRecDepth 100000 in
set_option maxHeartbeats 1000000 in
theorem decC_long (q : Text) (k : Nat) (hk : q.length = k) (h9 : 9000 < k) (A : Option Addr) (c : Nat) (w : World) :
    Calls Try.prog 35 #[.slice A k c] w (APostC w (decAnsC q)) := by
  rw [decAnsC_long (by omega)]
  have hT := Lib.hid (fun w' => begunC_long k h9 A c w')
  have hB1 : Hid (Blk (w.alloc (.cells #[Value.int .i64 0, Value.int .i64 0, Value.slice none 0 0] 24)) w.heap.size 24 #[Value.int .i64 0, Value.int .i64 0, Value.slice none 0 0]) := Blk.new w _ _
  have hb1 : Hid (Below w.heap.size w (w.alloc (.cells #[Value.int .i64 0, Value.int .i64 0, Value.slice none 0 0] 24))) := Below.heap_below w _
  clear hk h9
  go_enter Try.func35, Try.ntmps35
  go_wp2_with (first
    | (go_at_call 60; refine (hT.out _).mono ?_; rintro e w' ⟨rfl, rfl⟩)
    | ((with_reducible change wpList _ _ _ ({ dst := none, op := Op.store 24 _ _, type := _, pos := _, after := _, guard := _ } :: _) _ _); refine wpList_store_row (o := ⟨none, _, _, _, _, _⟩) rfl 24 (.tmp 2) (.tmp 20) rfl (w.heap.size) (#[Value.int .i64 0, Value.int .i64 0, Value.slice none 0 0]) rfl rfl 24 (#[Value.int .i64 0, Value.int .i64 0, Value.slice none 0 0]) hB1.out sizeC rfl (oneI _ _ _ _ _) ?_))
  refine bodyPost_ret (results_cell_row2 rfl _ _ w.heap.size 24 #[Value.int .i64 0, Value.int .i64 0, Value.slice none 0 0] (0, 0) _ rfl (setRow_heap _ _ _ _ _ _ hB1.out) Try.underlying24 rfl sizeC) rfl ?_
  exact ⟨none, 0, 0, rfl, RdD.nil_ _ _, fun _ => ⟨rfl, rfl⟩, Nat.le_refl _, by omega, below_setRow hb1.out (Nat.le_refl _) _⟩

set_option maxRecDepth 100000 in
set_option maxHeartbeats 1000000 in
theorem decC_no (q : Text) (k : Nat) (hk : q.length = k) (h9 : ¬ 9000 < k) (hn : ¬ (1 ≤ k ∧ q.getD 0 0 = 49)) (A : Option Addr) (c : Nat) (w : World) (hr : Reads w 1 A k (cells8 q)) (hnil : A = none → k = 0 ∧ c = 0) :
    Calls Try.prog 35 #[.slice A k c] w (APostC w (decAnsC q)) := by
  rw [decAnsC_fail (by omega) (fun h => hn ⟨by omega, h.2.1⟩)]
  have hB1 : Hid (Blk (w.alloc (.cells #[Value.int .i64 0, Value.int .i64 0, Value.slice none 0 0] 24)) w.heap.size 24 #[Value.int .i64 0, Value.int .i64 0, Value.slice none 0 0]) := Blk.new w _ _
  have hb1 : Hid (Below w.heap.size w (w.alloc (.cells #[Value.int .i64 0, Value.int .i64 0, Value.slice none 0 0] 24))) := Below.heap_below w _
  have hT := Lib.hid (begunC_no q k hk h9 hn A c (w.alloc (.cells #[Value.int .i64 0, Value.int .i64 0, Value.slice none 0 0] 24)) (hr.alloc _) hnil)
  clear hk h9 hn hr hnil
  go_enter Try.func35, Try.ntmps35
  go_wp2_with (first
    | (go_at_call 60; refine hT.out.mono ?_; rintro e w2 ⟨rfl, hb⟩; have hB2 : Hid (Blk w2 w.heap.size 24 #[Value.int .i64 0, Value.int .i64 0, Value.slice none 0 0]) := (hb.block _ hB1.out.lt).trans hB1.out; have hb2 : Hid (Below w.heap.size w w2) := hb1.out.trans (hb.mono hb1.out.size); clear hb)
    | ((with_reducible change wpList _ _ _ ({ dst := none, op := Op.store 24 _ _, type := _, pos := _, after := _, guard := _ } :: _) _ _); refine wpList_store_row (o := ⟨none, _, _, _, _, _⟩) rfl 24 (.tmp 2) (.tmp 20) rfl (w.heap.size) (#[Value.int .i64 0, Value.int .i64 0, Value.slice none 0 0]) rfl rfl 24 (#[Value.int .i64 0, Value.int .i64 0, Value.slice none 0 0]) hB2.out sizeC rfl (oneI _ _ _ _ _) ?_))
  refine bodyPost_ret (results_cell_row2 rfl _ _ w.heap.size 24 #[Value.int .i64 0, Value.int .i64 0, Value.slice none 0 0] (0, 0) _ rfl (setRow_heap _ _ _ _ _ _ hB2.out) Try.underlying24 rfl sizeC) rfl ?_
  exact ⟨none, 0, 0, rfl, RdD.nil_ _ _, fun _ => ⟨rfl, rfl⟩, Nat.le_refl _, by omega, below_setRow hb2.out (Nat.le_refl _) _⟩

set_option maxRecDepth 100000 in
set_option maxHeartbeats 2000000 in
theorem decC_main (q : Text) (k : Nat) (hk : q.length = k) (h9 : ¬ 9000 < k) (h1 : 1 ≤ k) (hy : q.getD 0 0 = 49) (A : Option Addr) (c : Nat) (w : World) (hr : Reads w 1 A k (cells8 q)) (hnil : A = none → k = 0 ∧ c = 0) :
    Calls Try.prog 35 #[.slice A k c] w (APostC w (decAnsC q)) := by
  obtain ⟨X, hX⟩ : ∃ X, Hid (decAnsC q = X) := ⟨_, Lib.hid rfl⟩
  rw [hX.out]
  have hB1 : Hid (Blk (w.alloc (.cells #[Value.int .i64 0, Value.int .i64 0, Value.slice none 0 0] 24)) w.heap.size 24 #[Value.int .i64 0, Value.int .i64 0, Value.slice none 0 0]) := Blk.new w _ _
  have hb1 : Hid (Below w.heap.size w (w.alloc (.cells #[Value.int .i64 0, Value.int .i64 0, Value.slice none 0 0] 24))) := Below.heap_below w _
  have hz1 : Hid ((w.alloc (.cells #[Value.int .i64 0, Value.int .i64 0, Value.slice none 0 0] 24)).heap.size = w.heap.size + 1) := by show _ = _; simp
  have hT := Lib.hid (begunC_yes q k hk h9 h1 hy A c (w.alloc (.cells #[Value.int .i64 0, Value.int .i64 0, Value.slice none 0 0] 24)) (hr.alloc _) hnil)
  have hq47 : Hid (q.length < 140737488355328) := by show _ < _; omega
  have hqk : Hid (¬ 9000 < q.length) := by show ¬ _; omega
  have hyy := Lib.hid hy
  clear hk h9 h1 hy hr hnil
  go_enter Try.func35, Try.ntmps35
  go_wp2_with fail
  refine hT.out.mono ?_
  rintro e w2 ⟨g, A', c', rfl, hg, hR2, hb⟩
  have hB2 : Hid (Blk w2 w.heap.size 24 #[Value.int .i64 0, Value.int .i64 0, Value.slice none 0 0]) := (hb.block _ hB1.out.lt).trans hB1.out
  have hb2 : Hid (Below w.heap.size w w2) := hb1.out.trans (hb.mono hb1.out.size)
  have hgw : Hid (w.heap.size < g) := by have := hz1.out; show _ < _; omega
  replace hR2 := Lib.hid hR2
  clear hb hg hT hB1 hb1 hz1
  go_wp2_with fail
  refine (ptake_any q hq47.out g 1 A' c' w2 hR2.out).mono ?_
  rintro e w3 ⟨N1, rfl, hN1, hR3, hk3⟩
  replace hN1 := Lib.hid hN1
  have hB3 : Hid (Blk w3 w.heap.size 24 #[Value.int .i64 0, Value.int .i64 0, Value.slice none 0 0]) := hB2.out.kept hk3 (by have := hgw.out; omega)
  have hb3 : Hid (Below w.heap.size w w3) := hb2.out.trans (Kept.below_of hk3 (Nat.le_of_lt hgw.out) hb2.out.size)
  replace hR3 := Lib.hid hR3
  clear hk3
  obtain ⟨f1, hf1⟩ : ∃ f, Hid (decide (N1 ≤ 1099511627776) = f) := ⟨_, Lib.hid rfl⟩
  rw [hf1.out]
  obtain ⟨x1, hx1⟩ : ∃ x, Hid (lgInt N1 = x) := ⟨_, Lib.hid rfl⟩
  rw [hx1.out]
  go_wp2_with fail
  refine (ptake_any q hq47.out g (1 + 8) A' c' w3 hR3.out).mono ?_
  rintro e w4 ⟨N2, rfl, hN2, hR4, hk4⟩
  replace hN2 := Lib.hid hN2
  have hB4 : Hid (Blk w4 w.heap.size 24 #[Value.int .i64 0, Value.int .i64 0, Value.slice none 0 0]) := hB3.out.kept hk4 (by have := hgw.out; omega)
  have hb4 : Hid (Below w.heap.size w w4) := hb3.out.trans (Kept.below_of hk4 (Nat.le_of_lt hgw.out) hb3.out.size)
  replace hR4 : Hid (Rd w4 g q A' c' 17) := hR4
  clear hk4
  obtain ⟨f2, hf2⟩ : ∃ f, Hid (decide (N2 ≤ 1099511627776) = f) := ⟨_, Lib.hid rfl⟩
  rw [hf2.out]
  obtain ⟨x2, hx2⟩ : ∃ x, Hid (lgInt N2 = x) := ⟨_, Lib.hid rfl⟩
  rw [hx2.out]
  have hBs := Lib.hid (between_all x1 x2 w4)
  have hWy := Lib.hid (why_any q g 17 A' c' w4 hR4.out)
  obtain ⟨f3, hf3⟩ : ∃ f, Hid (joinsB x1 x2 = f) := ⟨_, Lib.hid rfl⟩
  rw [hf3.out] at hBs
  have hfail : Hid (¬ (f1 = true ∧ f2 = true ∧ f3 = true ∧ 17 ≤ q.length) → X = (0, 0, [], 8)) := fun hn => by
    rw [← hX.out]
    refine decAnsC_fail hqk.out (fun h => hn ?_)
    obtain ⟨h17, -, hin, -⟩ := h
    have e1 := hN1.out (by omega)
    have e2 := hN2.out (by omega)
    have hin' := hin
    rw [← e1, ← e2] at hin hin'
    simp only [joinsB, Bool.and_eq_true, decide_eq_true_eq] at hin
    refine ⟨by rw [← hf1.out]; exact decide_eq_true (by omega), by rw [← hf2.out]; exact decide_eq_true (by omega), ?_, h17⟩
    rw [← hf3.out, ← hx1.out, ← hx2.out, lgInt_le (by omega), lgInt_le (by omega)]
    exact hin'
  by_cases hall : f1 = true ∧ f2 = true ∧ f3 = true ∧ 17 ≤ q.length
  · obtain ⟨rfl, rfl, rfl, h17⟩ := hall
    clear hfail
    have e1 := hN1.out (by omega)
    have e2 := hN2.out (by omega)
    have l1 := of_decide_eq_true hf1.out
    have l2 := of_decide_eq_true hf2.out
    have hx1' := hx1.out
    have hx2' := hx2.out
    rw [lgInt_le l1] at hx1'
    rw [lgInt_le l2] at hx2'
    subst hx1' hx2'
    have hin := hf3.out
    have hin2 := hin
    simp only [joinsB, Bool.and_eq_true, decide_eq_true_eq] at hin2
    have hn40 : Hid ((betw N1 N2) ≤ 41) := betw_le (by omega) (by omega)
    unfold btNum at hBs
    rw [if_pos hin, Int.toNat_natCast, Int.toNat_natCast] at hBs
    obtain ⟨n, hn⟩ : ∃ n, Hid ((betw N1 N2) = n) := ⟨_, Lib.hid rfl⟩
    rw [hn.out] at hBs hn40
    have hn40' : (n : Int) ≤ 41 := by have := hn40.out; omega
    rw [show whyOf 17 q.length = 0 from if_pos h17] at hWy
    replace h17 := Lib.hid h17
    replace e1 := Lib.hid e1
    replace e2 := Lib.hid e2
    replace hin := Lib.hid hin
    clear l1 l2 hin2 hf1 hf2 hf3 hN1 hN2
    by_cases hfit : 17 + 32 * n ≤ q.length
    · have hDg := Lib.hid (digestsR_yes q hq47.out g 17 n (by have := hn40.out; omega) A' c' w4 hR4.out hfit)
      by_cases hend : q.length = 17 + 32 * n
      · have hDone : Hid (∀ w' , Rd w' g q A' c' (17 + 32 * n) → Calls Try.prog 64 #[.pointer (some ⟨g, 0, none⟩)] w' fun e w'' => e = .returned (.int .i64 0) ∧ ∃ m, w'' = w'.drewN m) := fun w' h => by
          have := done_any q hq47.out g (17 + 32 * n) A' c' w' h
          rwa [show doneOf (17 + 32 * n) q.length = 0 from if_pos hend.symm] at this
        have hXX : Hid (X = ((N1 : Int), (N2 : Int), chunks (q.drop 17) n, 0)) := by
          show X = _
          rw [← hX.out, decAnsC_ok hqk.out ⟨h17.out, hyy.out, by rw [← e1.out, ← e2.out]; exact hin.out, by rw [← e1.out, ← e2.out, hn.out]; exact hend⟩, ← e1.out, ← e2.out, hn.out]
        clear hend hfit
        go_wp2_with (first
          | (go_at_call 24; refine hBs.out.mono ?_; rintro e w' ⟨rfl, rfl⟩)
          | (go_at_call 62; refine hWy.out.mono ?_; rintro e w' ⟨rfl, rfl⟩)
          | (go_at_call 63; refine hDg.out.mono ?_; rintro e w5 ⟨gl, rfl, hL5, hgl, hR5, hk5⟩; have hB5 : Hid (Blk w5 w.heap.size 24 #[Value.int .i64 0, Value.int .i64 0, Value.slice none 0 0]) := hB4.out.kept hk5 (by have := hgw.out; omega); have hb5 : Hid (Below w.heap.size w w5) := hb4.out.trans (Kept.below_of hk5 (Nat.le_of_lt hgw.out) hb4.out.size); replace hR5 := Lib.hid hR5; replace hL5 := Lib.hid hL5; clear hk5; have hglw : Hid (w.heap.size < gl) := (by have := hB4.out.lt; show _ < _; omega); clear hgl)
          | ((with_reducible change wpList _ _ _ ({ dst := none, op := Op.store 24 (.tmp 12) _, type := _, pos := _, after := _, guard := _ } :: _) _ _); refine wpList_store_whole (o := ⟨none, _, _, _, _, _⟩) rfl 24 (.tmp 12) (.tmp 59) rfl (w5.heap.size) (#[Value.int .i64 (N1 : Int), Value.int .i64 (N2 : Int), Value.slice (some ⟨gl, 0, none⟩) n n]) rfl rfl 24 (#[Value.int .i64 0, Value.int .i64 0, Value.slice none 0 0]) (Blk.new w5 _ _) sizeC rfl (oneI _ _ _ _ _) ?_; intro w6 hB6 hk6; have hb56 := Lib.hid (kept_fresh hk6); replace hB5 : Hid (Blk w6 w.heap.size 24 #[Value.int .i64 0, Value.int .i64 0, Value.slice none 0 0]) := (hb56.out.block _ hB5.out.lt).trans hB5.out; replace hb5 : Hid (Below w.heap.size w w6) := hb5.out.trans (hb56.out.mono hb5.out.size); replace hR5 := Lib.hid (hR5.out.below hb56.out); replace hL5 := Lib.hid (hL5.out.below hb56.out); replace hB6 := Lib.hid hB6; clear hk6 hb56; generalize w5.heap.size = g12 at *))
        refine (hDone.out _ hR5.out).mono ?_
        rintro e w7 ⟨rfl, m, rfl⟩
        have hB7 : Hid (Blk (w6.drewN m) w.heap.size 24 #[Value.int .i64 0, Value.int .i64 0, Value.slice none 0 0]) := hB5.out.drewN m
        have hB8 : Hid (Blk (w6.drewN m) g12 24 #[Value.int .i64 (N1 : Int), Value.int .i64 (N2 : Int), Value.slice (some ⟨gl, 0, none⟩) n n]) := hB6.out.drewN m
        have hb7 : Hid (Below w.heap.size w (w6.drewN m)) := below_drawn hb5.out m
        have hL7 : Hid (RdD (w6.drewN m) (some ⟨gl, 0, none⟩) n (chunks (q.drop 17) n)) := hL5.out.drewN m
        go_wp2_with (first
          | ((with_reducible change wpList _ _ _ ({ dst := some 64, op := _, type := _, pos := _, after := _, guard := _ } :: _) _ _); refine wpList_load_row (o := ⟨some 64, _, _, _, _, _⟩) rfl 24 (.tmp 12) rfl (g12) rfl 24 (#[Value.int .i64 (N1 : Int), Value.int .i64 (N2 : Int), Value.slice (some ⟨gl, 0, none⟩) n n]) (0, 0) _ hB8.out Try.underlying24 rfl sizeC ?_)
          | ((with_reducible change wpList _ _ _ ({ dst := none, op := Op.store 24 _ _, type := _, pos := _, after := _, guard := _ } :: _) _ _); refine wpList_store_row (o := ⟨none, _, _, _, _, _⟩) rfl 24 (.tmp 2) (.tmp 64) rfl (w.heap.size) (#[Value.int .i64 (N1 : Int), Value.int .i64 (N2 : Int), Value.slice (some ⟨gl, 0, none⟩) n n]) rfl rfl 24 (#[Value.int .i64 0, Value.int .i64 0, Value.slice none 0 0]) hB7.out sizeC rfl (oneI _ _ _ _ _) ?_))
        refine bodyPost_ret (results_cell_row2 rfl _ _ w.heap.size 24 #[Value.int .i64 (N1 : Int), Value.int .i64 (N2 : Int), Value.slice (some ⟨gl, 0, none⟩) n n] (0, 0) _ rfl (setRow_heap _ _ _ _ _ _ hB7.out) Try.underlying24 rfl sizeC) rfl ?_
        rw [hXX.out]
        have hL9 : RdD ((w6.drewN m).setRow w.heap.size #[Value.int .i64 (N1 : Int), Value.int .i64 (N2 : Int), Value.slice (some ⟨gl, 0, none⟩) n n]) (some ⟨gl, 0, none⟩) n (chunks (q.drop 17) n) := ⟨hL7.out.1, hL7.out.2.1, hL7.out.2.2.kept (Bytes.Kept.setRow (S := (· = w.heap.size)) (Kept.refl _ _) rfl _) (fun b o e h => by injection e with e; injection e with e3 e4; subst e3; have := hglw.out; omega)⟩
        exact ⟨some ⟨gl, 0, none⟩, n, n, rfl, hL9, (fun h => by cases h), Nat.le_refl _, hn40.out, below_setRow hb7.out (Nat.le_refl _) _⟩
      · have hDone : Hid (∀ w' , Rd w' g q A' c' (17 + 32 * n) → Calls Try.prog 64 #[.pointer (some ⟨g, 0, none⟩)] w' fun e w'' => e = .returned (.int .i64 8) ∧ ∃ m, w'' = w'.drewN m) := fun w' h => by
          have := done_any q hq47.out g (17 + 32 * n) A' c' w' h
          rwa [show doneOf (17 + 32 * n) q.length = 8 from if_neg (fun e => hend e.symm)] at this
        have hXX : Hid (X = (0, 0, [], 8)) := by
          show X = _
          rw [← hX.out]
          exact decAnsC_fail hqk.out (fun h => hend (by have := h.2.2.2; rw [← e1.out, ← e2.out, hn.out] at this; exact this))
        clear hend hfit
        go_wp2_with (first
          | (go_at_call 24; refine hBs.out.mono ?_; rintro e w' ⟨rfl, rfl⟩)
          | (go_at_call 62; refine hWy.out.mono ?_; rintro e w' ⟨rfl, rfl⟩)
          | (go_at_call 63; refine hDg.out.mono ?_; rintro e w5 ⟨gl, rfl, hL5, hgl, hR5, hk5⟩; have hB5 : Hid (Blk w5 w.heap.size 24 #[Value.int .i64 0, Value.int .i64 0, Value.slice none 0 0]) := hB4.out.kept hk5 (by have := hgw.out; omega); have hb5 : Hid (Below w.heap.size w w5) := hb4.out.trans (Kept.below_of hk5 (Nat.le_of_lt hgw.out) hb4.out.size); replace hR5 := Lib.hid hR5; replace hL5 := Lib.hid hL5; clear hk5 hgl)
          | ((with_reducible change wpList _ _ _ ({ dst := none, op := Op.store 24 (.tmp 12) _, type := _, pos := _, after := _, guard := _ } :: _) _ _); refine wpList_store_whole (o := ⟨none, _, _, _, _, _⟩) rfl 24 (.tmp 12) (.tmp 59) rfl (w5.heap.size) (#[Value.int .i64 (N1 : Int), Value.int .i64 (N2 : Int), Value.slice (some ⟨gl, 0, none⟩) n n]) rfl rfl 24 (#[Value.int .i64 0, Value.int .i64 0, Value.slice none 0 0]) (Blk.new w5 _ _) sizeC rfl (oneI _ _ _ _ _) ?_; intro w6 hB6 hk6; have hb56 := Lib.hid (kept_fresh hk6); replace hB5 : Hid (Blk w6 w.heap.size 24 #[Value.int .i64 0, Value.int .i64 0, Value.slice none 0 0]) := (hb56.out.block _ hB5.out.lt).trans hB5.out; replace hb5 : Hid (Below w.heap.size w w6) := hb5.out.trans (hb56.out.mono hb5.out.size); replace hR5 := Lib.hid (hR5.out.below hb56.out); replace hL5 := Lib.hid (hL5.out.below hb56.out); replace hB6 := Lib.hid hB6; clear hk6 hb56; generalize w5.heap.size = g12 at *))
        refine (hDone.out _ hR5.out).mono ?_
        rintro e w7 ⟨rfl, m, rfl⟩
        have hB7 : Hid (Blk (w6.drewN m) w.heap.size 24 #[Value.int .i64 0, Value.int .i64 0, Value.slice none 0 0]) := hB5.out.drewN m
        have hb7 : Hid (Below w.heap.size w (w6.drewN m)) := below_drawn hb5.out m
        go_wp2_with ((with_reducible change wpList _ _ _ ({ dst := none, op := Op.store 24 _ _, type := _, pos := _, after := _, guard := _ } :: _) _ _); refine wpList_store_row (o := ⟨none, _, _, _, _, _⟩) rfl 24 (.tmp 2) (.tmp 63) rfl (w.heap.size) (#[Value.int .i64 0, Value.int .i64 0, Value.slice none 0 0]) rfl rfl 24 (#[Value.int .i64 0, Value.int .i64 0, Value.slice none 0 0]) hB7.out sizeC rfl (oneI _ _ _ _ _) ?_)
        refine bodyPost_ret (results_cell_row2 rfl _ _ w.heap.size 24 #[Value.int .i64 0, Value.int .i64 0, Value.slice none 0 0] (0, 0) _ rfl (setRow_heap _ _ _ _ _ _ hB7.out) Try.underlying24 rfl sizeC) rfl ?_
        rw [hXX.out]
        exact ⟨none, 0, 0, rfl, RdD.nil_ _ _, fun _ => ⟨rfl, rfl⟩, Nat.le_refl _, by omega, below_setRow hb7.out (Nat.le_refl _) _⟩
    · have hDone : Hid (∀ w' , Rd w' g q A' c' (17 + 32 * n) → Calls Try.prog 64 #[.pointer (some ⟨g, 0, none⟩)] w' fun e w'' => e = .returned (.int .i64 8) ∧ ∃ m, w'' = w'.drewN m) := fun w' h => by
        have := done_any q hq47.out g (17 + 32 * n) A' c' w' h
        rwa [show doneOf (17 + 32 * n) q.length = 8 from if_neg (fun e => hfit (by omega))] at this
      have hXX : Hid (X = (0, 0, [], 8)) := by
        show X = _
        rw [← hX.out]
        exact decAnsC_fail hqk.out (fun h => hfit (by have := h.2.2.2; rw [← e1.out, ← e2.out, hn.out] at this; omega))
      have hDg : Hid (Calls Try.prog 63 #[.pointer (some ⟨g, 0, none⟩), .int .i64 (n : Int)] w4 fun e w' => e = .returned (.slice none 0 0) ∧ Rd w' g q A' c' (17 + 32 * n) ∧ Kept (· = g) w4 w') := digestsR_no q hq47.out g 17 n (by have := hn40.out; omega) A' c' w4 hR4.out h17.out (by omega)
      clear hfit
      go_wp2_with (first
        | (go_at_call 24; refine hBs.out.mono ?_; rintro e w' ⟨rfl, rfl⟩)
        | (go_at_call 62; refine hWy.out.mono ?_; rintro e w' ⟨rfl, rfl⟩)
        | (go_at_call 63; refine hDg.out.mono ?_; rintro e w5 ⟨rfl, hR5, hk5⟩; have hB5 : Hid (Blk w5 w.heap.size 24 #[Value.int .i64 0, Value.int .i64 0, Value.slice none 0 0]) := hB4.out.kept hk5 (by have := hgw.out; omega); have hb5 : Hid (Below w.heap.size w w5) := hb4.out.trans (Kept.below_of hk5 (Nat.le_of_lt hgw.out) hb4.out.size); replace hR5 := Lib.hid hR5; clear hk5)
        | ((with_reducible change wpList _ _ _ ({ dst := none, op := Op.store 24 (.tmp 12) _, type := _, pos := _, after := _, guard := _ } :: _) _ _); refine wpList_store_whole (o := ⟨none, _, _, _, _, _⟩) rfl 24 (.tmp 12) (.tmp 59) rfl (w5.heap.size) (#[Value.int .i64 (N1 : Int), Value.int .i64 (N2 : Int), Value.slice none 0 0]) rfl rfl 24 (#[Value.int .i64 0, Value.int .i64 0, Value.slice none 0 0]) (Blk.new w5 _ _) sizeC rfl (oneI _ _ _ _ _) ?_; intro w6 hB6 hk6; have hb56 := Lib.hid (kept_fresh hk6); replace hB5 : Hid (Blk w6 w.heap.size 24 #[Value.int .i64 0, Value.int .i64 0, Value.slice none 0 0]) := (hb56.out.block _ hB5.out.lt).trans hB5.out; replace hb5 : Hid (Below w.heap.size w w6) := hb5.out.trans (hb56.out.mono hb5.out.size); replace hR5 := Lib.hid (hR5.out.below hb56.out); replace hB6 := Lib.hid hB6; clear hk6 hb56; generalize w5.heap.size = g12 at *))
      refine (hDone.out _ hR5.out).mono ?_
      rintro e w7 ⟨rfl, m, rfl⟩
      have hB7 : Hid (Blk (w6.drewN m) w.heap.size 24 #[Value.int .i64 0, Value.int .i64 0, Value.slice none 0 0]) := hB5.out.drewN m
      have hb7 : Hid (Below w.heap.size w (w6.drewN m)) := below_drawn hb5.out m
      go_wp2_with ((with_reducible change wpList _ _ _ ({ dst := none, op := Op.store 24 _ _, type := _, pos := _, after := _, guard := _ } :: _) _ _); refine wpList_store_row (o := ⟨none, _, _, _, _, _⟩) rfl 24 (.tmp 2) (.tmp 63) rfl (w.heap.size) (#[Value.int .i64 0, Value.int .i64 0, Value.slice none 0 0]) rfl rfl 24 (#[Value.int .i64 0, Value.int .i64 0, Value.slice none 0 0]) hB7.out sizeC rfl (oneI _ _ _ _ _) ?_)
      refine bodyPost_ret (results_cell_row2 rfl _ _ w.heap.size 24 #[Value.int .i64 0, Value.int .i64 0, Value.slice none 0 0] (0, 0) _ rfl (setRow_heap _ _ _ _ _ _ hB7.out) Try.underlying24 rfl sizeC) rfl ?_
      rw [hXX.out]
      exact ⟨none, 0, 0, rfl, RdD.nil_ _ _, fun _ => ⟨rfl, rfl⟩, Nat.le_refl _, by omega, below_setRow hb7.out (Nat.le_refl _) _⟩
  · have hXX := Lib.hid (hfail.out hall)
    have hcs : f1 = false ∨ (f1 = true ∧ f2 = false) ∨ (f1 = true ∧ f2 = true ∧ f3 = false) ∨ (f1 = true ∧ f2 = true ∧ f3 = true ∧ q.length < 17) := by
      cases f1 <;> cases f2 <;> cases f3 <;> simp_all <;> omega
    generalize btNum x1 x2 = bn at *
    clear hall hfail hf1 hf2 hf3 hN1 hN2
    rcases hcs with rfl | ⟨rfl, rfl⟩ | ⟨rfl, rfl, rfl⟩ | ⟨rfl, rfl, rfl, hlt⟩
    · go_wp2_with (first
        | (go_at_call 24; refine hBs.out.mono ?_; rintro e w' ⟨rfl, rfl⟩)
        | (go_at_call 62; refine hWy.out.mono ?_; rintro e w' ⟨rfl, rfl⟩)
        | ((with_reducible change wpList _ _ _ ({ dst := none, op := Op.store 24 _ _, type := _, pos := _, after := _, guard := _ } :: _) _ _); refine wpList_store_row (o := ⟨none, _, _, _, _, _⟩) rfl 24 (.tmp 2) (.tmp 53) rfl (w.heap.size) (#[Value.int .i64 0, Value.int .i64 0, Value.slice none 0 0]) rfl rfl 24 (#[Value.int .i64 0, Value.int .i64 0, Value.slice none 0 0]) hB4.out sizeC rfl (oneI _ _ _ _ _) ?_))
      refine bodyPost_ret (results_cell_row2 rfl _ _ w.heap.size 24 #[Value.int .i64 0, Value.int .i64 0, Value.slice none 0 0] (0, 0) _ rfl (setRow_heap _ _ _ _ _ _ hB4.out) Try.underlying24 rfl sizeC) rfl ?_
      rw [hXX.out]
      exact ⟨none, 0, 0, rfl, RdD.nil_ _ _, fun _ => ⟨rfl, rfl⟩, Nat.le_refl _, by omega, below_setRow hb4.out (Nat.le_refl _) _⟩
    · go_wp2_with (first
        | (go_at_call 24; refine hBs.out.mono ?_; rintro e w' ⟨rfl, rfl⟩)
        | (go_at_call 62; refine hWy.out.mono ?_; rintro e w' ⟨rfl, rfl⟩)
        | ((with_reducible change wpList _ _ _ ({ dst := none, op := Op.store 24 _ _, type := _, pos := _, after := _, guard := _ } :: _) _ _); refine wpList_store_row (o := ⟨none, _, _, _, _, _⟩) rfl 24 (.tmp 2) (.tmp 53) rfl (w.heap.size) (#[Value.int .i64 0, Value.int .i64 0, Value.slice none 0 0]) rfl rfl 24 (#[Value.int .i64 0, Value.int .i64 0, Value.slice none 0 0]) hB4.out sizeC rfl (oneI _ _ _ _ _) ?_))
      refine bodyPost_ret (results_cell_row2 rfl _ _ w.heap.size 24 #[Value.int .i64 0, Value.int .i64 0, Value.slice none 0 0] (0, 0) _ rfl (setRow_heap _ _ _ _ _ _ hB4.out) Try.underlying24 rfl sizeC) rfl ?_
      rw [hXX.out]
      exact ⟨none, 0, 0, rfl, RdD.nil_ _ _, fun _ => ⟨rfl, rfl⟩, Nat.le_refl _, by omega, below_setRow hb4.out (Nat.le_refl _) _⟩
    · go_wp2_with (first
        | (go_at_call 24; refine hBs.out.mono ?_; rintro e w' ⟨rfl, rfl⟩)
        | (go_at_call 62; refine hWy.out.mono ?_; rintro e w' ⟨rfl, rfl⟩)
        | ((with_reducible change wpList _ _ _ ({ dst := none, op := Op.store 24 _ _, type := _, pos := _, after := _, guard := _ } :: _) _ _); refine wpList_store_row (o := ⟨none, _, _, _, _, _⟩) rfl 24 (.tmp 2) (.tmp 53) rfl (w.heap.size) (#[Value.int .i64 0, Value.int .i64 0, Value.slice none 0 0]) rfl rfl 24 (#[Value.int .i64 0, Value.int .i64 0, Value.slice none 0 0]) hB4.out sizeC rfl (oneI _ _ _ _ _) ?_))
      refine bodyPost_ret (results_cell_row2 rfl _ _ w.heap.size 24 #[Value.int .i64 0, Value.int .i64 0, Value.slice none 0 0] (0, 0) _ rfl (setRow_heap _ _ _ _ _ _ hB4.out) Try.underlying24 rfl sizeC) rfl ?_
      rw [hXX.out]
      exact ⟨none, 0, 0, rfl, RdD.nil_ _ _, fun _ => ⟨rfl, rfl⟩, Nat.le_refl _, by omega, below_setRow hb4.out (Nat.le_refl _) _⟩
    · rw [show whyOf 17 q.length = 8 from if_neg (by omega)] at hWy
      clear hlt
      go_wp2_with (first
        | (go_at_call 24; refine hBs.out.mono ?_; rintro e w' ⟨rfl, rfl⟩)
        | (go_at_call 62; refine hWy.out.mono ?_; rintro e w' ⟨rfl, rfl⟩)
        | ((with_reducible change wpList _ _ _ ({ dst := none, op := Op.store 24 _ _, type := _, pos := _, after := _, guard := _ } :: _) _ _); refine wpList_store_row (o := ⟨none, _, _, _, _, _⟩) rfl 24 (.tmp 2) (.tmp 53) rfl (w.heap.size) (#[Value.int .i64 0, Value.int .i64 0, Value.slice none 0 0]) rfl rfl 24 (#[Value.int .i64 0, Value.int .i64 0, Value.slice none 0 0]) hB4.out sizeC rfl (oneI _ _ _ _ _) ?_))
      refine bodyPost_ret (results_cell_row2 rfl _ _ w.heap.size 24 #[Value.int .i64 0, Value.int .i64 0, Value.slice none 0 0] (0, 0) _ rfl (setRow_heap _ _ _ _ _ _ hB4.out) Try.underlying24 rfl sizeC) rfl ?_
      rw [hXX.out]
      exact ⟨none, 0, 0, rfl, RdD.nil_ _ _, fun _ => ⟨rfl, rfl⟩, Nat.le_refl _, by omega, below_setRow hb4.out (Nat.le_refl _) _⟩
theorem decodeConsistency_any (q : Text) (k : Nat) (hk : q.length = k) (A : Option Addr) (c : Nat) (w : World) (hr : Reads w 1 A k (cells8 q)) (hnil : A = none → k = 0 ∧ c = 0) :
    Calls Try.prog 35 #[.slice A k c] w (APostC w (decAnsC q)) := by
  by_cases h9 : 9000 < k
  · exact decC_long q k hk h9 A c w
  · by_cases h1 : 1 ≤ k ∧ q.getD 0 0 = 49
    · exact decC_main q k hk h9 h1.1 h1.2 A c w hr hnil
    · exact decC_no q k hk h9 h1 A c w hr hnil
end Go.Proofs.Ytaelcgimgomnnaa.DecCons

namespace Go.Proofs.Ytaelcgimgomnnaa.ReadCons
open Go Go.RowKit Go.Proofs.Ytaelcgimgomnnaa Go.Proofs.Ytaelcgimgomnnaa.Mem Go.Proofs.Ytaelcgimgomnnaa.Sha Go.Proofs.Ytaelcgimgomnnaa.Bytes Go.Proofs.Ytaelcgimgomnnaa.Append Go.Proofs.Ytaelcgimgomnnaa.Octet Go.Proofs.Ytaelcgimgomnnaa.TreeMath Go.Proofs.Ytaelcgimgomnnaa.Sides Go.Proofs.Ytaelcgimgomnnaa.TreeMem Go.Proofs.Ytaelcgimgomnnaa.TreeRoot Go.Proofs.Ytaelcgimgomnnaa.Held Go.Proofs.Ytaelcgimgomnnaa.Own Go.Proofs.Ytaelcgimgomnnaa.Guard Go.Proofs.Ytaelcgimgomnnaa.Reader Go.Proofs.Ytaelcgimgomnnaa.Reader4 Go.Proofs.Ytaelcgimgomnnaa.ProofEnc Go.Proofs.Ytaelcgimgomnnaa.Ref17 Go.Proofs.Ytaelcgimgomnnaa.Ref17b Go.Proofs.Ytaelcgimgomnnaa.DecIncl Go.Proofs.Ytaelcgimgomnnaa.DecIncl2 Go.Proofs.Ytaelcgimgomnnaa.Bytes17 Go.Proofs.Ytaelcgimgomnnaa.Way17 Go.Proofs.Ytaelcgimgomnnaa.Same17 Go.Proofs.Ytaelcgimgomnnaa.ReadIncl Go.Proofs.Ytaelcgimgomnnaa.ReadIncl2 Go.Proofs.Ytaelcgimgomnnaa.Subs Go.Proofs.Ytaelcgimgomnnaa.Betw Go.Proofs.Ytaelcgimgomnnaa.BetwRef Go.Proofs.Ytaelcgimgomnnaa.EncCons Go.Proofs.Ytaelcgimgomnnaa.RefCons Go.Proofs.Ytaelcgimgomnnaa.DecCons Go.Proofs.Ytaelcgimgomnnaa.EncConsAny

/-- What was read ahead of the last test. -/
def GotC (q : Text) (x1 x2 : Int) (l : List Text) : Prop :=
  (17 ≤ q.length → x1 = lgInt (num ((q.drop 1).take 8)) ∧ x2 = lgInt (num ((q.drop 9).take 8)) ∧ l.length ≤ (btOf x1 x2).toNat ∧ (32 * (btOf x1 x2).toNat ≤ (q.drop 17).length → l = chunks (q.drop 17) (btOf x1 x2).toNat)) ∧ (q.length < 17 → l = []) ∧ Digs l
theorem lg_joins {a b : Nat} (ha : a < 18446744073709551616) (hb : b < 18446744073709551616) (h : joinsB (lgInt a) (lgInt b) = true) : lgInt a = (a : Int) ∧ lgInt b = (b : Int) := by
  simp only [joinsB, Bool.and_eq_true, decide_eq_true_eq] at h
  unfold lgInt wrap64 at *
  omega
theorem readC_ok {q : Text} {x1 x2 : Int} {l : List Text} (hq : ¬ 9000 < q.length) (hg : GotC q x1 x2 l) (h : consWant x1 x2 l = some q) : decAnsC q = (x1, x2, l, 0) := by
  obtain ⟨g1, g2, hd⟩ := hg
  have hlen := wantC_len hd h
  obtain ⟨rfl, rfl, -, hc⟩ := g1 (by omega)
  unfold consWant at h
  split at h
  · rename_i hin
    obtain ⟨hin, hsl⟩ := hin
    have hbs := btOf_in hin
    obtain ⟨e1, e2⟩ := lg_joins (num8 q 1) (num8 q 9) hin
    rw [e1, e2] at hin hsl hbs hc h ⊢
    rw [Int.toNat_natCast, Int.toNat_natCast] at hsl hbs h
    have hh := Option.some.inj h
    have h0 : q.getD 0 0 = 49 := by rw [← hh]; rfl
    rw [decAnsC_ok hq ⟨by omega, h0, hin, by rw [hsl]; exact hlen⟩]
    have hl := hc (by rw [hbs, Int.toNat_natCast, hsl, List.length_drop]; omega)
    rw [hbs, Int.toNat_natCast] at hl
    rw [← hl]
  · cases h
theorem readC_no {q : Text} {x1 x2 : Int} {l : List Text} (hq : ¬ 9000 < q.length) (hg : GotC q x1 x2 l) (h : consWant x1 x2 l ≠ some q) : decAnsC q = (0, 0, [], 8) := by
  obtain ⟨g1, g2, hd⟩ := hg
  refine decAnsC_fail hq (fun hh => h ?_)
  obtain ⟨h17, h0, hin, hlen⟩ := hh
  obtain ⟨rfl, rfl, -, hc⟩ := g1 h17
  have hin2 := hin
  simp only [joinsB, Bool.and_eq_true, decide_eq_true_eq] at hin2
  rw [lgInt_le (by omega), lgInt_le (by omega)] at hc ⊢
  have hbs := btOf_in hin
  rw [Int.toNat_natCast, Int.toNat_natCast] at hbs
  rw [hbs, Int.toNat_natCast] at hc
  have hl := hc (by rw [List.length_drop]; omega)
  unfold consWant
  rw [Int.toNat_natCast, Int.toNat_natCast, if_pos ⟨hin, by rw [hl, chunks_len]⟩]
  congr 1
  unfold consBytes
  rw [be8_num _ (by rw [List.length_take, List.length_drop]; omega), be8_num _ (by rw [List.length_take, List.length_drop]; omega), hl, chunks_flat _ _ (by rw [List.length_drop]; omega)]
  conv => rhs; rw [three h17, h0]

set_option maxRecDepth 100000 in
set_option maxHeartbeats 1000000 in
theorem readC_long (q : Text) (k : Nat) (hk : q.length = k) (h9 : 9000 < k) (A : Option Addr) (c : Nat) (w : World) :
    Calls Try.prog 36 #[.slice A k c] w (APostC w (decAnsC q)) := by
  rw [decAnsC_long (by omega)]
  have y1 : (9000 : Int) < (k : Int) := by omega
  have hB1 : Hid (Blk (w.alloc (.cells #[Value.int .i64 0, Value.int .i64 0, Value.slice none 0 0] 24)) w.heap.size 24 #[Value.int .i64 0, Value.int .i64 0, Value.slice none 0 0]) := Blk.new w _ _
  have hb1 : Hid (Below w.heap.size w (w.alloc (.cells #[Value.int .i64 0, Value.int .i64 0, Value.slice none 0 0] 24))) := Below.heap_below w _
  clear hk h9
  go_enter Try.func36, Try.ntmps36
  go_wp2_with ((with_reducible change wpList _ _ _ ({ dst := none, op := Op.store 24 _ _, type := _, pos := _, after := _, guard := _ } :: _) _ _); refine wpList_store_row (o := ⟨none, _, _, _, _, _⟩) rfl 24 (.tmp 2) (.tmp 9) rfl (w.heap.size) (#[Value.int .i64 0, Value.int .i64 0, Value.slice none 0 0]) rfl rfl 24 (#[Value.int .i64 0, Value.int .i64 0, Value.slice none 0 0]) hB1.out sizeC rfl (oneI _ _ _ _ _) ?_)
  refine bodyPost_ret (results_cell_row2 rfl _ _ w.heap.size 24 #[Value.int .i64 0, Value.int .i64 0, Value.slice none 0 0] (0, 0) _ rfl (setRow_heap _ _ _ _ _ _ hB1.out) Try.underlying24 rfl sizeC) rfl ?_
  exact ⟨none, 0, 0, rfl, RdD.nil_ _ _, fun _ => ⟨rfl, rfl⟩, Nat.le_refl _, by omega, below_setRow hb1.out (Nat.le_refl _) _⟩

set_option maxRecDepth 100000 in
set_option maxHeartbeats 4000000 in
theorem readC_main (q : Text) (k : Nat) (hk : q.length = k) (h9 : ¬ 9000 < k) (A : Option Addr) (c : Nat) (hkc : k ≤ c) (w : World) (hr : Reads w 1 A k (cells8 q)) (hnil : A = none → k = 0 ∧ c = 0) :
    Calls Try.prog 36 #[.slice A k c] w (APostC w (decAnsC q)) := by
  obtain ⟨X, hX⟩ : ∃ X, Hid (decAnsC q = X) := ⟨_, Lib.hid rfl⟩
  rw [hX.out]
  have y1 : decide ((9000 : Int) < (k : Int)) = false := decide_eq_false (by omega)
  have y2 : ¬ ((9000 : Int) < (k : Int)) := by omega
  have hz1 : (w.alloc (.cells #[Value.int .i64 0, Value.int .i64 0, Value.slice none 0 0] 24)).heap.size = w.heap.size + 1 := by simp
  have hRes2 : Hid (Blk ((w.alloc (.cells #[Value.int .i64 0, Value.int .i64 0, Value.slice none 0 0] 24)).alloc (.cells #[.slice A k c, .bool false] 118)) w.heap.size 24 #[Value.int .i64 0, Value.int .i64 0, Value.slice none 0 0]) := (Blk.new w _ _).alloc _
  have hb2 : Hid (Below w.heap.size w ((w.alloc (.cells #[Value.int .i64 0, Value.int .i64 0, Value.slice none 0 0] 24)).alloc (.cells #[.slice A k c, .bool false] 118))) := (Below.heap_below w _).alloc (by simp) _
  have hz2 : Hid (((w.alloc (.cells #[Value.int .i64 0, Value.int .i64 0, Value.slice none 0 0] 24)).alloc (.cells #[.slice A k c, .bool false] 118)).heap.size = w.heap.size + 2) := by show _ = _; simp
  have hQ2 : Hid (RB ((w.alloc (.cells #[Value.int .i64 0, Value.int .i64 0, Value.slice none 0 0] 24)).alloc (.cells #[.slice A k c, .bool false] 118)) (w.heap.size + 1) w.heap.size q false) := by
    refine ⟨Nat.le_succ _, A, c, ?_, by rw [hk]; exact (hr.alloc _).alloc _, by rw [hk]; exact hnil, fun h0 a e => ?_, by rw [hk]; exact hkc⟩
    · rw [hk, ← hz1]; exact Blk.new _ _ _
    · obtain ⟨b, o, e', hlt, -⟩ := hr.2 (by omega)
      rw [e] at e'
      obtain rfl := Option.some.inj e'
      exact hlt
  have hq47 : Hid (q.length < 140737488355328) := by show _ < _; omega
  have hqk : Hid (¬ 9000 < q.length) := by show ¬ _; omega
  have hkk := Lib.hid hk
  have hrr := Lib.hid hr
  clear hk h9 hkc hr hnil hz1
  go_enter Try.func36, Try.ntmps36
  go_wp2_with fail
  refine (next_any q hq47.out (w.heap.size + 1) w.heap.size 1 (by decide) false _ hQ2.out).mono ?_
  rintro e w3 ⟨A1, c1, r1, rfl, -, -, -, -, o5, o6, hk3, hz3⟩
  have hRQ3 : Hid (RQ w3 (w.heap.size + 1) w.heap.size q 1) := by
    show RQ _ _ _ _ _
    by_cases hle : 1 ≤ q.length
    · exact ⟨_, _, (o5 hle).2, fun _ => ⟨rfl, rfl⟩, fun h => absurd h (by omega), by rw [List.length_drop]; omega⟩
    · exact ⟨_, _, (o6 (by omega)).2, fun h => absurd h hle, fun _ => rfl, Nat.le_refl _⟩
  have hRes3 : Hid (Blk w3 w.heap.size 24 #[Value.int .i64 0, Value.int .i64 0, Value.slice none 0 0]) := hRes2.out.kept hk3 (by omega)
  have hb3 : Hid (Below w.heap.size w w3) := hb2.out.trans (Kept.below_of hk3 (by omega) (by have := hz2.out; omega))
  have hgp : Hid (w3.heap.size = w.heap.size + 2) := hz3.trans hz2.out
  have hRQ4 : Hid (RQ (w3.alloc (.cells #[Value.int .i64 0, Value.int .i64 0, Value.slice none 0 0] 24)) (w.heap.size + 1) w.heap.size q 1) := hRQ3.out.kept (S := fun _ => False) ((Kept.refl _ w3).alloc _) (fun h => h) (fun _ _ h => h)
  have hRes4 : Hid (Blk (w3.alloc (.cells #[Value.int .i64 0, Value.int .i64 0, Value.slice none 0 0] 24)) w.heap.size 24 #[Value.int .i64 0, Value.int .i64 0, Value.slice none 0 0]) := hRes3.out.alloc _
  have hP4 : Hid (Blk (w3.alloc (.cells #[Value.int .i64 0, Value.int .i64 0, Value.slice none 0 0] 24)) w3.heap.size 24 #[Value.int .i64 0, Value.int .i64 0, Value.slice none 0 0]) := Blk.new w3 _ _
  have hb4 : Hid (Below w.heap.size w (w3.alloc (.cells #[Value.int .i64 0, Value.int .i64 0, Value.slice none 0 0] 24))) := hb3.out.alloc hb3.out.size _
  clear o5 o6 hk3 hz3 hRQ3 hRes3 hb3 hRes2 hb2 hz2 hQ2
  go_wp2_with fail
  obtain ⟨p1, s1, n1, n2, n3, n4⟩ := hRQ4.out
  refine (number_any p1 (by have := hq47.out; omega) (w.heap.size + 1) w.heap.size 8 (by decide) s1 _ n1).mono ?_
  rintro e w5 ⟨x1, rfl, hN⟩
  obtain ⟨hRQ5, hx1⟩ := RQ.num n2 n3 n4 hN
  have hk5 := hN.2.2.1
  have hP5 : Hid (Blk w5 w3.heap.size 24 #[Value.int .i64 0, Value.int .i64 0, Value.slice none 0 0]) := hP4.out.kept hk5 (by have := hgp.out; omega)
  have hRes5 : Hid (Blk w5 w.heap.size 24 #[Value.int .i64 0, Value.int .i64 0, Value.slice none 0 0]) := hRes4.out.kept hk5 (by omega)
  have hb5 : Hid (Below w.heap.size w w5) := hb4.out.trans (Kept.below_of hk5 (by omega) hb4.out.size)
  have c5 : w5.cell? ⟨w3.heap.size, 0, none⟩ = some (.int .i64 0) := hP5.out.cell 0
  have f5 := hP5.out.frozen 0
  have hk6 : Kept (· = w3.heap.size) w5 (w5.setCell ⟨w3.heap.size, 0, none⟩ (.int .i64 x1)) := (Kept.refl (· = w3.heap.size) w5).setCell (.inl rfl) _
  have hP6 : Hid (Blk (w5.setCell ⟨w3.heap.size, 0, none⟩ (.int .i64 x1)) w3.heap.size 24 #[Value.int .i64 x1, Value.int .i64 0, Value.slice none 0 0]) := hP5.out.set_ 0 _
  have hRes6 : Hid (Blk (w5.setCell ⟨w3.heap.size, 0, none⟩ (.int .i64 x1)) w.heap.size 24 #[Value.int .i64 0, Value.int .i64 0, Value.slice none 0 0]) := hRes5.out.far (by have := hgp.out; show _ ≠ w3.heap.size; omega) _
  have hb6 : Hid (Below w.heap.size w (w5.setCell ⟨w3.heap.size, 0, none⟩ (.int .i64 x1))) := hb5.out.trans (Kept.below_of hk6 (by have := hgp.out; omega) hb5.out.size)
  have hRQ6 : Hid (RQ (w5.setCell ⟨w3.heap.size, 0, none⟩ (.int .i64 x1)) (w.heap.size + 1) w.heap.size q 9) := hRQ5.kept hk6 (by have := hgp.out; omega) (fun a ha h => by have := hgp.out; omega)
  clear hk6
  replace hx1 := Lib.hid hx1
  clear n1 n2 n3 n4 hN hk5 hRQ4 hP4 hRes4 hb4 hRQ5 hP5 hRes5 hb5
  go_wp2_with fail
  generalize w5.setCell ⟨w3.heap.size, 0, none⟩ (.int .i64 x1) = w6 at *
  clear c5 f5
  obtain ⟨p1, s1, n1, n2, n3, n4⟩ := hRQ6.out
  refine (number_any p1 (by have := hq47.out; omega) (w.heap.size + 1) w.heap.size 8 (by decide) s1 _ n1).mono ?_
  rintro e w7 ⟨x2, rfl, hN⟩
  obtain ⟨hRQ7, hx2⟩ := RQ.num n2 n3 n4 hN
  have hk7 := hN.2.2.1
  have hP7 : Hid (Blk w7 w3.heap.size 24 #[Value.int .i64 x1, Value.int .i64 0, Value.slice none 0 0]) := hP6.out.kept hk7 (by have := hgp.out; omega)
  have hRes7 : Hid (Blk w7 w.heap.size 24 #[Value.int .i64 0, Value.int .i64 0, Value.slice none 0 0]) := hRes6.out.kept hk7 (by omega)
  have hb7 : Hid (Below w.heap.size w w7) := hb6.out.trans (Kept.below_of hk7 (by omega) hb6.out.size)
  have c7 : w7.cell? ⟨w3.heap.size, 1, none⟩ = some (.int .i64 0) := hP7.out.cell 1
  have f7 := hP7.out.frozen 1
  have hk8 : Kept (· = w3.heap.size) w7 (w7.setCell ⟨w3.heap.size, 1, none⟩ (.int .i64 x2)) := (Kept.refl (· = w3.heap.size) w7).setCell (.inl rfl) _
  have hP8 : Hid (Blk (w7.setCell ⟨w3.heap.size, 1, none⟩ (.int .i64 x2)) w3.heap.size 24 #[Value.int .i64 x1, Value.int .i64 x2, Value.slice none 0 0]) := hP7.out.set_ 1 _
  have hRes8 : Hid (Blk (w7.setCell ⟨w3.heap.size, 1, none⟩ (.int .i64 x2)) w.heap.size 24 #[Value.int .i64 0, Value.int .i64 0, Value.slice none 0 0]) := hRes7.out.far (by have := hgp.out; show _ ≠ w3.heap.size; omega) _
  have hb8 : Hid (Below w.heap.size w (w7.setCell ⟨w3.heap.size, 1, none⟩ (.int .i64 x2))) := hb7.out.trans (Kept.below_of hk8 (by have := hgp.out; omega) hb7.out.size)
  have hRQ8 : Hid (RQ (w7.setCell ⟨w3.heap.size, 1, none⟩ (.int .i64 x2)) (w.heap.size + 1) w.heap.size q 17) := hRQ7.kept hk8 (by have := hgp.out; omega) (fun a ha h => by have := hgp.out; omega)
  clear hk8
  have c70 : w7.cell? ⟨w3.heap.size, 0, none⟩ = some (.int .i64 x1) := hP7.out.cell 0
  replace hx2 := Lib.hid hx2
  clear n1 n2 n3 n4 hN hk7 hRQ6 hP6 hRes6 hb6 hRQ7 hP7 hRes7 hb7
  have hWay : Hid (Calls Try.prog 67 #[.pointer (some ⟨w.heap.size + 1, 0, none⟩), .int .i64 (btOf x1 x2)] (w7.setCell ⟨w3.heap.size, 1, none⟩ (.int .i64 x2)) fun e w' => ∃ l A3 c3, e = .returned (.slice A3 (l : List Text).length c3) ∧ RdD w' A3 l.length l ∧ (A3 = none → l.length = 0 ∧ c3 = 0) ∧ l.length ≤ c3 ∧ l.length ≤ 41 ∧ GotC q x1 x2 l ∧ (∀ a, A3 = some a → (w7.setCell ⟨w3.heap.size, 1, none⟩ (.int .i64 x2)).heap.size ≤ a.block) ∧ Kept (· = w.heap.size + 1) (w7.setCell ⟨w3.heap.size, 1, none⟩ (.int .i64 x2)) w') := by
    have hbs := btOf_le x1 x2
    obtain ⟨p1, s1, n1, n2, n3, n4⟩ := hRQ8.out
    by_cases h17 : 17 ≤ q.length
    · obtain ⟨rfl, rfl⟩ := n2 (by omega)
      refine (way_any _ _ _ (by have := hq47.out; omega) _ (by omega) _ n1).mono ?_
      rintro e w' ⟨l, A3, c3, rfl, hrd, hn3, hc3, hlN, hfull, hnew, hkk3⟩
      exact ⟨l, A3, c3, rfl, hrd, hn3, hc3, by omega, ⟨fun _ => ⟨hx1.out (by omega), hx2.out (by omega), hlN, hfull⟩, fun h => absurd h (by omega), hrd.2.1⟩, hnew, hkk3⟩
    · obtain rfl := n3 (by omega)
      refine (way_short _ _ _ _ _ n1).mono ?_
      rintro e w' ⟨rfl, rfl⟩
      exact ⟨[], none, 0, rfl, RdD.nil_ _ _, fun _ => ⟨rfl, rfl⟩, Nat.le_refl _, Nat.zero_le _, ⟨fun h => absurd h h17, fun _ => rfl, fun d h => by cases h⟩, (fun a h => by cases h), Kept.refl _ _⟩
  have hBe := Lib.hid (fun w' => between17_any x1 x2 w')
  clear hx1 hx2 hRQ8
  go_wp2_with (go_at_call 29; refine (hBe.out _).mono ?_; rintro e w' ⟨rfl, rfl⟩)
  generalize w7.setCell ⟨w3.heap.size, 1, none⟩ (.int .i64 x2) = w8 at *
  clear c7 f7 c70
  refine hWay.out.mono ?_
  rintro e w9 ⟨l, A3, c3, rfl, hl9, hn9, hc9, hl40, hGotC, hnew, hk9⟩
  have hz8 : Hid (w3.heap.size < w8.heap.size) := hP8.out.lt
  have hP9 : Hid (Blk w9 w3.heap.size 24 #[Value.int .i64 x1, Value.int .i64 x2, Value.slice none 0 0]) := hP8.out.kept hk9 (by have := hgp.out; omega)
  have hRes9 : Hid (Blk w9 w.heap.size 24 #[Value.int .i64 0, Value.int .i64 0, Value.slice none 0 0]) := hRes8.out.kept hk9 (by omega)
  have hb9 : Hid (Below w.heap.size w w9) := hb8.out.trans (Kept.below_of hk9 (by omega) hb8.out.size)
  have c9 : w9.cell? ⟨w3.heap.size, 2, none⟩ = some (.slice none 0 0) := hP9.out.cell 2
  have f9 := hP9.out.frozen 2
  have hP10 : Hid (Blk (w9.setCell ⟨w3.heap.size, 2, none⟩ (.slice A3 l.length c3)) w3.heap.size 24 #[Value.int .i64 x1, Value.int .i64 x2, Value.slice A3 l.length c3]) := hP9.out.set_ 2 _
  have hRes10 : Hid (Blk (w9.setCell ⟨w3.heap.size, 2, none⟩ (.slice A3 l.length c3)) w.heap.size 24 #[Value.int .i64 0, Value.int .i64 0, Value.slice none 0 0]) := hRes9.out.far (by have := hgp.out; show _ ≠ w3.heap.size; omega) _
  have hk10 : Kept (· = w3.heap.size) w9 (w9.setCell ⟨w3.heap.size, 2, none⟩ (.slice A3 l.length c3)) := (Kept.refl (· = w3.heap.size) w9).setCell (.inl rfl) _
  have hb10 : Hid (Below w.heap.size w (w9.setCell ⟨w3.heap.size, 2, none⟩ (.slice A3 l.length c3))) := hb9.out.trans (Kept.below_of hk10 (by have := hgp.out; omega) hb9.out.size)
  have hl10 : Hid (RdD (w9.setCell ⟨w3.heap.size, 2, none⟩ (.slice A3 l.length c3)) A3 l.length l) := ⟨rfl, hl9.2.1, hl9.2.2.kept hk10 (fun b o e h => by have h3 := hnew _ e; have := hz8.out; have h : b = w3.heap.size := h; have h2 : w8.heap.size ≤ b := h3; omega)⟩
  have hnew' : Hid (∀ a, A3 = some a → a.block ≠ w.heap.size) := fun a e h => by have := hnew a e; have := hz8.out; have := hgp.out; omega
  replace hn9 := Lib.hid hn9
  replace hc9 := Lib.hid hc9
  replace hl40 := Lib.hid hl40
  replace hGotC := Lib.hid hGotC
  clear hl9 hnew hk9 hk10 hP9 hRes9 hb9 hP8 hRes8 hb8 hWay hBe
  by_cases hk0 : k = 0
  · have hXX : Hid (X = (0, 0, [], 8)) := by
      show X = _
      rw [← hX.out]
      exact decAnsC_fail hqk.out (fun h => by have := hkk.out; omega)
    have y3 : ((k : Int) == 0) = true := by rw [hk0]; rfl
    clear hk0
    go_wp2_with ((with_reducible change wpList _ _ _ ({ dst := none, op := Op.store 24 _ _, type := _, pos := _, after := _, guard := _ } :: _) _ _); refine wpList_store_row (o := ⟨none, _, _, _, _, _⟩) rfl 24 (.tmp 2) (.tmp 39) rfl (w.heap.size) (#[Value.int .i64 0, Value.int .i64 0, Value.slice none 0 0]) rfl rfl 24 (#[Value.int .i64 0, Value.int .i64 0, Value.slice none 0 0]) hRes10.out sizeC rfl (oneI _ _ _ _ _) ?_)
    refine bodyPost_ret (results_cell_row2 rfl _ _ w.heap.size 24 #[Value.int .i64 0, Value.int .i64 0, Value.slice none 0 0] (0, 0) _ rfl (setRow_heap _ _ _ _ _ _ hRes10.out) Try.underlying24 rfl sizeC) rfl ?_
    rw [hXX.out]
    exact ⟨none, 0, 0, rfl, RdD.nil_ _ _, fun _ => ⟨rfl, rfl⟩, Nat.le_refl _, by omega, below_setRow hb10.out (Nat.le_refl _) _⟩
  · have y3 : ((k : Int) == 0) = false := beq_eq_false_iff_ne.2 (by omega)
    have hkn : Hid (k ≠ 0) := hk0
    clear hk0
    have hI : Hid (∀ w', RdD w' A3 l.length l → Calls Try.prog 10 #[.agg #[Value.int .i64 x1, Value.int .i64 x2, Value.slice A3 l.length c3]] w' fun e w'' => ∃ A4 c4 b, e = .returned (.slice A4 b.length c4) ∧ Reads w'' 1 A4 b.length (cells8 b) ∧ (A4 = none → b.length = 0 ∧ c4 = 0) ∧ b.length ≤ c4 ∧ (consWant x1 x2 l = some b ∨ (consWant x1 x2 l = none ∧ A4 = none ∧ b = [])) ∧ Below w'.heap.size w' w'') := fun w' h => refcons17_any x1 x2 l A3 l.length c3 w' h
    go_wp2_with ((with_reducible change wpList _ _ _ ({ dst := some 33, op := _, type := _, pos := _, after := _, guard := _ } :: _) _ _); refine wpList_load_rowG (o := ⟨some 33, _, _, _, _, _⟩) rfl 24 (.tmp 5) rfl (w3.heap.size) rfl 24 (#[Value.int .i64 x1, Value.int .i64 x2, Value.slice A3 l.length c3]) (0, 0) _ hP10.out Try.underlying24 rfl sizeC ?_)
    generalize w9.setCell ⟨w3.heap.size, 2, none⟩ (.slice A3 l.length c3) = w10 at *
    refine (hI.out _ hl10.out).mono ?_
    rintro e w11 ⟨A4, c4, b, rfl, hb11, -, -, hwant, hbl11⟩
    have hP11 : Hid (Blk w11 w3.heap.size 24 #[Value.int .i64 x1, Value.int .i64 x2, Value.slice A3 l.length c3]) := (hbl11.block _ hP10.out.lt).trans hP10.out
    have hRes11 : Hid (Blk w11 w.heap.size 24 #[Value.int .i64 0, Value.int .i64 0, Value.slice none 0 0]) := (hbl11.block _ hRes10.out.lt).trans hRes10.out
    have hl11 : Hid (RdD w11 A3 l.length l) := hl10.out.below hbl11
    have hbb11 : Hid (Below w.heap.size w w11) := hb10.out.trans (hbl11.mono hb10.out.size)
    have hb47 : b.length < 9223372036854775807 := by
      rcases hwant with h | ⟨-, -, rfl⟩
      · rw [wantC_len hGotC.out.2.2 h]; have := hl40.out; omega
      · simp
    have hS := Lib.hid (same17_any b q b.length k rfl hkk.out hb47 A4 A c4 c w11 hb11 (hrr.out.below hbb11.out))
    replace hwant := Lib.hid hwant
    clear hb11 hbl11 hb47 hP10 hRes10 hl10 hb10 hI
    by_cases hbq : b = q
    · have hwq : consWant x1 x2 l = some q := by
        rcases hwant.out with h | ⟨-, -, h⟩
        · rw [h, hbq]
        · have hq0 : q = [] := by rw [← hbq, h]
          have h1 := hkk.out
          rw [hq0] at h1
          exact absurd h1.symm hkn.out
      have hXX : Hid (X = (x1, x2, l, 0)) := by
        show X = _
        rw [← hX.out]
        exact readC_ok hqk.out hGotC.out hwq
      rw [decide_eq_true hbq] at hS
      clear hbq hwq
      go_wp2_with fail
      refine hS.out.mono ?_
      rintro e w12 ⟨rfl, m, rfl⟩
      have hP12 : Hid (Blk (w11.drewN m) w3.heap.size 24 #[Value.int .i64 x1, Value.int .i64 x2, Value.slice A3 l.length c3]) := hP11.out.drewN m
      have hRes12 : Hid (Blk (w11.drewN m) w.heap.size 24 #[Value.int .i64 0, Value.int .i64 0, Value.slice none 0 0]) := hRes11.out.drewN m
      have hb12 : Hid (Below w.heap.size w (w11.drewN m)) := below_drawn hbb11.out m
      have hl12 : Hid (RdD (w11.drewN m) A3 l.length l) := hl11.out.drewN m
      clear hP11 hRes11 hbb11 hl11 hS
      go_wp2_with (first
        | ((with_reducible change wpList _ _ _ ({ dst := some 40, op := _, type := _, pos := _, after := _, guard := _ } :: _) _ _); refine wpList_load_row (o := ⟨some 40, _, _, _, _, _⟩) rfl 24 (.tmp 5) rfl (w3.heap.size) rfl 24 (#[Value.int .i64 x1, Value.int .i64 x2, Value.slice A3 l.length c3]) (0, 0) _ hP12.out Try.underlying24 rfl sizeC ?_)
        | ((with_reducible change wpList _ _ _ ({ dst := none, op := Op.store 24 _ _, type := _, pos := _, after := _, guard := _ } :: _) _ _); refine wpList_store_row (o := ⟨none, _, _, _, _, _⟩) rfl 24 (.tmp 2) (.tmp 40) rfl (w.heap.size) (#[Value.int .i64 x1, Value.int .i64 x2, Value.slice A3 l.length c3]) rfl rfl 24 (#[Value.int .i64 0, Value.int .i64 0, Value.slice none 0 0]) hRes12.out sizeC rfl (oneI _ _ _ _ _) ?_))
      refine bodyPost_ret (results_cell_row2 rfl _ _ w.heap.size 24 #[Value.int .i64 x1, Value.int .i64 x2, Value.slice A3 l.length c3] (0, 0) _ rfl (setRow_heap _ _ _ _ _ _ hRes12.out) Try.underlying24 rfl sizeC) rfl ?_
      rw [hXX.out]
      exact ⟨A3, l.length, c3, rfl, ⟨rfl, hl12.out.2.1, hl12.out.2.2.kept (Bytes.Kept.setRow (S := (· = w.heap.size)) (Kept.refl _ _) rfl _) (fun b o e h => hnew'.out _ e h)⟩, hn9.out, hc9.out, hl40.out, below_setRow hb12.out (Nat.le_refl _) _⟩
    · have hwq : consWant x1 x2 l ≠ some q := fun e => by
        rcases hwant.out with h | ⟨h, -, -⟩
        · rw [h] at e; exact hbq (Option.some.inj e)
        · rw [h] at e; cases e
      have hXX : Hid (X = (0, 0, [], 8)) := by
        show X = _
        rw [← hX.out]
        exact readC_no hqk.out hGotC.out hwq
      rw [decide_eq_false hbq] at hS
      clear hbq hwq
      go_wp2_with fail
      refine hS.out.mono ?_
      rintro e w12 ⟨rfl, m, rfl⟩
      have hRes12 : Hid (Blk (w11.drewN m) w.heap.size 24 #[Value.int .i64 0, Value.int .i64 0, Value.slice none 0 0]) := hRes11.out.drewN m
      have hb12 : Hid (Below w.heap.size w (w11.drewN m)) := below_drawn hbb11.out m
      clear hP11 hRes11 hbb11 hl11 hS
      go_wp2_with ((with_reducible change wpList _ _ _ ({ dst := none, op := Op.store 24 _ _, type := _, pos := _, after := _, guard := _ } :: _) _ _); refine wpList_store_row (o := ⟨none, _, _, _, _, _⟩) rfl 24 (.tmp 2) (.tmp 39) rfl (w.heap.size) (#[Value.int .i64 0, Value.int .i64 0, Value.slice none 0 0]) rfl rfl 24 (#[Value.int .i64 0, Value.int .i64 0, Value.slice none 0 0]) hRes12.out sizeC rfl (oneI _ _ _ _ _) ?_)
      refine bodyPost_ret (results_cell_row2 rfl _ _ w.heap.size 24 #[Value.int .i64 0, Value.int .i64 0, Value.slice none 0 0] (0, 0) _ rfl (setRow_heap _ _ _ _ _ _ hRes12.out) Try.underlying24 rfl sizeC) rfl ?_
      rw [hXX.out]
      exact ⟨none, 0, 0, rfl, RdD.nil_ _ _, fun _ => ⟨rfl, rfl⟩, Nat.le_refl _, by omega, below_setRow hb12.out (Nat.le_refl _) _⟩
theorem readConsistency_any (q : Text) (k : Nat) (hk : q.length = k) (A : Option Addr) (c : Nat) (hkc : k ≤ c) (w : World) (hr : Reads w 1 A k (cells8 q)) (hnil : A = none → k = 0 ∧ c = 0) :
    Calls Try.prog 36 #[.slice A k c] w (APostC w (decAnsC q)) := by
  by_cases h9 : 9000 < k
  · exact readC_long q k hk h9 A c w
  · exact readC_main q k hk h9 A c hkc w hr hnil
end Go.Proofs.Ytaelcgimgomnnaa.ReadCons

namespace Go.Proofs.Ytaelcgimgomnnaa.ProofConsistencies
open Go Go.RowKit Go.Proofs.Ytaelcgimgomnnaa Go.Proofs.Ytaelcgimgomnnaa.Mem Go.Proofs.Ytaelcgimgomnnaa.Sha Go.Proofs.Ytaelcgimgomnnaa.Bytes Go.Proofs.Ytaelcgimgomnnaa.QuietTail Go.Proofs.Ytaelcgimgomnnaa.Grown Go.Proofs.Ytaelcgimgomnnaa.TreeMem Go.Proofs.Ytaelcgimgomnnaa.TreeRoot Go.Proofs.Ytaelcgimgomnnaa.Held Go.Proofs.Ytaelcgimgomnnaa.Guard Go.Proofs.Ytaelcgimgomnnaa.Ref17 Go.Proofs.Ytaelcgimgomnnaa.DecIncl Go.Proofs.Ytaelcgimgomnnaa.DecIncl2 Go.Proofs.Ytaelcgimgomnnaa.ReadIncl Go.Proofs.Ytaelcgimgomnnaa.ReadIncl2 Go.Proofs.Ytaelcgimgomnnaa.Book Go.Proofs.Ytaelcgimgomnnaa.Book2 Go.Proofs.Ytaelcgimgomnnaa.Same8 Go.Proofs.Ytaelcgimgomnnaa.Book8 Go.Proofs.Ytaelcgimgomnnaa.Law17a Go.Proofs.Ytaelcgimgomnnaa.Law17b Go.Proofs.Ytaelcgimgomnnaa.Subs Go.Proofs.Ytaelcgimgomnnaa.EncCons Go.Proofs.Ytaelcgimgomnnaa.RefCons Go.Proofs.Ytaelcgimgomnnaa.DecCons Go.Proofs.Ytaelcgimgomnnaa.ReadCons Go.Proofs.Ytaelcgimgomnnaa.EncConsAny

set_option maxRecDepth 100000 in
set_option maxHeartbeats 1000000 in
theorem sameCons_yes (x y : Int) (l : List Text) (n : Nat) (hn : n < 140737488355328) (A B : Option Addr) (c d : Nat) (w : World) (ha : RdD w A n l) (hb : RdD w B n l) :
    Calls Try.prog 37 #[.agg (inclCells x y A n c), .agg (inclCells x y B n d)] w fun e w' => e = .returned (.bool true) ∧ Below w.heap.size w w' := by
  unfold inclCells
  have hb2 : Hid (Below w.heap.size w ((w.alloc (.cells #[.int .i64 x, .int .i64 y, .slice A n c] 24)).alloc (.cells #[.int .i64 x, .int .i64 y, .slice B n d] 24))) := (Below.heap_below w _).alloc (by simp) _
  have hS : Hid (∀ w', Below w.heap.size w w' → Calls Try.prog 33 #[.slice A n c, .slice B n d] w' fun e w'' => e = .returned (.bool true) ∧ Below w'.heap.size w' w'') := fun w' h => by
    have := sameD_any n n hn l l A B c d w' (ha.below h) (hb.below h)
    rw [decide_eq_true rfl] at this
    exact this
  have y1 : (x == x) = true := beq_self_eq_true _
  have y2 : (y == y) = true := beq_self_eq_true _
  clear ha hb hn
  go_enter Try.func37, Try.ntmps37
  go_wp2_with (go_at_call 33; refine (hS.out _ hb2.out).mono ?_; rintro e w3 ⟨rfl, hk⟩; have hb3 : Hid (Below w.heap.size w w3) := hb2.out.trans (hk.mono hb2.out.size); clear hk)
  go_ret
  exact ⟨rfl, hb3.out⟩

set_option maxRecDepth 100000 in
set_option maxHeartbeats 1000000 in
theorem readsCons_any (q : Text) (k : Nat) (hk : q.length = k) (hk47 : k < 140737488355328) (A : Option Addr) (c : Nat) (hkc : k ≤ c) (w : World) (hr : Reads w 1 A k (cells8 q)) (hnil : A = none → k = 0 ∧ c = 0) :
    Calls Try.prog 13 #[.slice A k c] w fun e w' => e = .returned (.bool true) ∧ Below w.heap.size w w' := by
  have hRo := Lib.hid (roomy8_any q k hk hk47 165 165 rfl A c w hr)
  have hDe := Lib.hid (fun g w' (h : Reads w' 1 (some ⟨g, 0, none⟩) k (cells8 q)) => decodeConsistency_any q k hk (some ⟨g, 0, none⟩) (k + 80) w' h (fun e => by cases e))
  have hRe := Lib.hid (fun w' (h : Below w.heap.size w w') => readConsistency_any q k hk A c hkc w' (hr.below h) hnil)
  have hIn := Lib.hid (fun g w' (h : RoomB w' g q 165) (hb : Below w.heap.size w w') => intact8_any q k hk hk47 165 165 rfl g A c w' h (hr.below hb))
  have hGr : Hid (∀ g w', RoomB w' g q 165 → Reads w' 1 (some ⟨g, 0, none⟩) k (cells8 q)) := fun g w' h => by have := h.reads; rwa [hk] at this
  obtain ⟨⟨x1, x2, l, err⟩, hX⟩ : ∃ X, decAnsC q = X := ⟨_, rfl⟩
  have hD2 : Hid (∀ g w', Reads w' 1 (some ⟨g, 0, none⟩) k (cells8 q) → Calls Try.prog 35 #[.slice (some ⟨g, 0, none⟩) k (k + 80)] w' fun e w'' => ∃ A1 c1, e = .returned (.tuple #[.agg #[.int .i64 x1, .int .i64 x2, .slice A1 l.length c1], .int .i64 err]) ∧ RdD w'' A1 l.length l ∧ l.length ≤ 41 ∧ Below w'.heap.size w' w'') := fun g w' h => by
    have := hDe.out g w' h
    rw [hX] at this
    refine this.mono ?_
    rintro e w'' ⟨A1, n1, c1, rfl, hl, -, -, h40, hb⟩
    obtain rfl := hl.1
    exact ⟨A1, c1, rfl, hl, h40, hb⟩
  have hR2 : Hid (∀ w', Below w.heap.size w w' → Calls Try.prog 36 #[.slice A k c] w' fun e w'' => ∃ A1 c1, e = .returned (.tuple #[.agg #[.int .i64 x1, .int .i64 x2, .slice A1 l.length c1], .int .i64 err]) ∧ RdD w'' A1 l.length l ∧ Below w'.heap.size w' w'') := fun w' h => by
    have := hRe.out w' h
    rw [hX] at this
    refine this.mono ?_
    rintro e w'' ⟨A1, n1, c1, rfl, hl, -, -, h40, hb⟩
    obtain rfl := hl.1
    exact ⟨A1, c1, rfl, hl, hb⟩
  have X : ∀ g w', (Instr.sliceAt 25 (.slice (some ⟨g, 0, none⟩) (k + 80) (k + 80)) none (some (.int .i64 (k : Int))) none).run Try.prog w' = .ok (.slice (some ⟨g, 0, none⟩) k (k + 80)) w' := fun g => run_headOf (m := k) Try.underlying25 (fun _ => rfl) (by omega) _ rfl
  replace X := Lib.hid X
  have e1 : (err == err) = true := beq_self_eq_true _
  clear hX hDe hRe hk hk47 hkc hr hnil
  go_enter Try.func13, Try.ntmps13
  go_wp2_with fail
  refine hRo.out.mono ?_
  rintro e w1 ⟨g, rfl, -, hG, hb⟩
  replace hG := Lib.hid hG
  replace hb := Lib.hid hb
  have Xg := X.out g
  clear hRo X
  go_wp2_with fail
  refine (hD2.out g w1 (hGr.out g w1 hG.out)).mono ?_
  rintro e w2 ⟨A1, c1, rfl, hl1, h40, hk1⟩
  replace hb := Lib.hid (hb.out.trans (hk1.mono hb.out.size))
  replace hG : Hid (RoomB w2 g q 165) := hG.out.below hk1 (Tab.lt hG.out)
  replace hl1 := Lib.hid hl1
  have hl47 : Hid (l.length < 140737488355328) := by show _ < _; omega
  clear hk1 h40 hD2
  go_wp2_with ((with_reducible change wpList _ _ _ ({ dst := none, op := Op.store 24 (.tmp 4) _, type := _, pos := _, after := _, guard := _ } :: _) _ _); refine wpList_store_whole (o := ⟨none, _, _, _, _, _⟩) rfl 24 (.tmp 4) (.tmp 16) rfl (w2.heap.size) (#[Value.int .i64 x1, Value.int .i64 x2, Value.slice A1 l.length c1]) rfl rfl 24 (#[Value.int .i64 0, Value.int .i64 0, Value.slice none 0 0]) (Blk.new w2 _ _) sizeC rfl (oneI _ _ _ _ _) ?_; intro w3 hB4 hkx; have hk1 := kept_fresh hkx; replace hb := Lib.hid (hb.out.trans (hk1.mono hb.out.size)); replace hG : Hid (RoomB w3 g q 165) := hG.out.below hk1 (Tab.lt hG.out); replace hl1 := Lib.hid (hl1.out.below hk1); replace hB4 := Lib.hid hB4; clear hk1 hkx; generalize w2.heap.size = g4 at *)
  refine (hR2.out w3 hb.out).mono ?_
  rintro e w4 ⟨A2, c2, rfl, hl2, hk1⟩
  replace hb := Lib.hid (hb.out.trans (hk1.mono hb.out.size))
  replace hG : Hid (RoomB w4 g q 165) := hG.out.below hk1 (Tab.lt hG.out)
  replace hl1 := Lib.hid (hl1.out.below hk1)
  replace hB4 := Lib.hid (Blk.onw hB4.out hk1)
  replace hl2 := Lib.hid hl2
  clear hk1 hR2
  go_wp2_with (first
    | ((with_reducible change wpList _ _ _ ({ dst := none, op := Op.store 24 (.tmp 6) _, type := _, pos := _, after := _, guard := _ } :: _) _ _); refine wpList_store_whole (o := ⟨none, _, _, _, _, _⟩) rfl 24 (.tmp 6) (.tmp 21) rfl (w4.heap.size) (#[Value.int .i64 x1, Value.int .i64 x2, Value.slice A2 l.length c2]) rfl rfl 24 (#[Value.int .i64 0, Value.int .i64 0, Value.slice none 0 0]) (Blk.new w4 _ _) sizeC rfl (oneI _ _ _ _ _) ?_; intro w5 hB6 hkx; have hk1 := kept_fresh hkx; replace hb := Lib.hid (hb.out.trans (hk1.mono hb.out.size)); replace hG : Hid (RoomB w5 g q 165) := hG.out.below hk1 (Tab.lt hG.out); replace hl1 := Lib.hid (hl1.out.below hk1); replace hl2 := Lib.hid (hl2.out.below hk1); replace hB4 := Lib.hid (Blk.onw hB4.out hk1); replace hB6 := Lib.hid hB6; clear hk1 hkx; generalize w4.heap.size = g6 at *)
    | ((with_reducible change wpList _ _ _ ({ dst := some 27, op := _, type := _, pos := _, after := _, guard := _ } :: _) _ _); refine wpList_load_rowG (o := ⟨some 27, _, _, _, _, _⟩) rfl 24 (.tmp 4) rfl (g4) rfl 24 (#[Value.int .i64 x1, Value.int .i64 x2, Value.slice A1 l.length c1]) (0, 0) _ hB4.out Try.underlying24 rfl sizeC ?_)
    | ((with_reducible change wpList _ _ _ ({ dst := some 28, op := _, type := _, pos := _, after := _, guard := _ } :: _) _ _); refine wpList_load_rowG (o := ⟨some 28, _, _, _, _, _⟩) rfl 24 (.tmp 6) rfl (g6) rfl 24 (#[Value.int .i64 x1, Value.int .i64 x2, Value.slice A2 l.length c2]) (0, 0) _ hB6.out Try.underlying24 rfl sizeC ?_))
  refine (sameCons_yes x1 x2 l l.length hl47.out A1 A2 c1 c2 w5 hl1.out hl2.out).mono ?_
  rintro e w6 ⟨rfl, hk1⟩
  replace hb := Lib.hid (hb.out.trans (hk1.mono hb.out.size))
  replace hG : Hid (RoomB w6 g q 165) := hG.out.below hk1 (Tab.lt hG.out)
  clear hk1
  go_wp2_with fail
  refine (hIn.out g w6 hG.out hb.out).mono ?_
  rintro e w7 ⟨rfl, m, rfl⟩
  go_wp2_with fail
  go_ret
  exact ⟨rfl, below_drawn hb.out m⟩
theorem wantC_pos {x1 x2 : Int} {l : List Text} {b : Text} (h : consWant x1 x2 l = some b) : 0 < b.length := by
  unfold consWant at h
  split at h
  · rw [← Option.some.inj h]; simp [EncCons.consBytes]
  · cases h
set_option maxRecDepth 100000 in
set_option maxHeartbeats 2000000 in
theorem proofConsistencies_any (x1 x2 : Int) (es : List Text) (m : Nat) (A : Option Addr) (c : Nat) (hmc : m ≤ c) (q : Text) (k : Nat) (hk : q.length = k) (hk47 : k < 140737488355328) (A2 : Option Addr) (c2 : Nat) (hkc : k ≤ c2) (w : World) (hr0 : RdD w A m es) (hrq : Reads w 1 A2 k (cells8 q)) (hnil : A2 = none → k = 0 ∧ c2 = 0) :
    Calls Try.prog 3 #[.agg (inclCells x1 x2 A m c), .slice A2 k c2] w fun e w' => e = .returned (.bool true) ∧ Below w.heap.size w w' := by
  unfold inclCells
  obtain ⟨n, hn⟩ : ∃ n, min m 300 = n := ⟨_, rfl⟩
  obtain ⟨ds, hds⟩ : ∃ ds, es.take n = ds := ⟨_, rfl⟩
  have hr : RdD w A n ds := by rw [← hds]; exact hr0.take_ n (by omega)
  have hn300 : n ≤ 300 := by omega
  have hF : Hid (∀ w', Calls Try.prog 6 #[.slice A m c, .int .i64 300] w' fun e w'' => e = .returned (.slice A n c) ∧ w' = w'') := fun w' => by
    have := few17_any A m c hmc w'
    rwa [hn] at this
  have hRo := Lib.hid (fun w' (hb : Below w.heap.size w w') => roomyD_any ds n (by omega) A c mk0 mk0_len w' (hr.below hb))
  have hIt := Lib.hid (fun w' g (hg : RowD w' g (ds ++ List.replicate 80 mk0)) (hb : Below w.heap.size w w') => intactD_any ds n (by omega) g A c mk0 mk0_len w' (hr.below hb) hg)
  have hG0 := Lib.hid (fun w' g (hg : RowD w' g (ds ++ List.replicate 80 mk0)) => (by
    have := (hg.rd (hr.2.1.append_ (Digs.rep 80 mk0_len))).take_ n (by simp [hr.1])
    rwa [List.take_append_of_le_length (by rw [hr.1]; exact Nat.le_refl _), List.take_of_length_le (by rw [hr.1]; exact Nat.le_refl _)] at this : RdD w' (some ⟨g, 0, none⟩) n ds))
  have hS := Lib.hid (fun (g : Nat) => run_headD (A := some ⟨g, 0, none⟩) (n := n + 80) (c := n + 80) (k := n) (by omega) (n : Int) rfl)
  have hEn : Hid (∀ w' g, RowD w' g (ds ++ List.replicate 80 mk0) → Calls Try.prog 9 #[.agg #[Value.int .i64 x1, Value.int .i64 x2, Value.slice (some ⟨g, 0, none⟩) n (n + 80)]] w' fun e w'' => ∃ A4 c4 b err, e = .returned (.tuple #[.slice A4 b.length c4, .int .i64 err]) ∧ Reads w'' 1 A4 b.length (cells8 b) ∧ ((consWant x1 x2 ds = some b ∧ err = 0) ∨ (consWant x1 x2 ds = none ∧ b = [] ∧ err = 170)) ∧ Below w'.heap.size w' w'') := fun w' g hg => encCons_any x1 x2 ds (some ⟨g, 0, none⟩) n (n + 80) w' (hG0.out w' g hg)
  have hWa : Hid (∀ w', Below w.heap.size w w' → Calls Try.prog 10 #[.agg #[Value.int .i64 x1, Value.int .i64 x2, Value.slice A n c]] w' fun e w'' => ∃ A4 c4 b, e = .returned (.slice A4 b.length c4) ∧ Reads w'' 1 A4 b.length (cells8 b) ∧ (A4 = none → b.length = 0 ∧ c4 = 0) ∧ b.length ≤ c4 ∧ (consWant x1 x2 ds = some b ∨ (consWant x1 x2 ds = none ∧ A4 = none ∧ b = [])) ∧ Below w'.heap.size w' w'') := fun w' hb => refcons17_any x1 x2 ds A n c w' (hr.below hb)
  have hRq := Lib.hid (fun w' (hb : Below w.heap.size w w') => readsCons_any q k hk hk47 A2 c2 hkc w' (hrq.below hb) hnil)
  have hMK : Hid (∀ w', Calls Try.prog 8 #[] w' fun e w'' => e = .returned (.agg (cells8 mk0).toArray) ∧ Below w'.heap.size w' w'') := stranger17_any
  have hlen : Hid (∀ b, consWant x1 x2 ds = some b → b.length < 140737488355328) := fun b h => by rw [wantC_len hr.2.1 h, hr.1]; omega
  have hb : Hid (Below w.heap.size w (w.alloc (.cells #[Value.int .i64 x1, Value.int .i64 x2, Value.slice A n c] 24))) := Below.heap_below w _
  have hP : Hid (Blk (w.alloc (.cells #[Value.int .i64 x1, Value.int .i64 x2, Value.slice A n c] 24)) w.heap.size 24 #[Value.int .i64 x1, Value.int .i64 x2, Value.slice A n c]) := Blk.new w _ _
  clear hr0 hr hds hn300 hn hmc hk hk47 hkc hrq hnil hG0
  go_enter Try.func3, Try.ntmps3
  go_wp2_with fail
  refine (hF.out _).mono ?_
  rintro e w0 ⟨rfl, rfl⟩
  go_wp2_with fail
  generalize w.alloc (.cells #[Value.int .i64 x1, Value.int .i64 x2, Value.slice A n c] 24) = w1 at *
  have hc2 : Hid (∀ w', Below w1.heap.size w1 w' → w'.cell? ⟨w.heap.size, 2, none⟩ = some (.slice A n c)) := fun w' h => (Blk.onw hP.out h).cell 2
  clear hF
  have s0 : Hid (Below w1.heap.size w1 w1.drew) := (Below.refl _ _).drew
  refine held_start (fun w' => Below w1.heap.size w1 w') 5 rfl (by kernel_rfl) ?_
  refine held_take (i := 0) (v := .pointer (some ⟨w.heap.size, 2, none⟩)) rfl (by kernel_rfl) (by kernel_rfl) (by kernel_rfl) (fun _ _ _ h => h) s0.out (by rfl) (fun w' hw' => by go_simp) ?_
  (intro K hK; go_simp; refine hK _ ?_; clear hK K)
  refine held_take (i := 1) (v := .slice A n c) rfl (by kernel_rfl) (by kernel_rfl) (by kernel_rfl) (fun _ _ _ h => h) s0.out (by rfl) (fun w' hw' => by have h := hc2.out w' hw'; go_simp) ?_
  (intro K hK; go_simp; refine hK _ ?_; clear hK K)
  refine held_only (i := 2) rfl (by kernel_rfl) (by rfl) (fun K hK => ?_)
  refine wp_fn (R := fun v w'' => v = .agg (cells8 mk0).toArray ∧ Below w1.heap.size w1 w'') (args := #[]) _ _ rfl rfl Try.func8 (by kernel_rfl) (by kernel_rfl) ((hMK.out _).mono fun e w'' ⟨he, hb⟩ => ⟨_, he, rfl, s0.out.trans hb⟩) ?_
  rintro qq w2 ⟨rfl, h2⟩
  replace h2 := Lib.hid h2
  go_simp
  refine hK _ _ h2.out ?_
  clear hK K
  refine held_only (i := 3) rfl (by kernel_rfl) (by rfl) (fun K hK => ?_)
  refine wp_fn (R := fun v w'' => ∃ g, v = .slice (some ⟨g, 0, none⟩) (n + 80) (n + 80) ∧ RowD w'' g (ds ++ List.replicate 80 mk0) ∧ Below w1.heap.size w1 w'') (args := #[.slice A n c, .agg (cells8 mk0).toArray]) _ _ rfl rfl Try.func7 (by kernel_rfl) (by kernel_rfl) ((hRo.out w2 (hb.out.trans (h2.out.mono hb.out.size))).mono fun e w'' ⟨g, he, _, hg, hk⟩ => ⟨_, he, g, rfl, hg, h2.out.trans (hk.mono h2.out.size)⟩) ?_
  rintro qq w3 ⟨g, rfl, hG, h3⟩
  replace hb := Lib.hid (hb.out.trans (h3.mono hb.out.size))
  replace hP := Lib.hid (Blk.onw hP.out h3)
  replace hG := Lib.hid hG
  replace h3 := Lib.hid h3
  go_simp
  refine hK _ _ h3.out ?_
  clear hK K
  refine held_take (i := 4) (v := .slice (some ⟨g, 0, none⟩) (n + 80) (n + 80)) rfl (by kernel_rfl) (by kernel_rfl) (by kernel_rfl) (fun _ _ _ h => h) h3.out (by rfl) (fun w' hw' => by first | go_simp | rfl) ?_
  (intro K hK; go_simp; refine hK _ ?_; clear hK K)
  refine held_end (by kernel_rfl) ?_
  have hSg := hS.out g
  go_wp2_with (first
    | ((with_reducible change wpList _ _ _ ({ dst := some 18, op := _, type := _, pos := _, after := _, guard := _ } :: _) _ _); refine wpList_load_row (o := ⟨some 18, _, _, _, _, _⟩) rfl 24 (.tmp 2) rfl (w.heap.size) rfl 24 (#[Value.int .i64 x1, Value.int .i64 x2, Value.slice A n c]) (0, 0) _ hP.out Try.underlying24 rfl sizeC ?_)
    | ((with_reducible change wpList _ _ _ ({ dst := none, op := Op.store 24 (.tmp 6) _, type := _, pos := _, after := _, guard := _ } :: _) _ _); refine wpList_store_whole (o := ⟨none, _, _, _, _, _⟩) rfl 24 (.tmp 6) (.tmp 18) rfl (w3.heap.size) (#[Value.int .i64 x1, Value.int .i64 x2, Value.slice A n c]) rfl rfl 24 (#[Value.int .i64 0, Value.int .i64 0, Value.slice none 0 0]) (Blk.new w3 _ _) sizeC rfl (oneI _ _ _ _ _) ?_; intro w4 hB6 hkx; have hk1 := kept_fresh hkx; have hglt : g < w3.heap.size := Blk.lt hG.out; replace hb := Lib.hid (hb.out.trans (hk1.mono hb.out.size)); replace hG := Lib.hid (hG.out.below hk1); have hPlt := hP.out.lt; replace hP := Lib.hid (Blk.onw hP.out hk1); generalize hg6 : w3.heap.size = g6 at *; have hg6w : Hid (w.heap.size < g6) := hPlt; have hgg : Hid (g ≠ g6) := (by show _ ≠ _; omega); have c5p : w4.cell? ⟨w.heap.size, 2, none⟩ = some (.slice A n c) := hP.out.cell 2; have c6 : w4.cell? ⟨g6, 2, none⟩ = some (.slice A n c) := Blk.cell hB6 2; have f6 := Blk.frozen hB6 2; have hkq : Kept (· = g6) w4 (w4.setCell ⟨g6, 2, none⟩ (.slice (some ⟨g, 0, none⟩) n (n + 80))) := (Kept.refl (· = g6) w4).setCell (.inl rfl) _; have hQ : Hid (Blk (w4.setCell ⟨g6, 2, none⟩ (.slice (some ⟨g, 0, none⟩) n (n + 80))) g6 24 #[Value.int .i64 x1, Value.int .i64 x2, Value.slice (some ⟨g, 0, none⟩) n (n + 80)]) := Blk.set_ hB6 2 _; replace hP : Hid (Blk (w4.setCell ⟨g6, 2, none⟩ (.slice (some ⟨g, 0, none⟩) n (n + 80))) w.heap.size 24 #[Value.int .i64 x1, Value.int .i64 x2, Value.slice A n c]) := hP.out.kept hkq (by have := hg6w.out; omega); replace hG : Hid (RowD (w4.setCell ⟨g6, 2, none⟩ (.slice (some ⟨g, 0, none⟩) n (n + 80))) g (ds ++ List.replicate 80 mk0)) := Blk.kept hG.out hkq hgg.out; replace hb : Hid (Below w.heap.size w (w4.setCell ⟨g6, 2, none⟩ (.slice (some ⟨g, 0, none⟩) n (n + 80)))) := hb.out.trans (Kept.below_of hkq (Nat.le_of_lt hg6w.out) hb.out.size); clear hk1 hkx hB6 hkq hPlt hg6 hgg hg6w hglt)
    | ((with_reducible change wpList _ _ _ ({ dst := some 26, op := _, type := _, pos := _, after := _, guard := _ } :: _) _ _); refine wpList_load_row (o := ⟨some 26, _, _, _, _, _⟩) rfl 24 (.tmp 6) rfl (g6) rfl 24 (#[Value.int .i64 x1, Value.int .i64 x2, Value.slice (some ⟨g, 0, none⟩) n (n + 80)]) (0, 0) _ hQ.out Try.underlying24 rfl sizeC ?_))
  generalize w4.setCell ⟨g6, 2, none⟩ (.slice (some ⟨g, 0, none⟩) n (n + 80)) = w5 at *
  clear c6 f6 c5p hSg hS
  refine (hEn.out w5 g hG.out).mono ?_
  rintro e w6 ⟨A4, c4, b, err, rfl, hrb, hbe, hk1⟩
  replace hb := Lib.hid (hb.out.trans (hk1.mono hb.out.size))
  replace hP := Lib.hid (Blk.onw hP.out hk1)
  replace hG := Lib.hid (hG.out.below hk1)
  replace hrb := Lib.hid hrb
  replace hbe := Lib.hid hbe
  clear hk1 hEn hQ
  go_wp2_with ((with_reducible change wpList _ _ _ ({ dst := some 30, op := _, type := _, pos := _, after := _, guard := _ } :: _) _ _); refine wpList_load_row (o := ⟨some 30, _, _, _, _, _⟩) rfl 24 (.tmp 2) rfl (w.heap.size) rfl 24 (#[Value.int .i64 x1, Value.int .i64 x2, Value.slice A n c]) (0, 0) _ hP.out Try.underlying24 rfl sizeC ?_)
  refine (hWa.out w6 hb.out).mono ?_
  rintro e w7 ⟨A5, c5, b5, rfl, hr5, hn5, hc5, hb5, hk1⟩
  replace hb := Lib.hid (hb.out.trans (hk1.mono hb.out.size))
  replace hP := Lib.hid (Blk.onw hP.out hk1)
  replace hG := Lib.hid (hG.out.below hk1)
  replace hrb := Lib.hid (hrb.out.below hk1)
  have hl5 : b5.length < 140737488355328 := by
    rcases hb5 with h | ⟨-, -, h⟩
    · exact hlen.out b5 h
    · rw [h]; decide
  have hRight : Hid (∀ w', Below w7.heap.size w7 w' → Calls Try.prog 11 #[.slice A4 b.length c4, .int .i64 err, .slice A5 b5.length c5] w' fun e w'' => e = .returned (.bool true) ∧ Below w'.heap.size w' w'') := fun w' h => by
    rcases hbe.out with ⟨h1, rfl⟩ | ⟨h1, rfl, rfl⟩
    · rcases hb5 with h2 | ⟨h2, -, -⟩
      · rw [h1] at h2
        obtain rfl := Option.some.inj h2
        cases A5 with
        | none =>
          have := wantC_pos h1
          have := (hn5 rfl).1
          omega
        | some a => exact right_some b b.length rfl (by omega) A4 c4 a c5 w' (hrb.out.below h) (hr5.below h)
      · rw [h1] at h2; cases h2
    · rcases hb5 with h2 | ⟨-, rfl, rfl⟩
      · rw [h1] at h2; cases h2
      · obtain ⟨rfl⟩ : c5 = 0 := (hn5 rfl).2
        exact right_none A4 c4 w'
  have hRw := Lib.hid (fun w' (h : Below w7.heap.size w7 w') => readsCons_any b5 b5.length rfl hl5 A5 c5 hc5 w' (hr5.below h) hn5)
  clear hk1 hWa hr5 hn5 hc5 hb5 hl5 hrb hbe
  have hc7 : Hid (∀ w', Below w7.heap.size w7 w' → w'.cell? ⟨w.heap.size, 2, none⟩ = some (.slice A n c)) := fun w' h => (Blk.onw hP.out h).cell 2
  go_wp2_with fail
  have s0 : Hid (Below w7.heap.size w7 w7.drew) := (Below.refl _ _).drew
  refine held_start (fun w' => Below w7.heap.size w7 w') 13 rfl (by kernel_rfl) ?_
  refine held_take (i := 0) (v := .slice A4 b.length c4) rfl (by kernel_rfl) (by kernel_rfl) (by kernel_rfl) (fun _ _ _ h => h) s0.out (by rfl) (fun w' hw' => run_mv (.tmp 7) rfl w') ?_
  (intro K hK; go_simp; refine hK _ ?_; clear hK K)
  refine held_take (i := 1) (v := .int .i64 err) rfl (by kernel_rfl) (by kernel_rfl) (by kernel_rfl) (fun _ _ _ h => h) s0.out (by rfl) (fun w' hw' => run_mv (.tmp 8) rfl w') ?_
  (intro K hK; go_simp; refine hK _ ?_; clear hK K)
  refine held_take (i := 2) (v := .slice A5 b5.length c5) rfl (by kernel_rfl) (by kernel_rfl) (by kernel_rfl) (fun _ _ _ h => h) s0.out (by rfl) (fun w' hw' => run_mv (.tmp 9) rfl w') ?_
  (intro K hK; go_simp; refine hK _ ?_; clear hK K)
  refine held_only (i := 3) rfl (by kernel_rfl) (by rfl) (fun K hK => ?_)
  refine wp_fn (R := fun v w'' => v = .bool true ∧ Below w7.heap.size w7 w'') (args := #[.slice A4 b.length c4, .int .i64 err, .slice A5 b5.length c5]) _ _ rfl rfl Try.func11 (by kernel_rfl) (by kernel_rfl) ((hRight.out _ s0.out).mono fun e w'' ⟨he, hb⟩ => ⟨_, he, rfl, s0.out.trans hb⟩) ?_
  rintro qq w8 ⟨rfl, h8⟩
  replace h8 := Lib.hid h8
  go_simp
  refine hK _ _ h8.out ?_
  clear hK K
  refine held_take (i := 4) (v := .bool false) rfl (by kernel_rfl) (by kernel_rfl) (by kernel_rfl) (fun _ _ _ h => h) h8.out (by rfl) (fun w' hw' => by go_simp) ?_
  (intro K hK; go_simp; refine hK _ ?_; clear hK K)
  refine held_take (i := 5) (v := .bool false) rfl (by kernel_rfl) (by kernel_rfl) (by kernel_rfl) (fun _ _ _ h => h) h8.out (by rfl) (fun w' hw' => run_mv (.tmp 36) rfl w') ?_
  (intro K hK; go_simp; refine hK _ ?_; clear hK K)
  refine held_take (i := 6) (v := .slice (some ⟨g, 0, none⟩) (n + 80) (n + 80)) rfl (by kernel_rfl) (by kernel_rfl) (by kernel_rfl) (fun _ _ _ h => h) h8.out (by rfl) (fun w' hw' => run_mv (.tmp 5) rfl w') ?_
  (intro K hK; go_simp; refine hK _ ?_; clear hK K)
  refine held_take (i := 7) (v := .pointer (some ⟨w.heap.size, 2, none⟩)) rfl (by kernel_rfl) (by kernel_rfl) (by kernel_rfl) (fun _ _ _ h => h) h8.out (by rfl) (fun w' hw' => by go_simp) ?_
  (intro K hK; go_simp; refine hK _ ?_; clear hK K)
  refine held_take (i := 8) (v := .slice A n c) rfl (by kernel_rfl) (by kernel_rfl) (by kernel_rfl) (fun _ _ _ h => h) h8.out (by rfl) (fun w' hw' => by have h := hc7.out w' hw'; go_simp) ?_
  (intro K hK; go_simp; refine hK _ ?_; clear hK K)
  refine held_only (i := 9) rfl (by kernel_rfl) (by rfl) (fun K hK => ?_)
  refine wp_fn (R := fun v w'' => v = .agg (cells8 mk0).toArray ∧ Below w7.heap.size w7 w'') (args := #[]) _ _ rfl rfl Try.func8 (by kernel_rfl) (by kernel_rfl) ((hMK.out _).mono fun e w'' ⟨he, hb⟩ => ⟨_, he, rfl, h8.out.trans (hb.mono h8.out.size)⟩) ?_
  rintro qq w9 ⟨rfl, h8b⟩
  replace h8b := Lib.hid h8b
  go_simp
  refine hK _ _ h8b.out ?_
  clear hK K
  refine held_only (i := 10) rfl (by kernel_rfl) (by rfl) (fun K hK => ?_)
  refine wp_fn (R := fun v w'' => v = .bool true ∧ Below w7.heap.size w7 w'') (args := #[.slice (some ⟨g, 0, none⟩) (n + 80) (n + 80), .slice A n c, .agg (cells8 mk0).toArray]) _ _ rfl rfl Try.func12 (by kernel_rfl) (by kernel_rfl) ((hIt.out w9 g (hG.out.below h8b.out) (hb.out.trans (h8b.out.mono hb.out.size))).mono fun e w'' ⟨he, hb⟩ => ⟨_, he, rfl, h8b.out.trans (hb.mono h8b.out.size)⟩) ?_
  rintro qq w10 ⟨rfl, h9⟩
  replace h9 := Lib.hid h9
  go_simp
  refine hK _ _ h9.out ?_
  clear hK K
  refine held_take (i := 11) (v := .bool false) rfl (by kernel_rfl) (by kernel_rfl) (by kernel_rfl) (fun _ _ _ h => h) h9.out (by rfl) (fun w' hw' => by go_simp) ?_
  (intro K hK; go_simp; refine hK _ ?_; clear hK K)
  refine held_take (i := 12) (v := .bool false) rfl (by kernel_rfl) (by kernel_rfl) (by kernel_rfl) (fun _ _ _ h => h) h9.out (by rfl) (fun w' hw' => by go_simp) ?_
  (intro K hK; go_simp; refine hK _ ?_; clear hK K)
  refine held_end (by kernel_rfl) ?_
  go_wp2_with fail
  refine (hRq.out w10 (hb.out.trans (h9.out.mono hb.out.size))).mono ?_
  rintro e w11 ⟨rfl, hk1⟩
  have h11 : Hid (Below w7.heap.size w7 w11) := h9.out.trans (hk1.mono h9.out.size)
  clear hk1
  go_wp2_with fail
  refine (hRw.out w11 h11.out).mono ?_
  rintro e w12 ⟨rfl, hk1⟩
  have hfin : Hid (Below w.heap.size w w12) := hb.out.trans ((h11.out.trans (hk1.mono h11.out.size)).mono hb.out.size)
  go_wp2_with fail
  go_ret
  exact ⟨rfl, hfin.out⟩
end Go.Proofs.Ytaelcgimgomnnaa.ProofConsistencies
