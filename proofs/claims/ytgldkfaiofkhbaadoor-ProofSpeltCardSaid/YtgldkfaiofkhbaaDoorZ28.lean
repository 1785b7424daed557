/-
  Texts of the claim, put into one file: DecCons, ReadCons.
-/
import Derived.Test.YtgldkfaiofkhbaaDoorZ17
import Derived.Test.YtgldkfaiofkhbaaDoorZ27

namespace Go.Proofs.YtgldkfaiofkhbaaDoor.DecCons
open Go Go.RowKit Go.Proofs.YtgldkfaiofkhbaaDoor Go.Proofs.YtgldkfaiofkhbaaDoor.Mem Go.Proofs.YtgldkfaiofkhbaaDoor.Sha Go.Proofs.YtgldkfaiofkhbaaDoor.Bytes Go.Proofs.YtgldkfaiofkhbaaDoor.TreeMath Go.Proofs.YtgldkfaiofkhbaaDoor.Sides Go.Proofs.YtgldkfaiofkhbaaDoor.TreeMem Go.Proofs.YtgldkfaiofkhbaaDoor.TreeRoot Go.Proofs.YtgldkfaiofkhbaaDoor.Held Go.Proofs.YtgldkfaiofkhbaaDoor.Reader Go.Proofs.YtgldkfaiofkhbaaDoor.Reader2 Go.Proofs.YtgldkfaiofkhbaaDoor.Reader3 Go.Proofs.YtgldkfaiofkhbaaDoor.Reader4 Go.Proofs.YtgldkfaiofkhbaaDoor.Ref17 Go.Proofs.YtgldkfaiofkhbaaDoor.Ref17b Go.Proofs.YtgldkfaiofkhbaaDoor.DecIncl Go.Proofs.YtgldkfaiofkhbaaDoor.DecIncl2 Go.Proofs.YtgldkfaiofkhbaaDoor.Subs Go.Proofs.YtgldkfaiofkhbaaDoor.Betw Go.Proofs.YtgldkfaiofkhbaaDoor.BetwRef Go.Proofs.YtgldkfaiofkhbaaDoor.EncCons Go.Proofs.YtgldkfaiofkhbaaDoor.RefCons

/-- What bytes are read as, if they are an inclusion proof. -/
def decCons (q : Text) : Option (Nat × Nat × List Text) :=
  if 17 ≤ q.length ∧ q.getD 0 0 = 49 ∧ joinsB (num ((q.drop 1).take 8)) (num ((q.drop 9).take 8)) = true ∧ q.length = 17 + 32 * (betw (num ((q.drop 1).take 8)) (num ((q.drop 9).take 8)))
  then some (num ((q.drop 1).take 8), num ((q.drop 9).take 8), chunks (q.drop 17) (betw (num ((q.drop 1).take 8)) (num ((q.drop 9).take 8)))) else none
/-- The answer: size, number, way, refusal. -/
def decAnsC (q : Text) : Int × Int × List Text × Int :=
  if 9000 < q.length then (0, 0, [], 170) else match decCons q with
    | none => (0, 0, [], 8)
    | some (s, i, l) => ((s : Int), (i : Int), l, 0)
theorem decAnsC_long {q : Text} (h : 9000 < q.length) : decAnsC q = (0, 0, [], 170) := by unfold decAnsC; rw [if_pos h]
theorem decAnsC_fail {q : Text} (h : ¬ 9000 < q.length) (h2 : ¬ (17 ≤ q.length ∧ q.getD 0 0 = 49 ∧ joinsB (num ((q.drop 1).take 8)) (num ((q.drop 9).take 8)) = true ∧ q.length = 17 + 32 * (betw (num ((q.drop 1).take 8)) (num ((q.drop 9).take 8))))) : decAnsC q = (0, 0, [], 8) := by
  unfold decAnsC decCons
  rw [if_neg h, if_neg h2]
theorem decAnsC_ok {q : Text} (h : ¬ 9000 < q.length) (h2 : 17 ≤ q.length ∧ q.getD 0 0 = 49 ∧ joinsB (num ((q.drop 1).take 8)) (num ((q.drop 9).take 8)) = true ∧ q.length = 17 + 32 * (betw (num ((q.drop 1).take 8)) (num ((q.drop 9).take 8)))) : decAnsC q = ((num ((q.drop 1).take 8) : Int), (num ((q.drop 9).take 8) : Int), chunks (q.drop 17) (betw (num ((q.drop 1).take 8)) (num ((q.drop 9).take 8))), 0) := by
  unfold decAnsC decCons
  rw [if_neg h, if_pos h2]

theorem b8_49 {y : BitVec 8} : b8 y = 49 ↔ y = 49 := by
  constructor
  · intro h
    exact b8_inj (h.trans (show (49 : Int) = b8 49 by rfl))
  · rintro rfl
    rfl
set_option maxRecDepth 100000 in
set_option maxHeartbeats 1000000 in
theorem begunC_long (k : Nat) (h : 9000 < k) (A : Option Addr) (c : Nat) (w : World) :
    Calls Tryd.prog 64 #[.slice A k c, .int .i64 9000, .int .u8 49] w fun e w' => e = .returned (.tuple #[.pointer none, .int .i64 170]) ∧ w = w' := by
  have y1 : (9000 : Int) < (k : Int) := by omega
  clear h
  go_enter Tryd.func64, Tryd.ntmps64
  go_wp2_with fail
  go_ret2
  exact ⟨rfl, rfl⟩
set_option maxRecDepth 100000 in
set_option maxHeartbeats 1000000 in
theorem begunC_yes (q : Text) (k : Nat) (hk : q.length = k) (h9 : ¬ 9000 < k) (h1 : 1 ≤ k) (hy : q.getD 0 0 = 49) (A : Option Addr) (c : Nat) (w : World) (hr : Reads w 1 A k (cells8 q)) (hnil : A = none → k = 0 ∧ c = 0) :
    Calls Tryd.prog 64 #[.slice A k c, .int .i64 9000, .int .u8 49] w fun e w' => ∃ g A' c', e = .returned (.tuple #[.pointer (some ⟨g, 0, none⟩), .int .i64 0]) ∧ w.heap.size ≤ g ∧ Rd w' g q A' c' 1 ∧ Below w.heap.size w w' := by
  have y1 : decide ((9000 : Int) < (k : Int)) = false := decide_eq_false (by omega)
  have y2 : ¬ ((9000 : Int) < (k : Int)) := by omega
  have hR := Lib.hid (read_any q k hk (by omega) A c w hr hnil)
  have hT := Lib.hid (fun g A' c' w' (h : Rd w' g q A' c' 0) => take1_any q (by omega) g 0 A' c' w' h)
  have hq1 : Hid (0 + 1 ≤ q.length) := by show _ ≤ _; omega
  have hyy := Lib.hid hy
  have hw1 : Hid (whyOf (0 + 1) q.length = 0) := if_pos (by omega)
  clear hr hnil hk h9 h1 hy
  go_enter Tryd.func64, Tryd.ntmps64
  go_wp2_with fail
  refine hR.out.mono ?_
  rintro e w1 ⟨g, A', c', rfl, hg, hb, hRd⟩
  replace hg := Lib.hid hg
  replace hb := Lib.hid hb
  replace hRd := Lib.hid hRd
  go_wp2_with fail
  refine (hT.out g A' c' w1 hRd.out).mono ?_
  rintro e w2 ⟨y, rfl, hy2, hR2, hk2⟩
  obtain rfl : y = 49 := (hy2 hq1.out).trans hyy.out
  have hb2 : Hid (Below w.heap.size w w2) := hb.out.trans (Kept.below_of hk2 hg.out hb.out.size)
  have e49 : b8 (49 : BitVec 8) = 49 := rfl
  have hW := Lib.hid (why_any q g (0 + 1) A' c' w2 hR2)
  rw [hw1.out] at hW
  replace hR2 := Lib.hid hR2
  clear hy2 hk2
  rw [e49]
  go_wp2_with (go_at_call 66; refine hW.out.mono ?_; rintro e w3 ⟨rfl, rfl⟩)
  go_ret2
  exact ⟨g, A', c', rfl, hg.out, hR2.out, hb2.out⟩
set_option maxRecDepth 100000 in
set_option maxHeartbeats 1000000 in
theorem begunC_no (q : Text) (k : Nat) (hk : q.length = k) (h9 : ¬ 9000 < k) (hn : ¬ (1 ≤ k ∧ q.getD 0 0 = 49)) (A : Option Addr) (c : Nat) (w : World) (hr : Reads w 1 A k (cells8 q)) (hnil : A = none → k = 0 ∧ c = 0) :
    Calls Tryd.prog 64 #[.slice A k c, .int .i64 9000, .int .u8 49] w fun e w' => e = .returned (.tuple #[.pointer none, .int .i64 8]) ∧ Below w.heap.size w w' := by
  have y1 : decide ((9000 : Int) < (k : Int)) = false := decide_eq_false (by omega)
  have y2 : ¬ ((9000 : Int) < (k : Int)) := by omega
  have hR := Lib.hid (read_any q k hk (by omega) A c w hr hnil)
  have hT := Lib.hid (fun g A' c' w' (h : Rd w' g q A' c' 0) => take1_any q (by omega) g 0 A' c' w' h)
  have hnn := Lib.hid hn
  have hkk := Lib.hid hk
  clear hr hnil hk h9 hn
  go_enter Tryd.func64, Tryd.ntmps64
  go_wp2_with fail
  refine hR.out.mono ?_
  rintro e w1 ⟨g, A', c', rfl, hg, hb, hRd⟩
  replace hg := Lib.hid hg
  replace hb := Lib.hid hb
  replace hRd := Lib.hid hRd
  go_wp2_with fail
  refine (hT.out g A' c' w1 hRd.out).mono ?_
  rintro e w2 ⟨y, rfl, hy2, hR2, hk2⟩
  have hb2 : Hid (Below w.heap.size w w2) := hb.out.trans (Kept.below_of hk2 hg.out hb.out.size)
  by_cases hy : y = 49
  · subst hy
    have hw1 : whyOf (0 + 1) q.length = 8 := if_neg (fun h => hnn.out ⟨by rw [← hkk.out]; omega, (hy2 h).symm⟩)
    have e49 : b8 (49 : BitVec 8) = 49 := rfl
    have hW := Lib.hid (why_any q g (0 + 1) A' c' w2 hR2)
    rw [hw1] at hW
    clear hy2 hk2 hR2 hw1
    rw [e49]
    go_wp2_with (go_at_call 66; refine hW.out.mono ?_; rintro e w3 ⟨rfl, rfl⟩)
    go_ret2
    exact ⟨rfl, hb2.out⟩
  · have z3 : ¬ b8 y = 49 := fun e => hy (b8_49.1 e)
    have z1 : (b8 y == 49) = false := beq_eq_false_iff_ne.2 z3
    have z2 : (b8 y != 49) = true := by rw [bne, z1]; rfl
    clear hy2 hk2 hR2 hy
    go_wp2_with fail
    go_ret2
    exact ⟨rfl, hb2.out⟩
/-- What beside answers, at any numbers. -/
def btNum (size i : Int) : Int := if joinsB size i = true then ((betw size.toNat i.toNat) : Int) else 0
theorem between_all (size i : Int) (w : World) : Calls Tryd.prog 69 #[.int .i64 size, .int .i64 i] w fun e w' => e = .returned (.tuple #[.int .i64 (btNum size i), .bool (joinsB size i)]) ∧ w = w' := by
  unfold btNum
  cases h : joinsB size i with
  | true =>
    have h2 := h
    simp only [joinsB, Bool.and_eq_true, decide_eq_true_eq] at h2
    obtain ⟨sz, rfl⟩ := Int.eq_ofNat_of_zero_le (show 0 ≤ size by omega)
    obtain ⟨j, rfl⟩ := Int.eq_ofNat_of_zero_le (show 0 ≤ i by omega)
    rw [if_pos rfl, Int.toNat_natCast, Int.toNat_natCast]
    exact between_yes sz j (by omega) (by omega) w
  | false =>
    rw [if_neg (by decide)]
    exact between_no size i h w
theorem sizeC : (Tryd.prog.info? 44).map (·.size) = some 3 := by kernel_rfl
/-- What an answer of an inclusion is, in memory. -/
def APostC (w : World) (X : Int × Int × List Text × Int) (e : Ending) (w' : World) : Prop := ∃ A n c, e = .returned (.tuple #[.agg (inclCells X.1 X.2.1 A n c), .int .i64 X.2.2.2]) ∧ RdD w' A n X.2.2.1 ∧ (A = none → n = 0 ∧ c = 0) ∧ n ≤ c ∧ n ≤ 41 ∧ Below w.heap.size w w'

set_option maxRecDepth 100000 in
set_option maxHeartbeats 1000000 in
theorem decC_long (q : Text) (k : Nat) (hk : q.length = k) (h9 : 9000 < k) (A : Option Addr) (c : Nat) (w : World) :
    Calls Tryd.prog 25 #[.slice A k c] w (APostC w (decAnsC q)) := by
  rw [decAnsC_long (by omega)]
  have hT := Lib.hid (fun w' => begunC_long k h9 A c w')
  have hB1 : Hid (Blk (w.alloc (.cells #[Value.int .i64 0, Value.int .i64 0, Value.slice none 0 0] 44)) w.heap.size 44 #[Value.int .i64 0, Value.int .i64 0, Value.slice none 0 0]) := Blk.new w _ _
  have hb1 : Hid (Below w.heap.size w (w.alloc (.cells #[Value.int .i64 0, Value.int .i64 0, Value.slice none 0 0] 44))) := Below.heap_below w _
  clear hk h9
  go_enter Tryd.func25, Tryd.ntmps25
  go_wp2_with (first
    | (go_at_call 64; refine (hT.out _).mono ?_; rintro e w' ⟨rfl, rfl⟩)
    | ((with_reducible change wpList _ _ _ ({ dst := none, op := Op.store 44 _ _, type := _, pos := _, after := _, guard := _ } :: _) _ _); refine wpList_store_row (o := ⟨none, _, _, _, _, _⟩) rfl 44 (.tmp 2) (.tmp 20) rfl (w.heap.size) (#[Value.int .i64 0, Value.int .i64 0, Value.slice none 0 0]) rfl rfl 44 (#[Value.int .i64 0, Value.int .i64 0, Value.slice none 0 0]) hB1.out sizeC rfl (oneI _ _ _ _ _) ?_))
  refine bodyPost_ret (results_cell_row2 rfl _ _ w.heap.size 44 #[Value.int .i64 0, Value.int .i64 0, Value.slice none 0 0] (0, 0) _ rfl (setRow_heap _ _ _ _ _ _ hB1.out) Tryd.underlying44 rfl sizeC) rfl ?_
  exact ⟨none, 0, 0, rfl, RdD.nil_ _ _, fun _ => ⟨rfl, rfl⟩, Nat.le_refl _, by omega, below_setRow hb1.out (Nat.le_refl _) _⟩

set_option maxRecDepth 100000 in
set_option maxHeartbeats 1000000 in
theorem decC_no (q : Text) (k : Nat) (hk : q.length = k) (h9 : ¬ 9000 < k) (hn : ¬ (1 ≤ k ∧ q.getD 0 0 = 49)) (A : Option Addr) (c : Nat) (w : World) (hr : Reads w 1 A k (cells8 q)) (hnil : A = none → k = 0 ∧ c = 0) :
    Calls Tryd.prog 25 #[.slice A k c] w (APostC w (decAnsC q)) := by
  rw [decAnsC_fail (by omega) (fun h => hn ⟨by omega, h.2.1⟩)]
  have hB1 : Hid (Blk (w.alloc (.cells #[Value.int .i64 0, Value.int .i64 0, Value.slice none 0 0] 44)) w.heap.size 44 #[Value.int .i64 0, Value.int .i64 0, Value.slice none 0 0]) := Blk.new w _ _
  have hb1 : Hid (Below w.heap.size w (w.alloc (.cells #[Value.int .i64 0, Value.int .i64 0, Value.slice none 0 0] 44))) := Below.heap_below w _
  have hT := Lib.hid (begunC_no q k hk h9 hn A c (w.alloc (.cells #[Value.int .i64 0, Value.int .i64 0, Value.slice none 0 0] 44)) (hr.alloc _) hnil)
  clear hk h9 hn hr hnil
  go_enter Tryd.func25, Tryd.ntmps25
  go_wp2_with (first
    | (go_at_call 64; refine hT.out.mono ?_; rintro e w2 ⟨rfl, hb⟩; have hB2 : Hid (Blk w2 w.heap.size 44 #[Value.int .i64 0, Value.int .i64 0, Value.slice none 0 0]) := (hb.block _ hB1.out.lt).trans hB1.out; have hb2 : Hid (Below w.heap.size w w2) := hb1.out.trans (hb.mono hb1.out.size); clear hb)
    | ((with_reducible change wpList _ _ _ ({ dst := none, op := Op.store 44 _ _, type := _, pos := _, after := _, guard := _ } :: _) _ _); refine wpList_store_row (o := ⟨none, _, _, _, _, _⟩) rfl 44 (.tmp 2) (.tmp 20) rfl (w.heap.size) (#[Value.int .i64 0, Value.int .i64 0, Value.slice none 0 0]) rfl rfl 44 (#[Value.int .i64 0, Value.int .i64 0, Value.slice none 0 0]) hB2.out sizeC rfl (oneI _ _ _ _ _) ?_))
  refine bodyPost_ret (results_cell_row2 rfl _ _ w.heap.size 44 #[Value.int .i64 0, Value.int .i64 0, Value.slice none 0 0] (0, 0) _ rfl (setRow_heap _ _ _ _ _ _ hB2.out) Tryd.underlying44 rfl sizeC) rfl ?_
  exact ⟨none, 0, 0, rfl, RdD.nil_ _ _, fun _ => ⟨rfl, rfl⟩, Nat.le_refl _, by omega, below_setRow hb2.out (Nat.le_refl _) _⟩

set_option maxRecDepth 100000 in
set_option maxHeartbeats 2000000 in
theorem decC_main (q : Text) (k : Nat) (hk : q.length = k) (h9 : ¬ 9000 < k) (h1 : 1 ≤ k) (hy : q.getD 0 0 = 49) (A : Option Addr) (c : Nat) (w : World) (hr : Reads w 1 A k (cells8 q)) (hnil : A = none → k = 0 ∧ c = 0) :
    Calls Tryd.prog 25 #[.slice A k c] w (APostC w (decAnsC q)) := by
  obtain ⟨X, hX⟩ : ∃ X, Hid (decAnsC q = X) := ⟨_, Lib.hid rfl⟩
  rw [hX.out]
  have hB1 : Hid (Blk (w.alloc (.cells #[Value.int .i64 0, Value.int .i64 0, Value.slice none 0 0] 44)) w.heap.size 44 #[Value.int .i64 0, Value.int .i64 0, Value.slice none 0 0]) := Blk.new w _ _
  have hb1 : Hid (Below w.heap.size w (w.alloc (.cells #[Value.int .i64 0, Value.int .i64 0, Value.slice none 0 0] 44))) := Below.heap_below w _
  have hz1 : Hid ((w.alloc (.cells #[Value.int .i64 0, Value.int .i64 0, Value.slice none 0 0] 44)).heap.size = w.heap.size + 1) := by show _ = _; simp
  have hT := Lib.hid (begunC_yes q k hk h9 h1 hy A c (w.alloc (.cells #[Value.int .i64 0, Value.int .i64 0, Value.slice none 0 0] 44)) (hr.alloc _) hnil)
  have hq47 : Hid (q.length < 140737488355328) := by show _ < _; omega
  have hqk : Hid (¬ 9000 < q.length) := by show ¬ _; omega
  have hyy := Lib.hid hy
  clear hk h9 h1 hy hr hnil
  go_enter Tryd.func25, Tryd.ntmps25
  go_wp2_with fail
  refine hT.out.mono ?_
  rintro e w2 ⟨g, A', c', rfl, hg, hR2, hb⟩
  have hB2 : Hid (Blk w2 w.heap.size 44 #[Value.int .i64 0, Value.int .i64 0, Value.slice none 0 0]) := (hb.block _ hB1.out.lt).trans hB1.out
  have hb2 : Hid (Below w.heap.size w w2) := hb1.out.trans (hb.mono hb1.out.size)
  have hgw : Hid (w.heap.size < g) := by have := hz1.out; show _ < _; omega
  replace hR2 := Lib.hid hR2
  clear hb hg hT hB1 hb1 hz1
  go_wp2_with fail
  refine (ptake_any q hq47.out g 1 A' c' w2 hR2.out).mono ?_
  rintro e w3 ⟨N1, rfl, hN1, hR3, hk3⟩
  replace hN1 := Lib.hid hN1
  have hB3 : Hid (Blk w3 w.heap.size 44 #[Value.int .i64 0, Value.int .i64 0, Value.slice none 0 0]) := hB2.out.kept hk3 (by have := hgw.out; omega)
  have hb3 : Hid (Below w.heap.size w w3) := hb2.out.trans (Kept.below_of hk3 (Nat.le_of_lt hgw.out) hb2.out.size)
  replace hR3 := Lib.hid hR3
  clear hk3
  obtain ⟨f1, hf1⟩ : ∃ f, Hid (decide (N1 ≤ 1099511627776) = f) := ⟨_, Lib.hid rfl⟩
  rw [hf1.out]
  obtain ⟨x1, hx1⟩ : ∃ x, Hid (lgInt N1 = x) := ⟨_, Lib.hid rfl⟩
  rw [hx1.out]
  go_wp2_with fail
  refine (ptake_any q hq47.out g (1 + 8) A' c' w3 hR3.out).mono ?_
  rintro e w4 ⟨N2, rfl, hN2, hR4, hk4⟩
  replace hN2 := Lib.hid hN2
  have hB4 : Hid (Blk w4 w.heap.size 44 #[Value.int .i64 0, Value.int .i64 0, Value.slice none 0 0]) := hB3.out.kept hk4 (by have := hgw.out; omega)
  have hb4 : Hid (Below w.heap.size w w4) := hb3.out.trans (Kept.below_of hk4 (Nat.le_of_lt hgw.out) hb3.out.size)
  replace hR4 : Hid (Rd w4 g q A' c' 17) := hR4
  clear hk4
  obtain ⟨f2, hf2⟩ : ∃ f, Hid (decide (N2 ≤ 1099511627776) = f) := ⟨_, Lib.hid rfl⟩
  rw [hf2.out]
  obtain ⟨x2, hx2⟩ : ∃ x, Hid (lgInt N2 = x) := ⟨_, Lib.hid rfl⟩
  rw [hx2.out]
  have hBs := Lib.hid (between_all x1 x2 w4)
  have hWy := Lib.hid (why_any q g 17 A' c' w4 hR4.out)
  obtain ⟨f3, hf3⟩ : ∃ f, Hid (joinsB x1 x2 = f) := ⟨_, Lib.hid rfl⟩
  rw [hf3.out] at hBs
  have hfail : Hid (¬ (f1 = true ∧ f2 = true ∧ f3 = true ∧ 17 ≤ q.length) → X = (0, 0, [], 8)) := fun hn => by
    rw [← hX.out]
    refine decAnsC_fail hqk.out (fun h => hn ?_)
    obtain ⟨h17, -, hin, -⟩ := h
    have e1 := hN1.out (by omega)
    have e2 := hN2.out (by omega)
    have hin' := hin
    rw [← e1, ← e2] at hin hin'
    simp only [joinsB, Bool.and_eq_true, decide_eq_true_eq] at hin
    refine ⟨by rw [← hf1.out]; exact decide_eq_true (by omega), by rw [← hf2.out]; exact decide_eq_true (by omega), ?_, h17⟩
    rw [← hf3.out, ← hx1.out, ← hx2.out, lgInt_le (by omega), lgInt_le (by omega)]
    exact hin'
  by_cases hall : f1 = true ∧ f2 = true ∧ f3 = true ∧ 17 ≤ q.length
  · obtain ⟨rfl, rfl, rfl, h17⟩ := hall
    clear hfail
    have e1 := hN1.out (by omega)
    have e2 := hN2.out (by omega)
    have l1 := of_decide_eq_true hf1.out
    have l2 := of_decide_eq_true hf2.out
    have hx1' := hx1.out
    have hx2' := hx2.out
    rw [lgInt_le l1] at hx1'
    rw [lgInt_le l2] at hx2'
    subst hx1' hx2'
    have hin := hf3.out
    have hin2 := hin
    simp only [joinsB, Bool.and_eq_true, decide_eq_true_eq] at hin2
    have hn40 : Hid ((betw N1 N2) ≤ 41) := betw_le (by omega) (by omega)
    unfold btNum at hBs
    rw [if_pos hin, Int.toNat_natCast, Int.toNat_natCast] at hBs
    obtain ⟨n, hn⟩ : ∃ n, Hid ((betw N1 N2) = n) := ⟨_, Lib.hid rfl⟩
    rw [hn.out] at hBs hn40
    have hn40' : (n : Int) ≤ 41 := by have := hn40.out; omega
    rw [show whyOf 17 q.length = 0 from if_pos h17] at hWy
    replace h17 := Lib.hid h17
    replace e1 := Lib.hid e1
    replace e2 := Lib.hid e2
    replace hin := Lib.hid hin
    clear l1 l2 hin2 hf1 hf2 hf3 hN1 hN2
    by_cases hfit : 17 + 32 * n ≤ q.length
    · have hDg := Lib.hid (digestsR_yes q hq47.out g 17 n (by have := hn40.out; omega) A' c' w4 hR4.out hfit)
      by_cases hend : q.length = 17 + 32 * n
      · have hDone : Hid (∀ w' , Rd w' g q A' c' (17 + 32 * n) → Calls Tryd.prog 68 #[.pointer (some ⟨g, 0, none⟩)] w' fun e w'' => e = .returned (.int .i64 0) ∧ ∃ m, w'' = w'.drewN m) := fun w' h => by
          have := done_any q hq47.out g (17 + 32 * n) A' c' w' h
          rwa [show doneOf (17 + 32 * n) q.length = 0 from if_pos hend.symm] at this
        have hXX : Hid (X = ((N1 : Int), (N2 : Int), chunks (q.drop 17) n, 0)) := by
          show X = _
          rw [← hX.out, decAnsC_ok hqk.out ⟨h17.out, hyy.out, by rw [← e1.out, ← e2.out]; exact hin.out, by rw [← e1.out, ← e2.out, hn.out]; exact hend⟩, ← e1.out, ← e2.out, hn.out]
        clear hend hfit
        go_wp2_with (first
          | (go_at_call 69; refine hBs.out.mono ?_; rintro e w' ⟨rfl, rfl⟩)
          | (go_at_call 66; refine hWy.out.mono ?_; rintro e w' ⟨rfl, rfl⟩)
          | (go_at_call 67; refine hDg.out.mono ?_; rintro e w5 ⟨gl, rfl, hL5, hgl, hR5, hk5⟩; have hB5 : Hid (Blk w5 w.heap.size 44 #[Value.int .i64 0, Value.int .i64 0, Value.slice none 0 0]) := hB4.out.kept hk5 (by have := hgw.out; omega); have hb5 : Hid (Below w.heap.size w w5) := hb4.out.trans (Kept.below_of hk5 (Nat.le_of_lt hgw.out) hb4.out.size); replace hR5 := Lib.hid hR5; replace hL5 := Lib.hid hL5; clear hk5; have hglw : Hid (w.heap.size < gl) := (by have := hB4.out.lt; show _ < _; omega); clear hgl)
          | ((with_reducible change wpList _ _ _ ({ dst := none, op := Op.store 44 (.tmp 12) _, type := _, pos := _, after := _, guard := _ } :: _) _ _); refine wpList_store_whole (o := ⟨none, _, _, _, _, _⟩) rfl 44 (.tmp 12) (.tmp 59) rfl (w5.heap.size) (#[Value.int .i64 (N1 : Int), Value.int .i64 (N2 : Int), Value.slice (some ⟨gl, 0, none⟩) n n]) rfl rfl 44 (#[Value.int .i64 0, Value.int .i64 0, Value.slice none 0 0]) (Blk.new w5 _ _) sizeC rfl (oneI _ _ _ _ _) ?_; intro w6 hB6 hk6; have hb56 := Lib.hid (kept_fresh hk6); replace hB5 : Hid (Blk w6 w.heap.size 44 #[Value.int .i64 0, Value.int .i64 0, Value.slice none 0 0]) := (hb56.out.block _ hB5.out.lt).trans hB5.out; replace hb5 : Hid (Below w.heap.size w w6) := hb5.out.trans (hb56.out.mono hb5.out.size); replace hR5 := Lib.hid (hR5.out.below hb56.out); replace hL5 := Lib.hid (hL5.out.below hb56.out); replace hB6 := Lib.hid hB6; clear hk6 hb56; generalize w5.heap.size = g12 at *))
        refine (hDone.out _ hR5.out).mono ?_
        rintro e w7 ⟨rfl, m, rfl⟩
        have hB7 : Hid (Blk (w6.drewN m) w.heap.size 44 #[Value.int .i64 0, Value.int .i64 0, Value.slice none 0 0]) := hB5.out.drewN m
        have hB8 : Hid (Blk (w6.drewN m) g12 44 #[Value.int .i64 (N1 : Int), Value.int .i64 (N2 : Int), Value.slice (some ⟨gl, 0, none⟩) n n]) := hB6.out.drewN m
        have hb7 : Hid (Below w.heap.size w (w6.drewN m)) := below_drawn hb5.out m
        have hL7 : Hid (RdD (w6.drewN m) (some ⟨gl, 0, none⟩) n (chunks (q.drop 17) n)) := hL5.out.drewN m
        go_wp2_with (first
          | ((with_reducible change wpList _ _ _ ({ dst := some 64, op := _, type := _, pos := _, after := _, guard := _ } :: _) _ _); refine wpList_load_row (o := ⟨some 64, _, _, _, _, _⟩) rfl 44 (.tmp 12) rfl (g12) rfl 44 (#[Value.int .i64 (N1 : Int), Value.int .i64 (N2 : Int), Value.slice (some ⟨gl, 0, none⟩) n n]) (0, 0) _ hB8.out Tryd.underlying44 rfl sizeC ?_)
          | ((with_reducible change wpList _ _ _ ({ dst := none, op := Op.store 44 _ _, type := _, pos := _, after := _, guard := _ } :: _) _ _); refine wpList_store_row (o := ⟨none, _, _, _, _, _⟩) rfl 44 (.tmp 2) (.tmp 64) rfl (w.heap.size) (#[Value.int .i64 (N1 : Int), Value.int .i64 (N2 : Int), Value.slice (some ⟨gl, 0, none⟩) n n]) rfl rfl 44 (#[Value.int .i64 0, Value.int .i64 0, Value.slice none 0 0]) hB7.out sizeC rfl (oneI _ _ _ _ _) ?_))
        refine bodyPost_ret (results_cell_row2 rfl _ _ w.heap.size 44 #[Value.int .i64 (N1 : Int), Value.int .i64 (N2 : Int), Value.slice (some ⟨gl, 0, none⟩) n n] (0, 0) _ rfl (setRow_heap _ _ _ _ _ _ hB7.out) Tryd.underlying44 rfl sizeC) rfl ?_
        rw [hXX.out]
        have hL9 : RdD ((w6.drewN m).setRow w.heap.size #[Value.int .i64 (N1 : Int), Value.int .i64 (N2 : Int), Value.slice (some ⟨gl, 0, none⟩) n n]) (some ⟨gl, 0, none⟩) n (chunks (q.drop 17) n) := ⟨hL7.out.1, hL7.out.2.1, hL7.out.2.2.kept (Bytes.Kept.setRow (S := (· = w.heap.size)) (Kept.refl _ _) rfl _) (fun b o e h => by injection e with e; injection e with e3 e4; subst e3; have := hglw.out; omega)⟩
        exact ⟨some ⟨gl, 0, none⟩, n, n, rfl, hL9, (fun h => by cases h), Nat.le_refl _, hn40.out, below_setRow hb7.out (Nat.le_refl _) _⟩
      · have hDone : Hid (∀ w' , Rd w' g q A' c' (17 + 32 * n) → Calls Tryd.prog 68 #[.pointer (some ⟨g, 0, none⟩)] w' fun e w'' => e = .returned (.int .i64 8) ∧ ∃ m, w'' = w'.drewN m) := fun w' h => by
          have := done_any q hq47.out g (17 + 32 * n) A' c' w' h
          rwa [show doneOf (17 + 32 * n) q.length = 8 from if_neg (fun e => hend e.symm)] at this
        have hXX : Hid (X = (0, 0, [], 8)) := by
          show X = _
          rw [← hX.out]
          exact decAnsC_fail hqk.out (fun h => hend (by have := h.2.2.2; rw [← e1.out, ← e2.out, hn.out] at this; exact this))
        clear hend hfit
        go_wp2_with (first
          | (go_at_call 69; refine hBs.out.mono ?_; rintro e w' ⟨rfl, rfl⟩)
          | (go_at_call 66; refine hWy.out.mono ?_; rintro e w' ⟨rfl, rfl⟩)
          | (go_at_call 67; refine hDg.out.mono ?_; rintro e w5 ⟨gl, rfl, hL5, hgl, hR5, hk5⟩; have hB5 : Hid (Blk w5 w.heap.size 44 #[Value.int .i64 0, Value.int .i64 0, Value.slice none 0 0]) := hB4.out.kept hk5 (by have := hgw.out; omega); have hb5 : Hid (Below w.heap.size w w5) := hb4.out.trans (Kept.below_of hk5 (Nat.le_of_lt hgw.out) hb4.out.size); replace hR5 := Lib.hid hR5; replace hL5 := Lib.hid hL5; clear hk5 hgl)
          | ((with_reducible change wpList _ _ _ ({ dst := none, op := Op.store 44 (.tmp 12) _, type := _, pos := _, after := _, guard := _ } :: _) _ _); refine wpList_store_whole (o := ⟨none, _, _, _, _, _⟩) rfl 44 (.tmp 12) (.tmp 59) rfl (w5.heap.size) (#[Value.int .i64 (N1 : Int), Value.int .i64 (N2 : Int), Value.slice (some ⟨gl, 0, none⟩) n n]) rfl rfl 44 (#[Value.int .i64 0, Value.int .i64 0, Value.slice none 0 0]) (Blk.new w5 _ _) sizeC rfl (oneI _ _ _ _ _) ?_; intro w6 hB6 hk6; have hb56 := Lib.hid (kept_fresh hk6); replace hB5 : Hid (Blk w6 w.heap.size 44 #[Value.int .i64 0, Value.int .i64 0, Value.slice none 0 0]) := (hb56.out.block _ hB5.out.lt).trans hB5.out; replace hb5 : Hid (Below w.heap.size w w6) := hb5.out.trans (hb56.out.mono hb5.out.size); replace hR5 := Lib.hid (hR5.out.below hb56.out); replace hL5 := Lib.hid (hL5.out.below hb56.out); replace hB6 := Lib.hid hB6; clear hk6 hb56; generalize w5.heap.size = g12 at *))
        refine (hDone.out _ hR5.out).mono ?_
        rintro e w7 ⟨rfl, m, rfl⟩
        have hB7 : Hid (Blk (w6.drewN m) w.heap.size 44 #[Value.int .i64 0, Value.int .i64 0, Value.slice none 0 0]) := hB5.out.drewN m
        have hb7 : Hid (Below w.heap.size w (w6.drewN m)) := below_drawn hb5.out m
        go_wp2_with ((with_reducible change wpList _ _ _ ({ dst := none, op := Op.store 44 _ _, type := _, pos := _, after := _, guard := _ } :: _) _ _); refine wpList_store_row (o := ⟨none, _, _, _, _, _⟩) rfl 44 (.tmp 2) (.tmp 63) rfl (w.heap.size) (#[Value.int .i64 0, Value.int .i64 0, Value.slice none 0 0]) rfl rfl 44 (#[Value.int .i64 0, Value.int .i64 0, Value.slice none 0 0]) hB7.out sizeC rfl (oneI _ _ _ _ _) ?_)
        refine bodyPost_ret (results_cell_row2 rfl _ _ w.heap.size 44 #[Value.int .i64 0, Value.int .i64 0, Value.slice none 0 0] (0, 0) _ rfl (setRow_heap _ _ _ _ _ _ hB7.out) Tryd.underlying44 rfl sizeC) rfl ?_
        rw [hXX.out]
        exact ⟨none, 0, 0, rfl, RdD.nil_ _ _, fun _ => ⟨rfl, rfl⟩, Nat.le_refl _, by omega, below_setRow hb7.out (Nat.le_refl _) _⟩
    · have hDone : Hid (∀ w' , Rd w' g q A' c' (17 + 32 * n) → Calls Tryd.prog 68 #[.pointer (some ⟨g, 0, none⟩)] w' fun e w'' => e = .returned (.int .i64 8) ∧ ∃ m, w'' = w'.drewN m) := fun w' h => by
        have := done_any q hq47.out g (17 + 32 * n) A' c' w' h
        rwa [show doneOf (17 + 32 * n) q.length = 8 from if_neg (fun e => hfit (by omega))] at this
      have hXX : Hid (X = (0, 0, [], 8)) := by
        show X = _
        rw [← hX.out]
        exact decAnsC_fail hqk.out (fun h => hfit (by have := h.2.2.2; rw [← e1.out, ← e2.out, hn.out] at this; omega))
      have hDg : Hid (Calls Tryd.prog 67 #[.pointer (some ⟨g, 0, none⟩), .int .i64 (n : Int)] w4 fun e w' => e = .returned (.slice none 0 0) ∧ Rd w' g q A' c' (17 + 32 * n) ∧ Kept (· = g) w4 w') := digestsR_no q hq47.out g 17 n (by have := hn40.out; omega) A' c' w4 hR4.out h17.out (by omega)
      clear hfit
      go_wp2_with (first
        | (go_at_call 69; refine hBs.out.mono ?_; rintro e w' ⟨rfl, rfl⟩)
        | (go_at_call 66; refine hWy.out.mono ?_; rintro e w' ⟨rfl, rfl⟩)
        | (go_at_call 67; refine hDg.out.mono ?_; rintro e w5 ⟨rfl, hR5, hk5⟩; have hB5 : Hid (Blk w5 w.heap.size 44 #[Value.int .i64 0, Value.int .i64 0, Value.slice none 0 0]) := hB4.out.kept hk5 (by have := hgw.out; omega); have hb5 : Hid (Below w.heap.size w w5) := hb4.out.trans (Kept.below_of hk5 (Nat.le_of_lt hgw.out) hb4.out.size); replace hR5 := Lib.hid hR5; clear hk5)
        | ((with_reducible change wpList _ _ _ ({ dst := none, op := Op.store 44 (.tmp 12) _, type := _, pos := _, after := _, guard := _ } :: _) _ _); refine wpList_store_whole (o := ⟨none, _, _, _, _, _⟩) rfl 44 (.tmp 12) (.tmp 59) rfl (w5.heap.size) (#[Value.int .i64 (N1 : Int), Value.int .i64 (N2 : Int), Value.slice none 0 0]) rfl rfl 44 (#[Value.int .i64 0, Value.int .i64 0, Value.slice none 0 0]) (Blk.new w5 _ _) sizeC rfl (oneI _ _ _ _ _) ?_; intro w6 hB6 hk6; have hb56 := Lib.hid (kept_fresh hk6); replace hB5 : Hid (Blk w6 w.heap.size 44 #[Value.int .i64 0, Value.int .i64 0, Value.slice none 0 0]) := (hb56.out.block _ hB5.out.lt).trans hB5.out; replace hb5 : Hid (Below w.heap.size w w6) := hb5.out.trans (hb56.out.mono hb5.out.size); replace hR5 := Lib.hid (hR5.out.below hb56.out); replace hB6 := Lib.hid hB6; clear hk6 hb56; generalize w5.heap.size = g12 at *))
      refine (hDone.out _ hR5.out).mono ?_
      rintro e w7 ⟨rfl, m, rfl⟩
      have hB7 : Hid (Blk (w6.drewN m) w.heap.size 44 #[Value.int .i64 0, Value.int .i64 0, Value.slice none 0 0]) := hB5.out.drewN m
      have hb7 : Hid (Below w.heap.size w (w6.drewN m)) := below_drawn hb5.out m
      go_wp2_with ((with_reducible change wpList _ _ _ ({ dst := none, op := Op.store 44 _ _, type := _, pos := _, after := _, guard := _ } :: _) _ _); refine wpList_store_row (o := ⟨none, _, _, _, _, _⟩) rfl 44 (.tmp 2) (.tmp 63) rfl (w.heap.size) (#[Value.int .i64 0, Value.int .i64 0, Value.slice none 0 0]) rfl rfl 44 (#[Value.int .i64 0, Value.int .i64 0, Value.slice none 0 0]) hB7.out sizeC rfl (oneI _ _ _ _ _) ?_)
      refine bodyPost_ret (results_cell_row2 rfl _ _ w.heap.size 44 #[Value.int .i64 0, Value.int .i64 0, Value.slice none 0 0] (0, 0) _ rfl (setRow_heap _ _ _ _ _ _ hB7.out) Tryd.underlying44 rfl sizeC) rfl ?_
      rw [hXX.out]
      exact ⟨none, 0, 0, rfl, RdD.nil_ _ _, fun _ => ⟨rfl, rfl⟩, Nat.le_refl _, by omega, below_setRow hb7.out (Nat.le_refl _) _⟩
  · have hXX := Lib.hid (hfail.out hall)
    have hcs : f1 = false ∨ (f1 = true ∧ f2 = false) ∨ (f1 = true ∧ f2 = true ∧ f3 = false) ∨ (f1 = true ∧ f2 = true ∧ f3 = true ∧ q.length < 17) := by
      cases f1 <;> cases f2 <;> cases f3 <;> simp_all <;> omega
    generalize btNum x1 x2 = bn at *
    clear hall hfail hf1 hf2 hf3 hN1 hN2
    rcases hcs with rfl | ⟨rfl, rfl⟩ | ⟨rfl, rfl, rfl⟩ | ⟨rfl, rfl, rfl, hlt⟩
    · go_wp2_with (first
        | (go_at_call 69; refine hBs.out.mono ?_; rintro e w' ⟨rfl, rfl⟩)
        | (go_at_call 66; refine hWy.out.mono ?_; rintro e w' ⟨rfl, rfl⟩)
        | ((with_reducible change wpList _ _ _ ({ dst := none, op := Op.store 44 _ _, type := _, pos := _, after := _, guard := _ } :: _) _ _); refine wpList_store_row (o := ⟨none, _, _, _, _, _⟩) rfl 44 (.tmp 2) (.tmp 53) rfl (w.heap.size) (#[Value.int .i64 0, Value.int .i64 0, Value.slice none 0 0]) rfl rfl 44 (#[Value.int .i64 0, Value.int .i64 0, Value.slice none 0 0]) hB4.out sizeC rfl (oneI _ _ _ _ _) ?_))
      refine bodyPost_ret (results_cell_row2 rfl _ _ w.heap.size 44 #[Value.int .i64 0, Value.int .i64 0, Value.slice none 0 0] (0, 0) _ rfl (setRow_heap _ _ _ _ _ _ hB4.out) Tryd.underlying44 rfl sizeC) rfl ?_
      rw [hXX.out]
      exact ⟨none, 0, 0, rfl, RdD.nil_ _ _, fun _ => ⟨rfl, rfl⟩, Nat.le_refl _, by omega, below_setRow hb4.out (Nat.le_refl _) _⟩
    · go_wp2_with (first
        | (go_at_call 69; refine hBs.out.mono ?_; rintro e w' ⟨rfl, rfl⟩)
        | (go_at_call 66; refine hWy.out.mono ?_; rintro e w' ⟨rfl, rfl⟩)
        | ((with_reducible change wpList _ _ _ ({ dst := none, op := Op.store 44 _ _, type := _, pos := _, after := _, guard := _ } :: _) _ _); refine wpList_store_row (o := ⟨none, _, _, _, _, _⟩) rfl 44 (.tmp 2) (.tmp 53) rfl (w.heap.size) (#[Value.int .i64 0, Value.int .i64 0, Value.slice none 0 0]) rfl rfl 44 (#[Value.int .i64 0, Value.int .i64 0, Value.slice none 0 0]) hB4.out sizeC rfl (oneI _ _ _ _ _) ?_))
      refine bodyPost_ret (results_cell_row2 rfl _ _ w.heap.size 44 #[Value.int .i64 0, Value.int .i64 0, Value.slice none 0 0] (0, 0) _ rfl (setRow_heap _ _ _ _ _ _ hB4.out) Tryd.underlying44 rfl sizeC) rfl ?_
      rw [hXX.out]
      exact ⟨none, 0, 0, rfl, RdD.nil_ _ _, fun _ => ⟨rfl, rfl⟩, Nat.le_refl _, by omega, below_setRow hb4.out (Nat.le_refl _) _⟩
    · go_wp2_with (first
        | (go_at_call 69; refine hBs.out.mono ?_; rintro e w' ⟨rfl, rfl⟩)
        | (go_at_call 66; refine hWy.out.mono ?_; rintro e w' ⟨rfl, rfl⟩)
        | ((with_reducible change wpList _ _ _ ({ dst := none, op := Op.store 44 _ _, type := _, pos := _, after := _, guard := _ } :: _) _ _); refine wpList_store_row (o := ⟨none, _, _, _, _, _⟩) rfl 44 (.tmp 2) (.tmp 53) rfl (w.heap.size) (#[Value.int .i64 0, Value.int .i64 0, Value.slice none 0 0]) rfl rfl 44 (#[Value.int .i64 0, Value.int .i64 0, Value.slice none 0 0]) hB4.out sizeC rfl (oneI _ _ _ _ _) ?_))
      refine bodyPost_ret (results_cell_row2 rfl _ _ w.heap.size 44 #[Value.int .i64 0, Value.int .i64 0, Value.slice none 0 0] (0, 0) _ rfl (setRow_heap _ _ _ _ _ _ hB4.out) Tryd.underlying44 rfl sizeC) rfl ?_
      rw [hXX.out]
      exact ⟨none, 0, 0, rfl, RdD.nil_ _ _, fun _ => ⟨rfl, rfl⟩, Nat.le_refl _, by omega, below_setRow hb4.out (Nat.le_refl _) _⟩
    · rw [show whyOf 17 q.length = 8 from if_neg (by omega)] at hWy
      clear hlt
      go_wp2_with (first
        | (go_at_call 69; refine hBs.out.mono ?_; rintro e w' ⟨rfl, rfl⟩)
        | (go_at_call 66; refine hWy.out.mono ?_; rintro e w' ⟨rfl, rfl⟩)
        | ((with_reducible change wpList _ _ _ ({ dst := none, op := Op.store 44 _ _, type := _, pos := _, after := _, guard := _ } :: _) _ _); refine wpList_store_row (o := ⟨none, _, _, _, _, _⟩) rfl 44 (.tmp 2) (.tmp 53) rfl (w.heap.size) (#[Value.int .i64 0, Value.int .i64 0, Value.slice none 0 0]) rfl rfl 44 (#[Value.int .i64 0, Value.int .i64 0, Value.slice none 0 0]) hB4.out sizeC rfl (oneI _ _ _ _ _) ?_))
      refine bodyPost_ret (results_cell_row2 rfl _ _ w.heap.size 44 #[Value.int .i64 0, Value.int .i64 0, Value.slice none 0 0] (0, 0) _ rfl (setRow_heap _ _ _ _ _ _ hB4.out) Tryd.underlying44 rfl sizeC) rfl ?_
      rw [hXX.out]
      exact ⟨none, 0, 0, rfl, RdD.nil_ _ _, fun _ => ⟨rfl, rfl⟩, Nat.le_refl _, by omega, below_setRow hb4.out (Nat.le_refl _) _⟩
theorem decodeConsistency_any (q : Text) (k : Nat) (hk : q.length = k) (A : Option Addr) (c : Nat) (w : World) (hr : Reads w 1 A k (cells8 q)) (hnil : A = none → k = 0 ∧ c = 0) :
    Calls Tryd.prog 25 #[.slice A k c] w (APostC w (decAnsC q)) := by
  by_cases h9 : 9000 < k
  · exact decC_long q k hk h9 A c w
  · by_cases h1 : 1 ≤ k ∧ q.getD 0 0 = 49
    · exact decC_main q k hk h9 h1.1 h1.2 A c w hr hnil
    · exact decC_no q k hk h9 h1 A c w hr hnil
end Go.Proofs.YtgldkfaiofkhbaaDoor.DecCons

namespace Go.Proofs.YtgldkfaiofkhbaaDoor.ReadCons
open Go Go.RowKit Go.Proofs.YtgldkfaiofkhbaaDoor Go.Proofs.YtgldkfaiofkhbaaDoor.Mem Go.Proofs.YtgldkfaiofkhbaaDoor.Sha Go.Proofs.YtgldkfaiofkhbaaDoor.Bytes Go.Proofs.YtgldkfaiofkhbaaDoor.Append Go.Proofs.YtgldkfaiofkhbaaDoor.Octet Go.Proofs.YtgldkfaiofkhbaaDoor.TreeMath Go.Proofs.YtgldkfaiofkhbaaDoor.Sides Go.Proofs.YtgldkfaiofkhbaaDoor.TreeMem Go.Proofs.YtgldkfaiofkhbaaDoor.TreeRoot Go.Proofs.YtgldkfaiofkhbaaDoor.Held Go.Proofs.YtgldkfaiofkhbaaDoor.Own Go.Proofs.YtgldkfaiofkhbaaDoor.Guard Go.Proofs.YtgldkfaiofkhbaaDoor.Reader Go.Proofs.YtgldkfaiofkhbaaDoor.Reader4 Go.Proofs.YtgldkfaiofkhbaaDoor.ProofEnc Go.Proofs.YtgldkfaiofkhbaaDoor.Ref17 Go.Proofs.YtgldkfaiofkhbaaDoor.Ref17b Go.Proofs.YtgldkfaiofkhbaaDoor.DecIncl Go.Proofs.YtgldkfaiofkhbaaDoor.DecIncl2 Go.Proofs.YtgldkfaiofkhbaaDoor.Bytes17 Go.Proofs.YtgldkfaiofkhbaaDoor.Way17 Go.Proofs.YtgldkfaiofkhbaaDoor.Same17 Go.Proofs.YtgldkfaiofkhbaaDoor.ReadIncl Go.Proofs.YtgldkfaiofkhbaaDoor.ReadIncl2 Go.Proofs.YtgldkfaiofkhbaaDoor.Subs Go.Proofs.YtgldkfaiofkhbaaDoor.Betw Go.Proofs.YtgldkfaiofkhbaaDoor.BetwRef Go.Proofs.YtgldkfaiofkhbaaDoor.EncCons Go.Proofs.YtgldkfaiofkhbaaDoor.RefCons Go.Proofs.YtgldkfaiofkhbaaDoor.DecCons Go.Proofs.YtgldkfaiofkhbaaDoor.EncConsAny

end Go.Proofs.YtgldkfaiofkhbaaDoor.ReadCons
