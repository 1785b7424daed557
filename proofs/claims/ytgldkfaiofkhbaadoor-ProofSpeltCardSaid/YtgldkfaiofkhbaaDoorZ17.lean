/-
  Texts of the claim, put into one file: DecIncl, DecIncl2, Bytes17, Way17, ReadIncl, ReadIncl2, Law17a, PieceB, DecIdx0, DecPiece0.
-/
import Derived.Test.YtgldkfaiofkhbaaDoorZ16
import Derived.Test.YtgldkfaiofkhbaaDoorZ15
import Derived.Test.YtgldkfaiofkhbaaDoorZ6
import Derived.Test.YtgldkfaiofkhbaaDoorZ11
import Derived.Test.YtgldkfaiofkhbaaDoorZ8
import Derived.WalkSpells
import Derived.Test.YtgldkfaiofkhbaaDoorZ13

namespace Go.Proofs.YtgldkfaiofkhbaaDoor.DecIncl
open Go Go.RowKit Go.Proofs.YtgldkfaiofkhbaaDoor Go.Proofs.YtgldkfaiofkhbaaDoor.Mem Go.Proofs.YtgldkfaiofkhbaaDoor.Sha Go.Proofs.YtgldkfaiofkhbaaDoor.Bytes Go.Proofs.YtgldkfaiofkhbaaDoor.TreeMath Go.Proofs.YtgldkfaiofkhbaaDoor.Sides Go.Proofs.YtgldkfaiofkhbaaDoor.TreeMem Go.Proofs.YtgldkfaiofkhbaaDoor.TreeRoot Go.Proofs.YtgldkfaiofkhbaaDoor.Held Go.Proofs.YtgldkfaiofkhbaaDoor.Reader Go.Proofs.YtgldkfaiofkhbaaDoor.Reader2 Go.Proofs.YtgldkfaiofkhbaaDoor.Reader3 Go.Proofs.YtgldkfaiofkhbaaDoor.Reader4 Go.Proofs.YtgldkfaiofkhbaaDoor.ProofBeside Go.Proofs.YtgldkfaiofkhbaaDoor.Beside17 Go.Proofs.YtgldkfaiofkhbaaDoor.Ref17 Go.Proofs.YtgldkfaiofkhbaaDoor.Ref17b

/-- What bytes are read as, if they are an inclusion proof. -/
def decIncl (q : Text) : Option (Nat × Nat × List Text) :=
  if 17 ≤ q.length ∧ q.getD 0 0 = 48 ∧ insideB (num ((q.drop 1).take 8)) (num ((q.drop 9).take 8)) = true ∧ q.length = 17 + 32 * (sides (num ((q.drop 1).take 8)) (num ((q.drop 9).take 8))).length
  then some (num ((q.drop 1).take 8), num ((q.drop 9).take 8), chunks (q.drop 17) (sides (num ((q.drop 1).take 8)) (num ((q.drop 9).take 8))).length) else none
/-- The answer: size, number, way, refusal. -/
def decAns (q : Text) : Int × Int × List Text × Int :=
  if 9000 < q.length then (0, 0, [], 170) else match decIncl q with
    | none => (0, 0, [], 8)
    | some (s, i, l) => ((s : Int), (i : Int), l, 0)
theorem decAns_long {q : Text} (h : 9000 < q.length) : decAns q = (0, 0, [], 170) := by unfold decAns; rw [if_pos h]
theorem decAns_fail {q : Text} (h : ¬ 9000 < q.length) (h2 : ¬ (17 ≤ q.length ∧ q.getD 0 0 = 48 ∧ insideB (num ((q.drop 1).take 8)) (num ((q.drop 9).take 8)) = true ∧ q.length = 17 + 32 * (sides (num ((q.drop 1).take 8)) (num ((q.drop 9).take 8))).length)) : decAns q = (0, 0, [], 8) := by
  unfold decAns decIncl
  rw [if_neg h, if_neg h2]
theorem decAns_ok {q : Text} (h : ¬ 9000 < q.length) (h2 : 17 ≤ q.length ∧ q.getD 0 0 = 48 ∧ insideB (num ((q.drop 1).take 8)) (num ((q.drop 9).take 8)) = true ∧ q.length = 17 + 32 * (sides (num ((q.drop 1).take 8)) (num ((q.drop 9).take 8))).length) : decAns q = ((num ((q.drop 1).take 8) : Int), (num ((q.drop 9).take 8) : Int), chunks (q.drop 17) (sides (num ((q.drop 1).take 8)) (num ((q.drop 9).take 8))).length, 0) := by
  unfold decAns decIncl
  rw [if_neg h, if_pos h2]

/-- A taken number, as an int: what is above the log's bound may be anything. -/
def lgInt (N : Nat) : Int := wrap64 (N : Int)
theorem lgInt_le {N : Nat} (h : N ≤ 1099511627776) : lgInt N = (N : Int) := IntWalk.wrap64_in _ (by omega)
theorem ret2b {a a' : Int} {b b' : Bool} (h1 : a = a') (h2 : b = b') : Ending.returned (.tuple #[.int .i64 a, .bool b]) = .returned (.tuple #[.int .i64 a', .bool b']) := by rw [h1, h2]
set_option maxRecDepth 100000 in
set_option maxHeartbeats 1000000 in
theorem ptake_any (q : Text) (hq : q.length < 140737488355328) (g need : Nat) (A : Option Addr) (c : Nat) (w : World) (h : Rd w g q A c need) :
    Calls Tryd.prog 65 #[.pointer (some ⟨g, 0, none⟩)] w fun e w' => ∃ N : Nat, e = .returned (.tuple #[.int .i64 (lgInt N), .bool (decide (N ≤ 1099511627776))]) ∧ (need + 8 ≤ q.length → N = num ((q.drop need).take 8)) ∧ Rd w' g q A c (need + 8) ∧ Kept (· = g) w w' := by
  have hT := Lib.hid (take8_any q hq g need A c w h)
  clear h hq
  go_enter Tryd.func65, Tryd.ntmps65
  go_wp2_with fail
  refine hT.out.mono ?_
  rintro e w1 ⟨N, rfl, hN, hnum, hR, hk⟩
  replace hR := Lib.hid hR
  replace hk := Lib.hid hk
  replace hnum := Lib.hid hnum
  have e2 : decide ((N : Int) ≤ 1099511627776) = decide (N ≤ 1099511627776) := by
    by_cases h : N ≤ 1099511627776
    · rw [decide_eq_true h]; exact decide_eq_true (by omega)
    · rw [decide_eq_false h]; exact decide_eq_false (by omega)
  go_wp2_with fail
  go_ret2
  exact ⟨N, ret2b rfl (by first | rfl | exact e2 | trace_state), hnum.out, hR.out, hk.out⟩

theorem b8_48 {y : BitVec 8} : b8 y = 48 ↔ y = 48 := by
  constructor
  · intro h
    exact b8_inj (h.trans (show (48 : Int) = b8 48 by rfl))
  · rintro rfl
    rfl
set_option maxRecDepth 100000 in
set_option maxHeartbeats 1000000 in
theorem begun_long (k : Nat) (h : 9000 < k) (A : Option Addr) (c : Nat) (w : World) :
    Calls Tryd.prog 64 #[.slice A k c, .int .i64 9000, .int .u8 48] w fun e w' => e = .returned (.tuple #[.pointer none, .int .i64 170]) ∧ w = w' := by
  have y1 : (9000 : Int) < (k : Int) := by omega
  clear h
  go_enter Tryd.func64, Tryd.ntmps64
  go_wp2_with fail
  go_ret2
  exact ⟨rfl, rfl⟩
set_option maxRecDepth 100000 in
set_option maxHeartbeats 1000000 in
theorem begun_yes (q : Text) (k : Nat) (hk : q.length = k) (h9 : ¬ 9000 < k) (h1 : 1 ≤ k) (hy : q.getD 0 0 = 48) (A : Option Addr) (c : Nat) (w : World) (hr : Reads w 1 A k (cells8 q)) (hnil : A = none → k = 0 ∧ c = 0) :
    Calls Tryd.prog 64 #[.slice A k c, .int .i64 9000, .int .u8 48] w fun e w' => ∃ g A' c', e = .returned (.tuple #[.pointer (some ⟨g, 0, none⟩), .int .i64 0]) ∧ w.heap.size ≤ g ∧ Rd w' g q A' c' 1 ∧ Below w.heap.size w w' := by
  have y1 : decide ((9000 : Int) < (k : Int)) = false := decide_eq_false (by omega)
  have y2 : ¬ ((9000 : Int) < (k : Int)) := by omega
  have hR := Lib.hid (read_any q k hk (by omega) A c w hr hnil)
  have hT := Lib.hid (fun g A' c' w' (h : Rd w' g q A' c' 0) => take1_any q (by omega) g 0 A' c' w' h)
  have hq1 : Hid (0 + 1 ≤ q.length) := by show _ ≤ _; omega
  have hyy := Lib.hid hy
  have hw1 : Hid (whyOf (0 + 1) q.length = 0) := if_pos (by omega)
  clear hr hnil hk h9 h1 hy
  go_enter Tryd.func64, Tryd.ntmps64
  go_wp2_with fail
  refine hR.out.mono ?_
  rintro e w1 ⟨g, A', c', rfl, hg, hb, hRd⟩
  replace hg := Lib.hid hg
  replace hb := Lib.hid hb
  replace hRd := Lib.hid hRd
  go_wp2_with fail
  refine (hT.out g A' c' w1 hRd.out).mono ?_
  rintro e w2 ⟨y, rfl, hy2, hR2, hk2⟩
  obtain rfl : y = 48 := (hy2 hq1.out).trans hyy.out
  have hb2 : Hid (Below w.heap.size w w2) := hb.out.trans (Kept.below_of hk2 hg.out hb.out.size)
  have e48 : b8 (48 : BitVec 8) = 48 := rfl
  have hW := Lib.hid (why_any q g (0 + 1) A' c' w2 hR2)
  rw [hw1.out] at hW
  replace hR2 := Lib.hid hR2
  clear hy2 hk2
  rw [e48]
  go_wp2_with (go_at_call 66; refine hW.out.mono ?_; rintro e w3 ⟨rfl, rfl⟩)
  go_ret2
  exact ⟨g, A', c', rfl, hg.out, hR2.out, hb2.out⟩
set_option maxRecDepth 100000 in
set_option maxHeartbeats 1000000 in
theorem begun_no (q : Text) (k : Nat) (hk : q.length = k) (h9 : ¬ 9000 < k) (hn : ¬ (1 ≤ k ∧ q.getD 0 0 = 48)) (A : Option Addr) (c : Nat) (w : World) (hr : Reads w 1 A k (cells8 q)) (hnil : A = none → k = 0 ∧ c = 0) :
    Calls Tryd.prog 64 #[.slice A k c, .int .i64 9000, .int .u8 48] w fun e w' => e = .returned (.tuple #[.pointer none, .int .i64 8]) ∧ Below w.heap.size w w' := by
  have y1 : decide ((9000 : Int) < (k : Int)) = false := decide_eq_false (by omega)
  have y2 : ¬ ((9000 : Int) < (k : Int)) := by omega
  have hR := Lib.hid (read_any q k hk (by omega) A c w hr hnil)
  have hT := Lib.hid (fun g A' c' w' (h : Rd w' g q A' c' 0) => take1_any q (by omega) g 0 A' c' w' h)
  have hnn := Lib.hid hn
  have hkk := Lib.hid hk
  clear hr hnil hk h9 hn
  go_enter Tryd.func64, Tryd.ntmps64
  go_wp2_with fail
  refine hR.out.mono ?_
  rintro e w1 ⟨g, A', c', rfl, hg, hb, hRd⟩
  replace hg := Lib.hid hg
  replace hb := Lib.hid hb
  replace hRd := Lib.hid hRd
  go_wp2_with fail
  refine (hT.out g A' c' w1 hRd.out).mono ?_
  rintro e w2 ⟨y, rfl, hy2, hR2, hk2⟩
  have hb2 : Hid (Below w.heap.size w w2) := hb.out.trans (Kept.below_of hk2 hg.out hb.out.size)
  by_cases hy : y = 48
  · subst hy
    have hw1 : whyOf (0 + 1) q.length = 8 := if_neg (fun h => hnn.out ⟨by rw [← hkk.out]; omega, (hy2 h).symm⟩)
    have e48 : b8 (48 : BitVec 8) = 48 := rfl
    have hW := Lib.hid (why_any q g (0 + 1) A' c' w2 hR2)
    rw [hw1] at hW
    clear hy2 hk2 hR2 hw1
    rw [e48]
    go_wp2_with (go_at_call 66; refine hW.out.mono ?_; rintro e w3 ⟨rfl, rfl⟩)
    go_ret2
    exact ⟨rfl, hb2.out⟩
  · have z3 : ¬ b8 y = 48 := fun e => hy (b8_48.1 e)
    have z1 : (b8 y == 48) = false := beq_eq_false_iff_ne.2 z3
    have z2 : (b8 y != 48) = true := by rw [bne, z1]; rfl
    clear hy2 hk2 hR2 hy
    go_wp2_with fail
    go_ret2
    exact ⟨rfl, hb2.out⟩
/-- What beside answers, at any numbers. -/
def bsNum (size i : Int) : Int := if insideB size i = true then ((sides size.toNat i.toNat).length : Int) else 0
theorem beside_all (size i : Int) (w : World) : Calls Tryd.prog 56 #[.int .i64 size, .int .i64 i] w fun e w' => e = .returned (.tuple #[.int .i64 (bsNum size i), .bool (insideB size i)]) ∧ w = w' := by
  unfold bsNum
  cases h : insideB size i with
  | true =>
    have h2 := h
    simp only [insideB, Bool.and_eq_true, decide_eq_true_eq] at h2
    obtain ⟨sz, rfl⟩ := Int.eq_ofNat_of_zero_le (show 0 ≤ size by omega)
    obtain ⟨j, rfl⟩ := Int.eq_ofNat_of_zero_le h2.1.2
    rw [if_pos rfl, Int.toNat_natCast, Int.toNat_natCast, ← beside_sides (show j < sz by omega)]
    exact beside_yes sz j (by omega) (by omega) w
  | false =>
    rw [if_neg (by decide)]
    exact beside_no size i h w
end Go.Proofs.YtgldkfaiofkhbaaDoor.DecIncl

namespace Go.Proofs.YtgldkfaiofkhbaaDoor.DecIncl2
open Go Go.RowKit Go.Proofs.YtgldkfaiofkhbaaDoor Go.Proofs.YtgldkfaiofkhbaaDoor.Mem Go.Proofs.YtgldkfaiofkhbaaDoor.Sha Go.Proofs.YtgldkfaiofkhbaaDoor.Bytes Go.Proofs.YtgldkfaiofkhbaaDoor.TreeMath Go.Proofs.YtgldkfaiofkhbaaDoor.Sides Go.Proofs.YtgldkfaiofkhbaaDoor.TreeMem Go.Proofs.YtgldkfaiofkhbaaDoor.TreeRoot Go.Proofs.YtgldkfaiofkhbaaDoor.Held Go.Proofs.YtgldkfaiofkhbaaDoor.Reader Go.Proofs.YtgldkfaiofkhbaaDoor.Reader2 Go.Proofs.YtgldkfaiofkhbaaDoor.Reader3 Go.Proofs.YtgldkfaiofkhbaaDoor.Reader4 Go.Proofs.YtgldkfaiofkhbaaDoor.ProofBeside Go.Proofs.YtgldkfaiofkhbaaDoor.Beside17 Go.Proofs.YtgldkfaiofkhbaaDoor.Ref17 Go.Proofs.YtgldkfaiofkhbaaDoor.Ref17b Go.Proofs.YtgldkfaiofkhbaaDoor.DecIncl

theorem results_cell_row2 {P : Program} {fn : Func} {p u : Tmp} {ty : TypeId} (h : fn.results = #[.cell p ty, .tmp u]) (tmps : Array Value) (w : World) (g : Nat) (t : TypeId) (cs : Array Value) (fr : Nat × Nat) (d : TypeDesc)
    (hp : tmps.getD p undef = .pointer (some ⟨g, 0, none⟩)) (hg : w.heap[g]? = some (.cells cs t fr))
    (hu : P.underlying ty = some d) (hd : (match d with | .struct _ | .array _ _ => true | _ => false) = true) (hi : (P.info? ty).map (·.size) = some cs.size) :
    (results fn tmps).run P w = .ok (.tuple #[.agg cs, tmps.getD u undef]) w := by
  have hp' : tmps[p]?.getD undef = .pointer (some ⟨g, 0, none⟩) := by simpa using hp
  simp [results, h, hp', asAddr, run_loadVar_row w g t ty cs fr d hg hu hd hi, Result.andThen]
theorem sizeI : (Tryd.prog.info? 51).map (·.size) = some 3 := by kernel_rfl
theorem oneI (x y : Int) (A : Option Addr) (n c : Nat) : ((#[Value.int .i64 x, Value.int .i64 y, Value.slice A n c] : Array Value).all fun v => v.oneCell') = true := by rw [List.all_toArray]; rfl
/-- What an answer of an inclusion is, in memory. -/
def APost (w : World) (X : Int × Int × List Text × Int) (e : Ending) (w' : World) : Prop := ∃ A n c, e = .returned (.tuple #[.agg (inclCells X.1 X.2.1 A n c), .int .i64 X.2.2.2]) ∧ RdD w' A n X.2.2.1 ∧ (A = none → n = 0 ∧ c = 0) ∧ n ≤ c ∧ n ≤ 40 ∧ Below w.heap.size w w'

set_option maxRecDepth 100000 in
set_option maxHeartbeats 1000000 in
theorem dec_long (q : Text) (k : Nat) (hk : q.length = k) (h9 : 9000 < k) (A : Option Addr) (c : Nat) (w : World) :
    Calls Tryd.prog 20 #[.slice A k c] w (APost w (decAns q)) := by
  rw [decAns_long (by omega)]
  have hT := Lib.hid (fun w' => begun_long k h9 A c w')
  have hB1 : Hid (Blk (w.alloc (.cells #[Value.int .i64 0, Value.int .i64 0, Value.slice none 0 0] 51)) w.heap.size 51 #[Value.int .i64 0, Value.int .i64 0, Value.slice none 0 0]) := Blk.new w _ _
  have hb1 : Hid (Below w.heap.size w (w.alloc (.cells #[Value.int .i64 0, Value.int .i64 0, Value.slice none 0 0] 51))) := Below.heap_below w _
  clear hk h9
  go_enter Tryd.func20, Tryd.ntmps20
  go_wp2_with (first
    | (go_at_call 64; refine (hT.out _).mono ?_; rintro e w' ⟨rfl, rfl⟩)
    | ((with_reducible change wpList _ _ _ ({ dst := none, op := Op.store 51 _ _, type := _, pos := _, after := _, guard := _ } :: _) _ _); refine wpList_store_row (o := ⟨none, _, _, _, _, _⟩) rfl 51 (.tmp 2) (.tmp 20) rfl (w.heap.size) (#[Value.int .i64 0, Value.int .i64 0, Value.slice none 0 0]) rfl rfl 51 (#[Value.int .i64 0, Value.int .i64 0, Value.slice none 0 0]) hB1.out sizeI rfl (oneI _ _ _ _ _) ?_))
  refine bodyPost_ret (results_cell_row2 rfl _ _ w.heap.size 51 #[Value.int .i64 0, Value.int .i64 0, Value.slice none 0 0] (0, 0) _ rfl (setRow_heap _ _ _ _ _ _ hB1.out) Tryd.underlying51 rfl sizeI) rfl ?_
  exact ⟨none, 0, 0, rfl, RdD.nil_ _ _, fun _ => ⟨rfl, rfl⟩, Nat.le_refl _, by omega, below_setRow hb1.out (Nat.le_refl _) _⟩

set_option maxRecDepth 100000 in
set_option maxHeartbeats 1000000 in
theorem dec_no (q : Text) (k : Nat) (hk : q.length = k) (h9 : ¬ 9000 < k) (hn : ¬ (1 ≤ k ∧ q.getD 0 0 = 48)) (A : Option Addr) (c : Nat) (w : World) (hr : Reads w 1 A k (cells8 q)) (hnil : A = none → k = 0 ∧ c = 0) :
    Calls Tryd.prog 20 #[.slice A k c] w (APost w (decAns q)) := by
  rw [decAns_fail (by omega) (fun h => hn ⟨by omega, h.2.1⟩)]
  have hB1 : Hid (Blk (w.alloc (.cells #[Value.int .i64 0, Value.int .i64 0, Value.slice none 0 0] 51)) w.heap.size 51 #[Value.int .i64 0, Value.int .i64 0, Value.slice none 0 0]) := Blk.new w _ _
  have hb1 : Hid (Below w.heap.size w (w.alloc (.cells #[Value.int .i64 0, Value.int .i64 0, Value.slice none 0 0] 51))) := Below.heap_below w _
  have hT := Lib.hid (begun_no q k hk h9 hn A c (w.alloc (.cells #[Value.int .i64 0, Value.int .i64 0, Value.slice none 0 0] 51)) (hr.alloc _) hnil)
  clear hk h9 hn hr hnil
  go_enter Tryd.func20, Tryd.ntmps20
  go_wp2_with (first
    | (go_at_call 64; refine hT.out.mono ?_; rintro e w2 ⟨rfl, hb⟩; have hB2 : Hid (Blk w2 w.heap.size 51 #[Value.int .i64 0, Value.int .i64 0, Value.slice none 0 0]) := (hb.block _ hB1.out.lt).trans hB1.out; have hb2 : Hid (Below w.heap.size w w2) := hb1.out.trans (hb.mono hb1.out.size); clear hb)
    | ((with_reducible change wpList _ _ _ ({ dst := none, op := Op.store 51 _ _, type := _, pos := _, after := _, guard := _ } :: _) _ _); refine wpList_store_row (o := ⟨none, _, _, _, _, _⟩) rfl 51 (.tmp 2) (.tmp 20) rfl (w.heap.size) (#[Value.int .i64 0, Value.int .i64 0, Value.slice none 0 0]) rfl rfl 51 (#[Value.int .i64 0, Value.int .i64 0, Value.slice none 0 0]) hB2.out sizeI rfl (oneI _ _ _ _ _) ?_))
  refine bodyPost_ret (results_cell_row2 rfl _ _ w.heap.size 51 #[Value.int .i64 0, Value.int .i64 0, Value.slice none 0 0] (0, 0) _ rfl (setRow_heap _ _ _ _ _ _ hB2.out) Tryd.underlying51 rfl sizeI) rfl ?_
  exact ⟨none, 0, 0, rfl, RdD.nil_ _ _, fun _ => ⟨rfl, rfl⟩, Nat.le_refl _, by omega, below_setRow hb2.out (Nat.le_refl _) _⟩

set_option maxRecDepth 100000 in
set_option maxHeartbeats 2000000 in
theorem dec_main (q : Text) (k : Nat) (hk : q.length = k) (h9 : ¬ 9000 < k) (h1 : 1 ≤ k) (hy : q.getD 0 0 = 48) (A : Option Addr) (c : Nat) (w : World) (hr : Reads w 1 A k (cells8 q)) (hnil : A = none → k = 0 ∧ c = 0) :
    Calls Tryd.prog 20 #[.slice A k c] w (APost w (decAns q)) := by
  obtain ⟨X, hX⟩ : ∃ X, Hid (decAns q = X) := ⟨_, Lib.hid rfl⟩
  rw [hX.out]
  have hB1 : Hid (Blk (w.alloc (.cells #[Value.int .i64 0, Value.int .i64 0, Value.slice none 0 0] 51)) w.heap.size 51 #[Value.int .i64 0, Value.int .i64 0, Value.slice none 0 0]) := Blk.new w _ _
  have hb1 : Hid (Below w.heap.size w (w.alloc (.cells #[Value.int .i64 0, Value.int .i64 0, Value.slice none 0 0] 51))) := Below.heap_below w _
  have hz1 : Hid ((w.alloc (.cells #[Value.int .i64 0, Value.int .i64 0, Value.slice none 0 0] 51)).heap.size = w.heap.size + 1) := by show _ = _; simp
  have hT := Lib.hid (begun_yes q k hk h9 h1 hy A c (w.alloc (.cells #[Value.int .i64 0, Value.int .i64 0, Value.slice none 0 0] 51)) (hr.alloc _) hnil)
  have hq47 : Hid (q.length < 140737488355328) := by show _ < _; omega
  have hqk : Hid (¬ 9000 < q.length) := by show ¬ _; omega
  have hyy := Lib.hid hy
  clear hk h9 h1 hy hr hnil
  go_enter Tryd.func20, Tryd.ntmps20
  go_wp2_with fail
  refine hT.out.mono ?_
  rintro e w2 ⟨g, A', c', rfl, hg, hR2, hb⟩
  have hB2 : Hid (Blk w2 w.heap.size 51 #[Value.int .i64 0, Value.int .i64 0, Value.slice none 0 0]) := (hb.block _ hB1.out.lt).trans hB1.out
  have hb2 : Hid (Below w.heap.size w w2) := hb1.out.trans (hb.mono hb1.out.size)
  have hgw : Hid (w.heap.size < g) := by have := hz1.out; show _ < _; omega
  replace hR2 := Lib.hid hR2
  clear hb hg hT hB1 hb1 hz1
  go_wp2_with fail
  refine (ptake_any q hq47.out g 1 A' c' w2 hR2.out).mono ?_
  rintro e w3 ⟨N1, rfl, hN1, hR3, hk3⟩
  replace hN1 := Lib.hid hN1
  have hB3 : Hid (Blk w3 w.heap.size 51 #[Value.int .i64 0, Value.int .i64 0, Value.slice none 0 0]) := hB2.out.kept hk3 (by have := hgw.out; omega)
  have hb3 : Hid (Below w.heap.size w w3) := hb2.out.trans (Kept.below_of hk3 (Nat.le_of_lt hgw.out) hb2.out.size)
  replace hR3 := Lib.hid hR3
  clear hk3
  obtain ⟨f1, hf1⟩ : ∃ f, Hid (decide (N1 ≤ 1099511627776) = f) := ⟨_, Lib.hid rfl⟩
  rw [hf1.out]
  obtain ⟨x1, hx1⟩ : ∃ x, Hid (lgInt N1 = x) := ⟨_, Lib.hid rfl⟩
  rw [hx1.out]
  go_wp2_with fail
  refine (ptake_any q hq47.out g (1 + 8) A' c' w3 hR3.out).mono ?_
  rintro e w4 ⟨N2, rfl, hN2, hR4, hk4⟩
  replace hN2 := Lib.hid hN2
  have hB4 : Hid (Blk w4 w.heap.size 51 #[Value.int .i64 0, Value.int .i64 0, Value.slice none 0 0]) := hB3.out.kept hk4 (by have := hgw.out; omega)
  have hb4 : Hid (Below w.heap.size w w4) := hb3.out.trans (Kept.below_of hk4 (Nat.le_of_lt hgw.out) hb3.out.size)
  replace hR4 : Hid (Rd w4 g q A' c' 17) := hR4
  clear hk4
  obtain ⟨f2, hf2⟩ : ∃ f, Hid (decide (N2 ≤ 1099511627776) = f) := ⟨_, Lib.hid rfl⟩
  rw [hf2.out]
  obtain ⟨x2, hx2⟩ : ∃ x, Hid (lgInt N2 = x) := ⟨_, Lib.hid rfl⟩
  rw [hx2.out]
  have hBs := Lib.hid (beside_all x1 x2 w4)
  have hWy := Lib.hid (why_any q g 17 A' c' w4 hR4.out)
  obtain ⟨f3, hf3⟩ : ∃ f, Hid (insideB x1 x2 = f) := ⟨_, Lib.hid rfl⟩
  rw [hf3.out] at hBs
  have hfail : Hid (¬ (f1 = true ∧ f2 = true ∧ f3 = true ∧ 17 ≤ q.length) → X = (0, 0, [], 8)) := fun hn => by
    rw [← hX.out]
    refine decAns_fail hqk.out (fun h => hn ?_)
    obtain ⟨h17, -, hin, -⟩ := h
    have e1 := hN1.out (by omega)
    have e2 := hN2.out (by omega)
    have hin' := hin
    rw [← e1, ← e2] at hin hin'
    simp only [insideB, Bool.and_eq_true, decide_eq_true_eq] at hin
    refine ⟨by rw [← hf1.out]; exact decide_eq_true (by omega), by rw [← hf2.out]; exact decide_eq_true (by omega), ?_, h17⟩
    rw [← hf3.out, ← hx1.out, ← hx2.out, lgInt_le (by omega), lgInt_le (by omega)]
    exact hin'
  by_cases hall : f1 = true ∧ f2 = true ∧ f3 = true ∧ 17 ≤ q.length
  · obtain ⟨rfl, rfl, rfl, h17⟩ := hall
    clear hfail
    have e1 := hN1.out (by omega)
    have e2 := hN2.out (by omega)
    have l1 := of_decide_eq_true hf1.out
    have l2 := of_decide_eq_true hf2.out
    have hx1' := hx1.out
    have hx2' := hx2.out
    rw [lgInt_le l1] at hx1'
    rw [lgInt_le l2] at hx2'
    subst hx1' hx2'
    have hin := hf3.out
    have hin2 := hin
    simp only [insideB, Bool.and_eq_true, decide_eq_true_eq] at hin2
    have hn40 : Hid ((sides N1 N2).length ≤ 40) := sides_len (by omega) (by rw [show (2 : Nat) ^ 40 = 1099511627776 by decide]; omega)
    unfold bsNum at hBs
    rw [if_pos hin, Int.toNat_natCast, Int.toNat_natCast] at hBs
    obtain ⟨n, hn⟩ : ∃ n, Hid ((sides N1 N2).length = n) := ⟨_, Lib.hid rfl⟩
    rw [hn.out] at hBs hn40
    have hn40' : (n : Int) ≤ 40 := by have := hn40.out; omega
    rw [show whyOf 17 q.length = 0 from if_pos h17] at hWy
    replace h17 := Lib.hid h17
    replace e1 := Lib.hid e1
    replace e2 := Lib.hid e2
    replace hin := Lib.hid hin
    clear l1 l2 hin2 hf1 hf2 hf3 hN1 hN2
    by_cases hfit : 17 + 32 * n ≤ q.length
    · have hDg := Lib.hid (digestsR_yes q hq47.out g 17 n (by have := hn40.out; omega) A' c' w4 hR4.out hfit)
      by_cases hend : q.length = 17 + 32 * n
      · have hDone : Hid (∀ w' , Rd w' g q A' c' (17 + 32 * n) → Calls Tryd.prog 68 #[.pointer (some ⟨g, 0, none⟩)] w' fun e w'' => e = .returned (.int .i64 0) ∧ ∃ m, w'' = w'.drewN m) := fun w' h => by
          have := done_any q hq47.out g (17 + 32 * n) A' c' w' h
          rwa [show doneOf (17 + 32 * n) q.length = 0 from if_pos hend.symm] at this
        have hXX : Hid (X = ((N1 : Int), (N2 : Int), chunks (q.drop 17) n, 0)) := by
          show X = _
          rw [← hX.out, decAns_ok hqk.out ⟨h17.out, hyy.out, by rw [← e1.out, ← e2.out]; exact hin.out, by rw [← e1.out, ← e2.out, hn.out]; exact hend⟩, ← e1.out, ← e2.out, hn.out]
        clear hend hfit
        go_wp2_with (first
          | (go_at_call 56; refine hBs.out.mono ?_; rintro e w' ⟨rfl, rfl⟩)
          | (go_at_call 66; refine hWy.out.mono ?_; rintro e w' ⟨rfl, rfl⟩)
          | (go_at_call 67; refine hDg.out.mono ?_; rintro e w5 ⟨gl, rfl, hL5, hgl, hR5, hk5⟩; have hB5 : Hid (Blk w5 w.heap.size 51 #[Value.int .i64 0, Value.int .i64 0, Value.slice none 0 0]) := hB4.out.kept hk5 (by have := hgw.out; omega); have hb5 : Hid (Below w.heap.size w w5) := hb4.out.trans (Kept.below_of hk5 (Nat.le_of_lt hgw.out) hb4.out.size); replace hR5 := Lib.hid hR5; replace hL5 := Lib.hid hL5; clear hk5; have hglw : Hid (w.heap.size < gl) := (by have := hB4.out.lt; show _ < _; omega); clear hgl)
          | ((with_reducible change wpList _ _ _ ({ dst := none, op := Op.store 51 (.tmp 12) _, type := _, pos := _, after := _, guard := _ } :: _) _ _); refine wpList_store_whole (o := ⟨none, _, _, _, _, _⟩) rfl 51 (.tmp 12) (.tmp 59) rfl (w5.heap.size) (#[Value.int .i64 (N1 : Int), Value.int .i64 (N2 : Int), Value.slice (some ⟨gl, 0, none⟩) n n]) rfl rfl 51 (#[Value.int .i64 0, Value.int .i64 0, Value.slice none 0 0]) (Blk.new w5 _ _) sizeI rfl (oneI _ _ _ _ _) ?_; intro w6 hB6 hk6; have hb56 := Lib.hid (kept_fresh hk6); replace hB5 : Hid (Blk w6 w.heap.size 51 #[Value.int .i64 0, Value.int .i64 0, Value.slice none 0 0]) := (hb56.out.block _ hB5.out.lt).trans hB5.out; replace hb5 : Hid (Below w.heap.size w w6) := hb5.out.trans (hb56.out.mono hb5.out.size); replace hR5 := Lib.hid (hR5.out.below hb56.out); replace hL5 := Lib.hid (hL5.out.below hb56.out); replace hB6 := Lib.hid hB6; clear hk6 hb56; generalize w5.heap.size = g12 at *))
        refine (hDone.out _ hR5.out).mono ?_
        rintro e w7 ⟨rfl, m, rfl⟩
        have hB7 : Hid (Blk (w6.drewN m) w.heap.size 51 #[Value.int .i64 0, Value.int .i64 0, Value.slice none 0 0]) := hB5.out.drewN m
        have hB8 : Hid (Blk (w6.drewN m) g12 51 #[Value.int .i64 (N1 : Int), Value.int .i64 (N2 : Int), Value.slice (some ⟨gl, 0, none⟩) n n]) := hB6.out.drewN m
        have hb7 : Hid (Below w.heap.size w (w6.drewN m)) := below_drawn hb5.out m
        have hL7 : Hid (RdD (w6.drewN m) (some ⟨gl, 0, none⟩) n (chunks (q.drop 17) n)) := hL5.out.drewN m
        go_wp2_with (first
          | ((with_reducible change wpList _ _ _ ({ dst := some 64, op := _, type := _, pos := _, after := _, guard := _ } :: _) _ _); refine wpList_load_row (o := ⟨some 64, _, _, _, _, _⟩) rfl 51 (.tmp 12) rfl (g12) rfl 51 (#[Value.int .i64 (N1 : Int), Value.int .i64 (N2 : Int), Value.slice (some ⟨gl, 0, none⟩) n n]) (0, 0) _ hB8.out Tryd.underlying51 rfl sizeI ?_)
          | ((with_reducible change wpList _ _ _ ({ dst := none, op := Op.store 51 _ _, type := _, pos := _, after := _, guard := _ } :: _) _ _); refine wpList_store_row (o := ⟨none, _, _, _, _, _⟩) rfl 51 (.tmp 2) (.tmp 64) rfl (w.heap.size) (#[Value.int .i64 (N1 : Int), Value.int .i64 (N2 : Int), Value.slice (some ⟨gl, 0, none⟩) n n]) rfl rfl 51 (#[Value.int .i64 0, Value.int .i64 0, Value.slice none 0 0]) hB7.out sizeI rfl (oneI _ _ _ _ _) ?_))
        refine bodyPost_ret (results_cell_row2 rfl _ _ w.heap.size 51 #[Value.int .i64 (N1 : Int), Value.int .i64 (N2 : Int), Value.slice (some ⟨gl, 0, none⟩) n n] (0, 0) _ rfl (setRow_heap _ _ _ _ _ _ hB7.out) Tryd.underlying51 rfl sizeI) rfl ?_
        rw [hXX.out]
        have hL9 : RdD ((w6.drewN m).setRow w.heap.size #[Value.int .i64 (N1 : Int), Value.int .i64 (N2 : Int), Value.slice (some ⟨gl, 0, none⟩) n n]) (some ⟨gl, 0, none⟩) n (chunks (q.drop 17) n) := ⟨hL7.out.1, hL7.out.2.1, hL7.out.2.2.kept (Bytes.Kept.setRow (S := (· = w.heap.size)) (Kept.refl _ _) rfl _) (fun b o e h => by injection e with e; injection e with e3 e4; subst e3; have := hglw.out; omega)⟩
        exact ⟨some ⟨gl, 0, none⟩, n, n, rfl, hL9, (fun h => by cases h), Nat.le_refl _, hn40.out, below_setRow hb7.out (Nat.le_refl _) _⟩
      · have hDone : Hid (∀ w' , Rd w' g q A' c' (17 + 32 * n) → Calls Tryd.prog 68 #[.pointer (some ⟨g, 0, none⟩)] w' fun e w'' => e = .returned (.int .i64 8) ∧ ∃ m, w'' = w'.drewN m) := fun w' h => by
          have := done_any q hq47.out g (17 + 32 * n) A' c' w' h
          rwa [show doneOf (17 + 32 * n) q.length = 8 from if_neg (fun e => hend e.symm)] at this
        have hXX : Hid (X = (0, 0, [], 8)) := by
          show X = _
          rw [← hX.out]
          exact decAns_fail hqk.out (fun h => hend (by have := h.2.2.2; rw [← e1.out, ← e2.out, hn.out] at this; exact this))
        clear hend hfit
        go_wp2_with (first
          | (go_at_call 56; refine hBs.out.mono ?_; rintro e w' ⟨rfl, rfl⟩)
          | (go_at_call 66; refine hWy.out.mono ?_; rintro e w' ⟨rfl, rfl⟩)
          | (go_at_call 67; refine hDg.out.mono ?_; rintro e w5 ⟨gl, rfl, hL5, hgl, hR5, hk5⟩; have hB5 : Hid (Blk w5 w.heap.size 51 #[Value.int .i64 0, Value.int .i64 0, Value.slice none 0 0]) := hB4.out.kept hk5 (by have := hgw.out; omega); have hb5 : Hid (Below w.heap.size w w5) := hb4.out.trans (Kept.below_of hk5 (Nat.le_of_lt hgw.out) hb4.out.size); replace hR5 := Lib.hid hR5; replace hL5 := Lib.hid hL5; clear hk5 hgl)
          | ((with_reducible change wpList _ _ _ ({ dst := none, op := Op.store 51 (.tmp 12) _, type := _, pos := _, after := _, guard := _ } :: _) _ _); refine wpList_store_whole (o := ⟨none, _, _, _, _, _⟩) rfl 51 (.tmp 12) (.tmp 59) rfl (w5.heap.size) (#[Value.int .i64 (N1 : Int), Value.int .i64 (N2 : Int), Value.slice (some ⟨gl, 0, none⟩) n n]) rfl rfl 51 (#[Value.int .i64 0, Value.int .i64 0, Value.slice none 0 0]) (Blk.new w5 _ _) sizeI rfl (oneI _ _ _ _ _) ?_; intro w6 hB6 hk6; have hb56 := Lib.hid (kept_fresh hk6); replace hB5 : Hid (Blk w6 w.heap.size 51 #[Value.int .i64 0, Value.int .i64 0, Value.slice none 0 0]) := (hb56.out.block _ hB5.out.lt).trans hB5.out; replace hb5 : Hid (Below w.heap.size w w6) := hb5.out.trans (hb56.out.mono hb5.out.size); replace hR5 := Lib.hid (hR5.out.below hb56.out); replace hL5 := Lib.hid (hL5.out.below hb56.out); replace hB6 := Lib.hid hB6; clear hk6 hb56; generalize w5.heap.size = g12 at *))
        refine (hDone.out _ hR5.out).mono ?_
        rintro e w7 ⟨rfl, m, rfl⟩
        have hB7 : Hid (Blk (w6.drewN m) w.heap.size 51 #[Value.int .i64 0, Value.int .i64 0, Value.slice none 0 0]) := hB5.out.drewN m
        have hb7 : Hid (Below w.heap.size w (w6.drewN m)) := below_drawn hb5.out m
        go_wp2_with ((with_reducible change wpList _ _ _ ({ dst := none, op := Op.store 51 _ _, type := _, pos := _, after := _, guard := _ } :: _) _ _); refine wpList_store_row (o := ⟨none, _, _, _, _, _⟩) rfl 51 (.tmp 2) (.tmp 63) rfl (w.heap.size) (#[Value.int .i64 0, Value.int .i64 0, Value.slice none 0 0]) rfl rfl 51 (#[Value.int .i64 0, Value.int .i64 0, Value.slice none 0 0]) hB7.out sizeI rfl (oneI _ _ _ _ _) ?_)
        refine bodyPost_ret (results_cell_row2 rfl _ _ w.heap.size 51 #[Value.int .i64 0, Value.int .i64 0, Value.slice none 0 0] (0, 0) _ rfl (setRow_heap _ _ _ _ _ _ hB7.out) Tryd.underlying51 rfl sizeI) rfl ?_
        rw [hXX.out]
        exact ⟨none, 0, 0, rfl, RdD.nil_ _ _, fun _ => ⟨rfl, rfl⟩, Nat.le_refl _, by omega, below_setRow hb7.out (Nat.le_refl _) _⟩
    · have hDone : Hid (∀ w' , Rd w' g q A' c' (17 + 32 * n) → Calls Tryd.prog 68 #[.pointer (some ⟨g, 0, none⟩)] w' fun e w'' => e = .returned (.int .i64 8) ∧ ∃ m, w'' = w'.drewN m) := fun w' h => by
        have := done_any q hq47.out g (17 + 32 * n) A' c' w' h
        rwa [show doneOf (17 + 32 * n) q.length = 8 from if_neg (fun e => hfit (by omega))] at this
      have hXX : Hid (X = (0, 0, [], 8)) := by
        show X = _
        rw [← hX.out]
        exact decAns_fail hqk.out (fun h => hfit (by have := h.2.2.2; rw [← e1.out, ← e2.out, hn.out] at this; omega))
      have hDg : Hid (Calls Tryd.prog 67 #[.pointer (some ⟨g, 0, none⟩), .int .i64 (n : Int)] w4 fun e w' => e = .returned (.slice none 0 0) ∧ Rd w' g q A' c' (17 + 32 * n) ∧ Kept (· = g) w4 w') := digestsR_no q hq47.out g 17 n (by have := hn40.out; omega) A' c' w4 hR4.out h17.out (by omega)
      clear hfit
      go_wp2_with (first
        | (go_at_call 56; refine hBs.out.mono ?_; rintro e w' ⟨rfl, rfl⟩)
        | (go_at_call 66; refine hWy.out.mono ?_; rintro e w' ⟨rfl, rfl⟩)
        | (go_at_call 67; refine hDg.out.mono ?_; rintro e w5 ⟨rfl, hR5, hk5⟩; have hB5 : Hid (Blk w5 w.heap.size 51 #[Value.int .i64 0, Value.int .i64 0, Value.slice none 0 0]) := hB4.out.kept hk5 (by have := hgw.out; omega); have hb5 : Hid (Below w.heap.size w w5) := hb4.out.trans (Kept.below_of hk5 (Nat.le_of_lt hgw.out) hb4.out.size); replace hR5 := Lib.hid hR5; clear hk5)
        | ((with_reducible change wpList _ _ _ ({ dst := none, op := Op.store 51 (.tmp 12) _, type := _, pos := _, after := _, guard := _ } :: _) _ _); refine wpList_store_whole (o := ⟨none, _, _, _, _, _⟩) rfl 51 (.tmp 12) (.tmp 59) rfl (w5.heap.size) (#[Value.int .i64 (N1 : Int), Value.int .i64 (N2 : Int), Value.slice none 0 0]) rfl rfl 51 (#[Value.int .i64 0, Value.int .i64 0, Value.slice none 0 0]) (Blk.new w5 _ _) sizeI rfl (oneI _ _ _ _ _) ?_; intro w6 hB6 hk6; have hb56 := Lib.hid (kept_fresh hk6); replace hB5 : Hid (Blk w6 w.heap.size 51 #[Value.int .i64 0, Value.int .i64 0, Value.slice none 0 0]) := (hb56.out.block _ hB5.out.lt).trans hB5.out; replace hb5 : Hid (Below w.heap.size w w6) := hb5.out.trans (hb56.out.mono hb5.out.size); replace hR5 := Lib.hid (hR5.out.below hb56.out); replace hB6 := Lib.hid hB6; clear hk6 hb56; generalize w5.heap.size = g12 at *))
      refine (hDone.out _ hR5.out).mono ?_
      rintro e w7 ⟨rfl, m, rfl⟩
      have hB7 : Hid (Blk (w6.drewN m) w.heap.size 51 #[Value.int .i64 0, Value.int .i64 0, Value.slice none 0 0]) := hB5.out.drewN m
      have hb7 : Hid (Below w.heap.size w (w6.drewN m)) := below_drawn hb5.out m
      go_wp2_with ((with_reducible change wpList _ _ _ ({ dst := none, op := Op.store 51 _ _, type := _, pos := _, after := _, guard := _ } :: _) _ _); refine wpList_store_row (o := ⟨none, _, _, _, _, _⟩) rfl 51 (.tmp 2) (.tmp 63) rfl (w.heap.size) (#[Value.int .i64 0, Value.int .i64 0, Value.slice none 0 0]) rfl rfl 51 (#[Value.int .i64 0, Value.int .i64 0, Value.slice none 0 0]) hB7.out sizeI rfl (oneI _ _ _ _ _) ?_)
      refine bodyPost_ret (results_cell_row2 rfl _ _ w.heap.size 51 #[Value.int .i64 0, Value.int .i64 0, Value.slice none 0 0] (0, 0) _ rfl (setRow_heap _ _ _ _ _ _ hB7.out) Tryd.underlying51 rfl sizeI) rfl ?_
      rw [hXX.out]
      exact ⟨none, 0, 0, rfl, RdD.nil_ _ _, fun _ => ⟨rfl, rfl⟩, Nat.le_refl _, by omega, below_setRow hb7.out (Nat.le_refl _) _⟩
  · have hXX := Lib.hid (hfail.out hall)
    have hcs : f1 = false ∨ (f1 = true ∧ f2 = false) ∨ (f1 = true ∧ f2 = true ∧ f3 = false) ∨ (f1 = true ∧ f2 = true ∧ f3 = true ∧ q.length < 17) := by
      cases f1 <;> cases f2 <;> cases f3 <;> simp_all <;> omega
    generalize bsNum x1 x2 = bn at *
    clear hall hfail hf1 hf2 hf3 hN1 hN2
    rcases hcs with rfl | ⟨rfl, rfl⟩ | ⟨rfl, rfl, rfl⟩ | ⟨rfl, rfl, rfl, hlt⟩
    · go_wp2_with (first
        | (go_at_call 56; refine hBs.out.mono ?_; rintro e w' ⟨rfl, rfl⟩)
        | (go_at_call 66; refine hWy.out.mono ?_; rintro e w' ⟨rfl, rfl⟩)
        | ((with_reducible change wpList _ _ _ ({ dst := none, op := Op.store 51 _ _, type := _, pos := _, after := _, guard := _ } :: _) _ _); refine wpList_store_row (o := ⟨none, _, _, _, _, _⟩) rfl 51 (.tmp 2) (.tmp 53) rfl (w.heap.size) (#[Value.int .i64 0, Value.int .i64 0, Value.slice none 0 0]) rfl rfl 51 (#[Value.int .i64 0, Value.int .i64 0, Value.slice none 0 0]) hB4.out sizeI rfl (oneI _ _ _ _ _) ?_))
      refine bodyPost_ret (results_cell_row2 rfl _ _ w.heap.size 51 #[Value.int .i64 0, Value.int .i64 0, Value.slice none 0 0] (0, 0) _ rfl (setRow_heap _ _ _ _ _ _ hB4.out) Tryd.underlying51 rfl sizeI) rfl ?_
      rw [hXX.out]
      exact ⟨none, 0, 0, rfl, RdD.nil_ _ _, fun _ => ⟨rfl, rfl⟩, Nat.le_refl _, by omega, below_setRow hb4.out (Nat.le_refl _) _⟩
    · go_wp2_with (first
        | (go_at_call 56; refine hBs.out.mono ?_; rintro e w' ⟨rfl, rfl⟩)
        | (go_at_call 66; refine hWy.out.mono ?_; rintro e w' ⟨rfl, rfl⟩)
        | ((with_reducible change wpList _ _ _ ({ dst := none, op := Op.store 51 _ _, type := _, pos := _, after := _, guard := _ } :: _) _ _); refine wpList_store_row (o := ⟨none, _, _, _, _, _⟩) rfl 51 (.tmp 2) (.tmp 53) rfl (w.heap.size) (#[Value.int .i64 0, Value.int .i64 0, Value.slice none 0 0]) rfl rfl 51 (#[Value.int .i64 0, Value.int .i64 0, Value.slice none 0 0]) hB4.out sizeI rfl (oneI _ _ _ _ _) ?_))
      refine bodyPost_ret (results_cell_row2 rfl _ _ w.heap.size 51 #[Value.int .i64 0, Value.int .i64 0, Value.slice none 0 0] (0, 0) _ rfl (setRow_heap _ _ _ _ _ _ hB4.out) Tryd.underlying51 rfl sizeI) rfl ?_
      rw [hXX.out]
      exact ⟨none, 0, 0, rfl, RdD.nil_ _ _, fun _ => ⟨rfl, rfl⟩, Nat.le_refl _, by omega, below_setRow hb4.out (Nat.le_refl _) _⟩
    · go_wp2_with (first
        | (go_at_call 56; refine hBs.out.mono ?_; rintro e w' ⟨rfl, rfl⟩)
        | (go_at_call 66; refine hWy.out.mono ?_; rintro e w' ⟨rfl, rfl⟩)
        | ((with_reducible change wpList _ _ _ ({ dst := none, op := Op.store 51 _ _, type := _, pos := _, after := _, guard := _ } :: _) _ _); refine wpList_store_row (o := ⟨none, _, _, _, _, _⟩) rfl 51 (.tmp 2) (.tmp 53) rfl (w.heap.size) (#[Value.int .i64 0, Value.int .i64 0, Value.slice none 0 0]) rfl rfl 51 (#[Value.int .i64 0, Value.int .i64 0, Value.slice none 0 0]) hB4.out sizeI rfl (oneI _ _ _ _ _) ?_))
      refine bodyPost_ret (results_cell_row2 rfl _ _ w.heap.size 51 #[Value.int .i64 0, Value.int .i64 0, Value.slice none 0 0] (0, 0) _ rfl (setRow_heap _ _ _ _ _ _ hB4.out) Tryd.underlying51 rfl sizeI) rfl ?_
      rw [hXX.out]
      exact ⟨none, 0, 0, rfl, RdD.nil_ _ _, fun _ => ⟨rfl, rfl⟩, Nat.le_refl _, by omega, below_setRow hb4.out (Nat.le_refl _) _⟩
    · rw [show whyOf 17 q.length = 8 from if_neg (by omega)] at hWy
      clear hlt
      go_wp2_with (first
        | (go_at_call 56; refine hBs.out.mono ?_; rintro e w' ⟨rfl, rfl⟩)
        | (go_at_call 66; refine hWy.out.mono ?_; rintro e w' ⟨rfl, rfl⟩)
        | ((with_reducible change wpList _ _ _ ({ dst := none, op := Op.store 51 _ _, type := _, pos := _, after := _, guard := _ } :: _) _ _); refine wpList_store_row (o := ⟨none, _, _, _, _, _⟩) rfl 51 (.tmp 2) (.tmp 53) rfl (w.heap.size) (#[Value.int .i64 0, Value.int .i64 0, Value.slice none 0 0]) rfl rfl 51 (#[Value.int .i64 0, Value.int .i64 0, Value.slice none 0 0]) hB4.out sizeI rfl (oneI _ _ _ _ _) ?_))
      refine bodyPost_ret (results_cell_row2 rfl _ _ w.heap.size 51 #[Value.int .i64 0, Value.int .i64 0, Value.slice none 0 0] (0, 0) _ rfl (setRow_heap _ _ _ _ _ _ hB4.out) Tryd.underlying51 rfl sizeI) rfl ?_
      rw [hXX.out]
      exact ⟨none, 0, 0, rfl, RdD.nil_ _ _, fun _ => ⟨rfl, rfl⟩, Nat.le_refl _, by omega, below_setRow hb4.out (Nat.le_refl _) _⟩
theorem decodeInclusion_any (q : Text) (k : Nat) (hk : q.length = k) (A : Option Addr) (c : Nat) (w : World) (hr : Reads w 1 A k (cells8 q)) (hnil : A = none → k = 0 ∧ c = 0) :
    Calls Tryd.prog 20 #[.slice A k c] w (APost w (decAns q)) := by
  by_cases h9 : 9000 < k
  · exact dec_long q k hk h9 A c w
  · by_cases h1 : 1 ≤ k ∧ q.getD 0 0 = 48
    · exact dec_main q k hk h9 h1.1 h1.2 A c w hr hnil
    · exact dec_no q k hk h9 h1 A c w hr hnil
end Go.Proofs.YtgldkfaiofkhbaaDoor.DecIncl2

namespace Go.Proofs.YtgldkfaiofkhbaaDoor.Bytes17
open Go Go.RowKit Go.Proofs.YtgldkfaiofkhbaaDoor Go.Proofs.YtgldkfaiofkhbaaDoor.Mem Go.Proofs.YtgldkfaiofkhbaaDoor.Sha Go.Proofs.YtgldkfaiofkhbaaDoor.Bytes Go.Proofs.YtgldkfaiofkhbaaDoor.TreeMath Go.Proofs.YtgldkfaiofkhbaaDoor.Sides Go.Proofs.YtgldkfaiofkhbaaDoor.TreeMem Go.Proofs.YtgldkfaiofkhbaaDoor.TreeRoot Go.Proofs.YtgldkfaiofkhbaaDoor.Reader Go.Proofs.YtgldkfaiofkhbaaDoor.DecIncl

end Go.Proofs.YtgldkfaiofkhbaaDoor.Bytes17

namespace Go.Proofs.YtgldkfaiofkhbaaDoor.Way17
open Go Go.RowKit Go.Proofs.YtgldkfaiofkhbaaDoor Go.Proofs.YtgldkfaiofkhbaaDoor.Mem Go.Proofs.YtgldkfaiofkhbaaDoor.Sha Go.Proofs.YtgldkfaiofkhbaaDoor.Bytes Go.Proofs.YtgldkfaiofkhbaaDoor.Append Go.Proofs.YtgldkfaiofkhbaaDoor.TreeMem Go.Proofs.YtgldkfaiofkhbaaDoor.TreeRoot Go.Proofs.YtgldkfaiofkhbaaDoor.Book Go.Proofs.YtgldkfaiofkhbaaDoor.Own Go.Proofs.YtgldkfaiofkhbaaDoor.Reader4 Go.Proofs.YtgldkfaiofkhbaaDoor.Bytes17

/-- Where way's loop stands behind i digests. -/
def St (p : Text) (i : Nat) (l : List Text) (p1 : Text) (s1 : Bool) : Prop := (s1 = false ∧ 32 * i ≤ p.length ∧ l = chunks p i ∧ p1 = p.drop (32 * i)) ∨ (s1 = true ∧ p.length < 32 * i)
end Go.Proofs.YtgldkfaiofkhbaaDoor.Way17

namespace Go.Proofs.YtgldkfaiofkhbaaDoor.ReadIncl
open Go Go.RowKit Go.Proofs.YtgldkfaiofkhbaaDoor Go.Proofs.YtgldkfaiofkhbaaDoor.Mem Go.Proofs.YtgldkfaiofkhbaaDoor.Sha Go.Proofs.YtgldkfaiofkhbaaDoor.Bytes Go.Proofs.YtgldkfaiofkhbaaDoor.Append Go.Proofs.YtgldkfaiofkhbaaDoor.Octet Go.Proofs.YtgldkfaiofkhbaaDoor.TreeMath Go.Proofs.YtgldkfaiofkhbaaDoor.Sides Go.Proofs.YtgldkfaiofkhbaaDoor.TreeMem Go.Proofs.YtgldkfaiofkhbaaDoor.TreeRoot Go.Proofs.YtgldkfaiofkhbaaDoor.Held Go.Proofs.YtgldkfaiofkhbaaDoor.Own Go.Proofs.YtgldkfaiofkhbaaDoor.Reader Go.Proofs.YtgldkfaiofkhbaaDoor.Reader4 Go.Proofs.YtgldkfaiofkhbaaDoor.ProofBeside Go.Proofs.YtgldkfaiofkhbaaDoor.ProofEnc Go.Proofs.YtgldkfaiofkhbaaDoor.Beside17 Go.Proofs.YtgldkfaiofkhbaaDoor.Ref17 Go.Proofs.YtgldkfaiofkhbaaDoor.Ref17b Go.Proofs.YtgldkfaiofkhbaaDoor.DecIncl Go.Proofs.YtgldkfaiofkhbaaDoor.DecIncl2 Go.Proofs.YtgldkfaiofkhbaaDoor.Bytes17 Go.Proofs.YtgldkfaiofkhbaaDoor.Way17 Go.Proofs.YtgldkfaiofkhbaaDoor.Same17 Go.Proofs.YtgldkfaiofkhbaaDoor.Guard

/-! ### The plain law -/
theorem be8_num (a : Text) (h : a.length = 8) : be8 (num a) = a := by
  match a, h with
  | [a0, a1, a2, a3, a4, a5, a6, a7], _ =>
    have e : num [a0, a1, a2, a3, a4, a5, a6, a7] = ((((((a0.toNat * 256 + a1.toNat) * 256 + a2.toNat) * 256 + a3.toNat) * 256 + a4.toNat) * 256 + a5.toNat) * 256 + a6.toNat) * 256 + a7.toNat := by simp [num]
    have b0 := a0.isLt
    have b1 := a1.isLt
    have b2 := a2.isLt
    have b3 := a3.isLt
    have b4 := a4.isLt
    have b5 := a5.isLt
    have b6 := a6.isLt
    have b7 := a7.isLt
    rw [e]
    have hb : ∀ (N n : Nat) (x : BitVec 8), N / 2 ^ n % 256 = x.toNat → byteAt N n = x := fun N n x h => by
      unfold byteAt
      apply BitVec.eq_of_toNat_eq
      rw [BitVec.toNat_ofNat]
      exact h
    show [byteAt _ 56, byteAt _ 48, byteAt _ 40, byteAt _ 32, byteAt _ 24, byteAt _ 16, byteAt _ 8, byteAt _ 0] = _
    rw [hb _ 56 a0 (by omega), hb _ 48 a1 (by omega), hb _ 40 a2 (by omega), hb _ 32 a3 (by omega), hb _ 24 a4 (by omega), hb _ 16 a5 (by omega), hb _ 8 a6 (by omega), hb _ 0 a7 (by omega)]
theorem chunks_flat : ∀ (n : Nat) (p : Text), p.length = 32 * n → (chunks p n).flatten = p
  | 0, p, h => by
    obtain rfl := List.eq_nil_of_length_eq_zero h
    rfl
  | n + 1, p, h => by
    have e : chunks p (n + 1) = p.take 32 :: chunks (p.drop 32) n := by
      unfold chunks
      rw [List.range_succ_eq_map, List.map_cons, List.map_map]
      congr 1
      apply List.map_congr_left
      intro j _
      show chunk p (j + 1) = chunk (p.drop 32) j
      unfold chunk
      rw [List.drop_drop, show 32 * (j + 1) = 32 + 32 * j by omega]
    rw [e, List.flatten_cons, chunks_flat n (p.drop 32) (by rw [List.length_drop]; omega), List.take_append_drop]
/-- What was read ahead of the last test. -/
def Got (q : Text) (x1 x2 : Int) (l : List Text) : Prop :=
  (17 ≤ q.length → x1 = lgInt (num ((q.drop 1).take 8)) ∧ x2 = lgInt (num ((q.drop 9).take 8)) ∧ l.length ≤ (bsOf x1 x2).toNat ∧ (32 * (bsOf x1 x2).toNat ≤ (q.drop 17).length → l = chunks (q.drop 17) (bsOf x1 x2).toNat)) ∧ (q.length < 17 → l = []) ∧ Digs l
theorem bsOf_in {x y : Int} (h : insideB x y = true) : bsOf x y = ((sides x.toNat y.toNat).length : Int) := by unfold bsOf; rw [if_pos h]
theorem three {q : Text} (h : 17 ≤ q.length) : q = [q.getD 0 0] ++ (q.drop 1).take 8 ++ (q.drop 9).take 8 ++ q.drop 17 := by
  have e0 : q = q.take 1 ++ q.drop 1 := (List.take_append_drop 1 q).symm
  have e1 : q.drop 1 = (q.drop 1).take 8 ++ q.drop 9 := by
    have := (List.take_append_drop 8 (q.drop 1)).symm
    rwa [List.drop_drop] at this
  have e2 : q.drop 9 = (q.drop 9).take 8 ++ q.drop 17 := by
    have := (List.take_append_drop 8 (q.drop 9)).symm
    rwa [List.drop_drop] at this
  have e3 : q.take 1 = [q.getD 0 0] := by
    match q, h with
    | a :: r, _ => rfl
  rw [List.append_assoc, List.append_assoc, ← e2, ← e1, ← e3, ← e0]
theorem read_no {q : Text} {x1 x2 : Int} {l : List Text} (hq : ¬ 9000 < q.length) (hg : Got q x1 x2 l) (h : inclWant x1 x2 l ≠ some q) : decAns q = (0, 0, [], 8) := by
  obtain ⟨g1, g2, hd⟩ := hg
  refine decAns_fail hq (fun hh => h ?_)
  obtain ⟨h17, h0, hin, hlen⟩ := hh
  obtain ⟨rfl, rfl, -, hc⟩ := g1 h17
  have hin2 := hin
  simp only [insideB, Bool.and_eq_true, decide_eq_true_eq] at hin2
  rw [lgInt_le (by omega), lgInt_le (by omega)] at hc ⊢
  have hbs := bsOf_in hin
  rw [Int.toNat_natCast, Int.toNat_natCast] at hbs
  rw [hbs, Int.toNat_natCast] at hc
  have hl := hc (by rw [List.length_drop]; omega)
  unfold inclWant
  rw [Int.toNat_natCast, Int.toNat_natCast, if_pos ⟨hin, by rw [hl, chunks_len]⟩]
  congr 1
  unfold inclBytes
  rw [be8_num _ (by rw [List.length_take, List.length_drop]; omega), be8_num _ (by rw [List.length_take, List.length_drop]; omega), hl, chunks_flat _ _ (by rw [List.length_drop]; omega)]
  conv => rhs; rw [three h17, h0]

/-! ### The reader's states -/
end Go.Proofs.YtgldkfaiofkhbaaDoor.ReadIncl

namespace Go.Proofs.YtgldkfaiofkhbaaDoor.ReadIncl2
open Go Go.RowKit Go.Proofs.YtgldkfaiofkhbaaDoor Go.Proofs.YtgldkfaiofkhbaaDoor.Mem Go.Proofs.YtgldkfaiofkhbaaDoor.Sha Go.Proofs.YtgldkfaiofkhbaaDoor.Bytes Go.Proofs.YtgldkfaiofkhbaaDoor.Append Go.Proofs.YtgldkfaiofkhbaaDoor.Octet Go.Proofs.YtgldkfaiofkhbaaDoor.TreeMath Go.Proofs.YtgldkfaiofkhbaaDoor.Sides Go.Proofs.YtgldkfaiofkhbaaDoor.TreeMem Go.Proofs.YtgldkfaiofkhbaaDoor.TreeRoot Go.Proofs.YtgldkfaiofkhbaaDoor.Held Go.Proofs.YtgldkfaiofkhbaaDoor.Own Go.Proofs.YtgldkfaiofkhbaaDoor.Reader Go.Proofs.YtgldkfaiofkhbaaDoor.Reader4 Go.Proofs.YtgldkfaiofkhbaaDoor.ProofBeside Go.Proofs.YtgldkfaiofkhbaaDoor.ProofEnc Go.Proofs.YtgldkfaiofkhbaaDoor.Beside17 Go.Proofs.YtgldkfaiofkhbaaDoor.Ref17 Go.Proofs.YtgldkfaiofkhbaaDoor.Ref17b Go.Proofs.YtgldkfaiofkhbaaDoor.DecIncl Go.Proofs.YtgldkfaiofkhbaaDoor.DecIncl2 Go.Proofs.YtgldkfaiofkhbaaDoor.Bytes17 Go.Proofs.YtgldkfaiofkhbaaDoor.Way17 Go.Proofs.YtgldkfaiofkhbaaDoor.Same17 Go.Proofs.YtgldkfaiofkhbaaDoor.Guard Go.Proofs.YtgldkfaiofkhbaaDoor.ReadIncl

end Go.Proofs.YtgldkfaiofkhbaaDoor.ReadIncl2

namespace Go.Proofs.YtgldkfaiofkhbaaDoor.Law17a
open Go Go.RowKit Go.Proofs.YtgldkfaiofkhbaaDoor Go.Proofs.YtgldkfaiofkhbaaDoor.Mem Go.Proofs.YtgldkfaiofkhbaaDoor.Sha Go.Proofs.YtgldkfaiofkhbaaDoor.Bytes Go.Proofs.YtgldkfaiofkhbaaDoor.TreeMath Go.Proofs.YtgldkfaiofkhbaaDoor.Sides Go.Proofs.YtgldkfaiofkhbaaDoor.TreeMem Go.Proofs.YtgldkfaiofkhbaaDoor.TreeRoot Go.Proofs.YtgldkfaiofkhbaaDoor.Held Go.Proofs.YtgldkfaiofkhbaaDoor.Own Go.Proofs.YtgldkfaiofkhbaaDoor.ProofBeside Go.Proofs.YtgldkfaiofkhbaaDoor.ProofEnc Go.Proofs.YtgldkfaiofkhbaaDoor.Beside17 Go.Proofs.YtgldkfaiofkhbaaDoor.Ref17 Go.Proofs.YtgldkfaiofkhbaaDoor.Ref17b Go.Proofs.YtgldkfaiofkhbaaDoor.DecIncl Go.Proofs.YtgldkfaiofkhbaaDoor.DecIncl2 Go.Proofs.YtgldkfaiofkhbaaDoor.ReadIncl Go.Proofs.YtgldkfaiofkhbaaDoor.ReadIncl2 Go.Proofs.YtgldkfaiofkhbaaDoor.Book Go.Proofs.YtgldkfaiofkhbaaDoor.Book2 Go.Proofs.YtgldkfaiofkhbaaDoor.Same8 Go.Proofs.YtgldkfaiofkhbaaDoor.Book8

set_option maxRecDepth 100000 in
theorem few17_yes (A : Option Addr) (n c : Nat) (hn : n ≤ 300) (w : World) :
    Calls Tryd.prog 14 #[.slice A n c, .int .i64 300] w fun e w' => e = .returned (.slice A n c) ∧ w = w' := by
  have h1 : (n : Int) ≤ 300 := by omega
  go_enter Tryd.func14, Tryd.ntmps14
  go_wp2_with fail
  go_ret
  exact ⟨rfl, rfl⟩
set_option maxRecDepth 100000 in
theorem few17_no (A : Option Addr) (n c : Nat) (hn : 300 < n) (hc : n ≤ c) (w : World) :
    Calls Tryd.prog 14 #[.slice A n c, .int .i64 300] w fun e w' => e = .returned (.slice A 300 c) ∧ w = w' := by
  have h1 : (300 : Int) < (n : Int) := by omega
  have X := run_headD (A := A) (n := n) (c := c) (k := 300) (by omega) 300 rfl
  go_enter Tryd.func14, Tryd.ntmps14
  go_wp2_with fail
  go_ret
  exact ⟨rfl, rfl⟩
theorem few17_any (A : Option Addr) (n c : Nat) (hc : n ≤ c) (w : World) :
    Calls Tryd.prog 14 #[.slice A n c, .int .i64 300] w fun e w' => e = .returned (.slice A (min n 300) c) ∧ w = w' := by
  by_cases h : n ≤ 300
  · rw [Nat.min_eq_left h]
    exact few17_yes A n c h w
  · rw [Nat.min_eq_right (by omega)]
    exact few17_no A n c (by omega) hc w

end Go.Proofs.YtgldkfaiofkhbaaDoor.Law17a

namespace Go.Proofs.YtgldkfaiofkhbaaDoor.PieceB
open Go Go.RowKit Go.Proofs.YtgldkfaiofkhbaaDoor Go.Proofs.YtgldkfaiofkhbaaDoor.Mem Go.Proofs.YtgldkfaiofkhbaaDoor.Sha Go.Proofs.YtgldkfaiofkhbaaDoor.Bytes Go.Proofs.YtgldkfaiofkhbaaDoor.Octet Go.Proofs.YtgldkfaiofkhbaaDoor.Octet2 Go.Proofs.YtgldkfaiofkhbaaDoor.TreeMem Go.Proofs.YtgldkfaiofkhbaaDoor.Reader Go.Proofs.YtgldkfaiofkhbaaDoor.Reader4 Go.Proofs.YtgldkfaiofkhbaaDoor.ProofEnc Go.Proofs.YtgldkfaiofkhbaaDoor.DecIncl Go.Proofs.YtgldkfaiofkhbaaDoor.ReadIncl Go.Proofs.YtgldkfaiofkhbaaDoor.Octet4

/-- A row of a piece: its number, the event, the digests. -/
structure Row where
  y : Nat
  e : Text
  ds : List Text
def rowB (r : Row) : Text := be8 r.y ++ (be4 r.e.length ++ (r.e ++ r.ds.flatten))
def rowsB (l : List Row) : Text := l.flatMap rowB
theorem rowB_len (r : Row) (h : Digs r.ds) : (rowB r).length = 12 + r.e.length + 32 * r.ds.length := by
  simp only [rowB, List.length_append, be8_len, be4_len, flat32_len r.ds h]
  omega
theorem be4_num (a : Text) (h : a.length = 4) : be4 (num a) = a := by
  match a, h with
  | [a0, a1, a2, a3], _ =>
    have e : num [a0, a1, a2, a3] = ((a0.toNat * 256 + a1.toNat) * 256 + a2.toNat) * 256 + a3.toNat := by simp [num]
    have b0 := a0.isLt
    have b1 := a1.isLt
    have b2 := a2.isLt
    have b3 := a3.isLt
    rw [e]
    have hb : ∀ (N n : Nat) (x : BitVec 8), N / 2 ^ n % 256 = x.toNat → byteAt N n = x := fun N n x h => by
      unfold byteAt
      apply BitVec.eq_of_toNat_eq
      rw [BitVec.toNat_ofNat]
      exact h
    show [byteAt _ 24, byteAt _ 16, byteAt _ 8, byteAt _ 0] = _
    rw [hb _ 24 a0 (by omega), hb _ 16 a1 (by omega), hb _ 8 a2 (by omega), hb _ 0 a3 (by omega)]
theorem num_be8 (N : Nat) (h : N < 18446744073709551616) : num (be8 N) = N := by
  have e : be8 N = [byteAt N 56, byteAt N 48, byteAt N 40, byteAt N 32, byteAt N 24, byteAt N 16, byteAt N 8, byteAt N 0] := rfl
  rw [e]
  simp only [num, List.foldl_cons, List.foldl_nil, byteAt, BitVec.toNat_ofNat]
  omega
theorem chunks_of_flat : ∀ (ds : List Text) (r : Text), Digs ds → chunks (ds.flatten ++ r) ds.length = ds
  | [], r, _ => rfl
  | d :: ds, r, h => by
    have hd : d.length = 32 := h d (List.mem_cons_self ..)
    have e : chunks ((d :: ds).flatten ++ r) (ds.length + 1) = ((d :: ds).flatten ++ r).take 32 :: chunks (((d :: ds).flatten ++ r).drop 32) ds.length := by
      unfold chunks
      rw [List.range_succ_eq_map, List.map_cons, List.map_map]
      congr 1
      apply List.map_congr_left
      intro j _
      show chunk _ (j + 1) = chunk _ j
      unfold chunk
      rw [List.drop_drop, show 32 * (j + 1) = 32 + 32 * j by omega]
    rw [List.length_cons, e, List.flatten_cons, List.append_assoc, List.take_left' hd, List.drop_left' hd, chunks_of_flat ds r (fun x hx => h x (List.mem_cons_of_mem _ hx))]
/-- The eight and the four bytes from a place on. -/
def n8 (q : Text) (o : Nat) : Nat := num ((q.drop o).take 8)
def n4 (q : Text) (o : Nat) : Nat := num ((q.drop o).take 4)
/-- The row that stands at a place, and where the next one stands; c: how many digests the way of a number has. -/
def rowAt (c : Nat → Nat) (q : Text) (o : Nat) : Row := ⟨n8 q o, (q.drop (o + 12)).take (n4 q (o + 8)), chunks (q.drop (o + 12 + n4 q (o + 8))) (c (n8 q o))⟩
def nxt (c : Nat → Nat) (q : Text) (o : Nat) : Nat := o + 12 + n4 q (o + 8) + 32 * c (n8 q o)
def rowsAt (c : Nat → Nat) (q : Text) : Nat → Nat → List Row
  | _, 0 => []
  | o, n + 1 => rowAt c q o :: rowsAt c q (nxt c q o) n
def endAt (c : Nat → Nat) (q : Text) : Nat → Nat → Nat
  | o, 0 => o
  | o, n + 1 => endAt c q (nxt c q o) n
theorem rowsAt_len (c : Nat → Nat) (q : Text) : ∀ (n o : Nat), (rowsAt c q o n).length = n
  | 0, _ => rfl
  | n + 1, o => by rw [rowsAt, List.length_cons, rowsAt_len c q n]
theorem endAt_succ (c : Nat → Nat) (q : Text) : ∀ (n o : Nat), endAt c q o (n + 1) = nxt c q (endAt c q o n)
  | 0, _ => rfl
  | n + 1, o => by
    show endAt c q (nxt c q o) (n + 1) = nxt c q (endAt c q (nxt c q o) n)
    exact endAt_succ c q n _
theorem nxt_ge (c : Nat → Nat) (q : Text) (o : Nat) : o + 12 ≤ nxt c q o := by unfold nxt; omega
theorem endAt_ge (c : Nat → Nat) (q : Text) : ∀ (n o : Nat), o + 12 * n ≤ endAt c q o n
  | 0, o => Nat.le_refl _
  | n + 1, o => by
    have h1 := endAt_ge c q n (nxt c q o)
    have h2 := nxt_ge c q o
    show o + 12 * (n + 1) ≤ endAt c q (nxt c q o) n
    omega
theorem endAt_mono (c : Nat → Nat) (q : Text) (o : Nat) : ∀ (k n : Nat), n ≤ k → endAt c q o n ≤ endAt c q o k
  | 0, n, h => by
    obtain rfl : n = 0 := by omega
    exact Nat.le_refl _
  | k + 1, n, h => by
    by_cases hn : n = k + 1
    · rw [hn]; exact Nat.le_refl _
    · have h1 := endAt_mono c q o k n (by omega)
      have h2 := nxt_ge c q (endAt c q o k)
      rw [endAt_succ]
      omega
/-- What stands there is laid down as it stood. -/
theorem rowB_at (c : Nat → Nat) (q : Text) (o : Nat) (h : nxt c q o ≤ q.length) : rowB (rowAt c q o) = (q.drop o).take (nxt c q o - o) ∧ (rowAt c q o).e.length = n4 q (o + 8) ∧ Digs (rowAt c q o).ds ∧ (rowAt c q o).ds.length = c (n8 q o) := by
  unfold nxt at h
  have l8 : ((q.drop o).take 8).length = 8 := by rw [List.length_take, List.length_drop]; omega
  have l4 : ((q.drop (o + 8)).take 4).length = 4 := by rw [List.length_take, List.length_drop]; omega
  have hk : ((q.drop (o + 12)).take (n4 q (o + 8))).length = n4 q (o + 8) := by rw [List.length_take, List.length_drop]; omega
  have hc : 32 * c (n8 q o) ≤ (q.drop (o + 12 + n4 q (o + 8))).length := by rw [List.length_drop]; omega
  refine ⟨?_, hk, chunks_digs _ _ hc, chunks_len _ _⟩
  show be8 (n8 q o) ++ (be4 ((q.drop (o + 12)).take (n4 q (o + 8))).length ++ ((q.drop (o + 12)).take (n4 q (o + 8)) ++ (chunks (q.drop (o + 12 + n4 q (o + 8))) (c (n8 q o))).flatten)) = _
  rw [hk]
  have ef : (chunks (q.drop (o + 12 + n4 q (o + 8))) (c (n8 q o))).flatten = (q.drop (o + 12 + n4 q (o + 8))).take (32 * c (n8 q o)) := by
    have e : chunks (q.drop (o + 12 + n4 q (o + 8))) (c (n8 q o)) = chunks ((q.drop (o + 12 + n4 q (o + 8))).take (32 * c (n8 q o))) (c (n8 q o)) := by
      unfold chunks
      apply List.map_congr_left
      intro j hj
      rw [List.mem_range] at hj
      unfold chunk
      rw [List.drop_take, List.take_take]
      congr 1
      omega
    rw [e, chunks_flat _ _ (by rw [List.length_take]; omega)]
  rw [ef, show be8 (n8 q o) = (q.drop o).take 8 from be8_num _ l8, show be4 (n4 q (o + 8)) = (q.drop (o + 8)).take 4 from be4_num _ l4]
  have split : ∀ (a b : Nat) (p : Text), p.take (a + b) = p.take a ++ (p.drop a).take b := fun a b p => List.take_add
  unfold nxt
  rw [show o + 12 + n4 q (o + 8) + 32 * c (n8 q o) - o = 8 + (4 + (n4 q (o + 8) + 32 * c (n8 q o))) by omega, split, split, split, List.drop_drop, List.drop_drop, List.drop_drop, show o + 8 + 4 = o + 12 by omega]
theorem rowsB_at (c : Nat → Nat) (q : Text) : ∀ (n o : Nat), endAt c q o n ≤ q.length → rowsB (rowsAt c q o n) = (q.drop o).take (endAt c q o n - o)
  | 0, o, _ => by simp [rowsAt, rowsB, endAt]
  | n + 1, o, h => by
    have h : endAt c q (nxt c q o) n ≤ q.length := h
    have h1 := endAt_ge c q n (nxt c q o)
    have h2 := nxt_ge c q o
    have ih := rowsB_at c q n (nxt c q o) h
    have hb := (rowB_at c q o (by omega)).1
    show rowsB (rowAt c q o :: rowsAt c q (nxt c q o) n) = (q.drop o).take (endAt c q (nxt c q o) n - o)
    have e : rowsB (rowAt c q o :: rowsAt c q (nxt c q o) n) = rowB (rowAt c q o) ++ rowsB (rowsAt c q (nxt c q o) n) := by simp [rowsB]
    rw [e, hb, ih, show endAt c q (nxt c q o) n - o = (nxt c q o - o) + (endAt c q (nxt c q o) n - nxt c q o) by omega, List.take_add, List.drop_drop, show o + (nxt c q o - o) = nxt c q o by omega]
end Go.Proofs.YtgldkfaiofkhbaaDoor.PieceB

namespace Go.Proofs.YtgldkfaiofkhbaaDoor.DecIdx0
open Go Go.RowKit Go.Proofs.YtgldkfaiofkhbaaDoor Go.Proofs.YtgldkfaiofkhbaaDoor.Mem Go.Proofs.YtgldkfaiofkhbaaDoor.Sha Go.Proofs.YtgldkfaiofkhbaaDoor.Bytes Go.Proofs.YtgldkfaiofkhbaaDoor.TreeMath Go.Proofs.YtgldkfaiofkhbaaDoor.Sides Go.Proofs.YtgldkfaiofkhbaaDoor.TreeMem Go.Proofs.YtgldkfaiofkhbaaDoor.TreeRoot Go.Proofs.YtgldkfaiofkhbaaDoor.Held Go.Proofs.YtgldkfaiofkhbaaDoor.Reader Go.Proofs.YtgldkfaiofkhbaaDoor.Reader2 Go.Proofs.YtgldkfaiofkhbaaDoor.Reader3 Go.Proofs.YtgldkfaiofkhbaaDoor.Reader4 Go.Proofs.YtgldkfaiofkhbaaDoor.ProofBeside Go.Proofs.YtgldkfaiofkhbaaDoor.Beside17 Go.Proofs.YtgldkfaiofkhbaaDoor.Ref17 Go.Proofs.YtgldkfaiofkhbaaDoor.Ref17b

theorem b8_50 {y : BitVec 8} : b8 y = 50 ↔ y = 50 := by
  constructor
  · intro h
    exact b8_inj (h.trans (show (50 : Int) = b8 50 by rfl))
  · rintro rfl
    rfl
set_option maxRecDepth 100000 in
set_option maxHeartbeats 1000000 in
theorem begun_long (k : Nat) (h : 9000 < k) (A : Option Addr) (c : Nat) (w : World) :
    Calls Tryd.prog 64 #[.slice A k c, .int .i64 9000, .int .u8 50] w fun e w' => e = .returned (.tuple #[.pointer none, .int .i64 170]) ∧ w = w' := by
  have y1 : (9000 : Int) < (k : Int) := by omega
  clear h
  go_enter Tryd.func64, Tryd.ntmps64
  go_wp2_with fail
  go_ret2
  exact ⟨rfl, rfl⟩
set_option maxRecDepth 100000 in
set_option maxHeartbeats 1000000 in
theorem begun_yes (q : Text) (k : Nat) (hk : q.length = k) (h9 : ¬ 9000 < k) (h1 : 1 ≤ k) (hy : q.getD 0 0 = 50) (A : Option Addr) (c : Nat) (w : World) (hr : Reads w 1 A k (cells8 q)) (hnil : A = none → k = 0 ∧ c = 0) :
    Calls Tryd.prog 64 #[.slice A k c, .int .i64 9000, .int .u8 50] w fun e w' => ∃ g A' c', e = .returned (.tuple #[.pointer (some ⟨g, 0, none⟩), .int .i64 0]) ∧ w.heap.size ≤ g ∧ Rd w' g q A' c' 1 ∧ Below w.heap.size w w' := by
  have y1 : decide ((9000 : Int) < (k : Int)) = false := decide_eq_false (by omega)
  have y2 : ¬ ((9000 : Int) < (k : Int)) := by omega
  have hR := Lib.hid (read_any q k hk (by omega) A c w hr hnil)
  have hT := Lib.hid (fun g A' c' w' (h : Rd w' g q A' c' 0) => take1_any q (by omega) g 0 A' c' w' h)
  have hq1 : Hid (0 + 1 ≤ q.length) := by show _ ≤ _; omega
  have hyy := Lib.hid hy
  have hw1 : Hid (whyOf (0 + 1) q.length = 0) := if_pos (by omega)
  clear hr hnil hk h9 h1 hy
  go_enter Tryd.func64, Tryd.ntmps64
  go_wp2_with fail
  refine hR.out.mono ?_
  rintro e w1 ⟨g, A', c', rfl, hg, hb, hRd⟩
  replace hg := Lib.hid hg
  replace hb := Lib.hid hb
  replace hRd := Lib.hid hRd
  go_wp2_with fail
  refine (hT.out g A' c' w1 hRd.out).mono ?_
  rintro e w2 ⟨y, rfl, hy2, hR2, hk2⟩
  obtain rfl : y = 50 := (hy2 hq1.out).trans hyy.out
  have hb2 : Hid (Below w.heap.size w w2) := hb.out.trans (Kept.below_of hk2 hg.out hb.out.size)
  have e50 : b8 (50 : BitVec 8) = 50 := rfl
  have hW := Lib.hid (why_any q g (0 + 1) A' c' w2 hR2)
  rw [hw1.out] at hW
  replace hR2 := Lib.hid hR2
  clear hy2 hk2
  rw [e50]
  go_wp2_with (go_at_call 66; refine hW.out.mono ?_; rintro e w3 ⟨rfl, rfl⟩)
  go_ret2
  exact ⟨g, A', c', rfl, hg.out, hR2.out, hb2.out⟩
set_option maxRecDepth 100000 in
set_option maxHeartbeats 1000000 in
theorem begun_no (q : Text) (k : Nat) (hk : q.length = k) (h9 : ¬ 9000 < k) (hn : ¬ (1 ≤ k ∧ q.getD 0 0 = 50)) (A : Option Addr) (c : Nat) (w : World) (hr : Reads w 1 A k (cells8 q)) (hnil : A = none → k = 0 ∧ c = 0) :
    Calls Tryd.prog 64 #[.slice A k c, .int .i64 9000, .int .u8 50] w fun e w' => e = .returned (.tuple #[.pointer none, .int .i64 8]) ∧ Below w.heap.size w w' := by
  have y1 : decide ((9000 : Int) < (k : Int)) = false := decide_eq_false (by omega)
  have y2 : ¬ ((9000 : Int) < (k : Int)) := by omega
  have hR := Lib.hid (read_any q k hk (by omega) A c w hr hnil)
  have hT := Lib.hid (fun g A' c' w' (h : Rd w' g q A' c' 0) => take1_any q (by omega) g 0 A' c' w' h)
  have hnn := Lib.hid hn
  have hkk := Lib.hid hk
  clear hr hnil hk h9 hn
  go_enter Tryd.func64, Tryd.ntmps64
  go_wp2_with fail
  refine hR.out.mono ?_
  rintro e w1 ⟨g, A', c', rfl, hg, hb, hRd⟩
  replace hg := Lib.hid hg
  replace hb := Lib.hid hb
  replace hRd := Lib.hid hRd
  go_wp2_with fail
  refine (hT.out g A' c' w1 hRd.out).mono ?_
  rintro e w2 ⟨y, rfl, hy2, hR2, hk2⟩
  have hb2 : Hid (Below w.heap.size w w2) := hb.out.trans (Kept.below_of hk2 hg.out hb.out.size)
  by_cases hy : y = 50
  · subst hy
    have hw1 : whyOf (0 + 1) q.length = 8 := if_neg (fun h => hnn.out ⟨by rw [← hkk.out]; omega, (hy2 h).symm⟩)
    have e50 : b8 (50 : BitVec 8) = 50 := rfl
    have hW := Lib.hid (why_any q g (0 + 1) A' c' w2 hR2)
    rw [hw1] at hW
    clear hy2 hk2 hR2 hw1
    rw [e50]
    go_wp2_with (go_at_call 66; refine hW.out.mono ?_; rintro e w3 ⟨rfl, rfl⟩)
    go_ret2
    exact ⟨rfl, hb2.out⟩
  · have z3 : ¬ b8 y = 50 := fun e => hy (b8_50.1 e)
    have z1 : (b8 y == 50) = false := beq_eq_false_iff_ne.2 z3
    have z2 : (b8 y != 50) = true := by rw [bne, z1]; rfl
    clear hy2 hk2 hR2 hy
    go_wp2_with fail
    go_ret2
    exact ⟨rfl, hb2.out⟩
/-- What beside answers, at any numbers. -/
def bsNum (size i : Int) : Int := if insideB size i = true then ((sides size.toNat i.toNat).length : Int) else 0
end Go.Proofs.YtgldkfaiofkhbaaDoor.DecIdx0

namespace Go.Proofs.YtgldkfaiofkhbaaDoor.DecPiece0
open Go Go.RowKit Go.Proofs.YtgldkfaiofkhbaaDoor Go.Proofs.YtgldkfaiofkhbaaDoor.Mem Go.Proofs.YtgldkfaiofkhbaaDoor.Sha Go.Proofs.YtgldkfaiofkhbaaDoor.Bytes Go.Proofs.YtgldkfaiofkhbaaDoor.TreeMath Go.Proofs.YtgldkfaiofkhbaaDoor.Sides Go.Proofs.YtgldkfaiofkhbaaDoor.TreeMem Go.Proofs.YtgldkfaiofkhbaaDoor.TreeRoot Go.Proofs.YtgldkfaiofkhbaaDoor.Held Go.Proofs.YtgldkfaiofkhbaaDoor.Reader Go.Proofs.YtgldkfaiofkhbaaDoor.Reader2 Go.Proofs.YtgldkfaiofkhbaaDoor.Reader3 Go.Proofs.YtgldkfaiofkhbaaDoor.Reader4 Go.Proofs.YtgldkfaiofkhbaaDoor.ProofBeside Go.Proofs.YtgldkfaiofkhbaaDoor.Beside17 Go.Proofs.YtgldkfaiofkhbaaDoor.Ref17 Go.Proofs.YtgldkfaiofkhbaaDoor.Ref17b

theorem b8_51 {y : BitVec 8} : b8 y = 51 ↔ y = 51 := by
  constructor
  · intro h
    exact b8_inj (h.trans (show (51 : Int) = b8 51 by rfl))
  · rintro rfl
    rfl
set_option maxRecDepth 100000 in
set_option maxHeartbeats 1000000 in
theorem begun_long (k : Nat) (h : 2097152 < k) (A : Option Addr) (c : Nat) (w : World) :
    Calls Tryd.prog 64 #[.slice A k c, .int .i64 2097152, .int .u8 51] w fun e w' => e = .returned (.tuple #[.pointer none, .int .i64 170]) ∧ w = w' := by
  have y1 : (2097152 : Int) < (k : Int) := by omega
  clear h
  go_enter Tryd.func64, Tryd.ntmps64
  go_wp2_with fail
  go_ret2
  exact ⟨rfl, rfl⟩
set_option maxRecDepth 100000 in
set_option maxHeartbeats 1000000 in
theorem begun_yes (q : Text) (k : Nat) (hk : q.length = k) (h9 : ¬ 2097152 < k) (h1 : 1 ≤ k) (hy : q.getD 0 0 = 51) (A : Option Addr) (c : Nat) (w : World) (hr : Reads w 1 A k (cells8 q)) (hnil : A = none → k = 0 ∧ c = 0) :
    Calls Tryd.prog 64 #[.slice A k c, .int .i64 2097152, .int .u8 51] w fun e w' => ∃ g A' c', e = .returned (.tuple #[.pointer (some ⟨g, 0, none⟩), .int .i64 0]) ∧ w.heap.size ≤ g ∧ Rd w' g q A' c' 1 ∧ Below w.heap.size w w' := by
  have y1 : decide ((2097152 : Int) < (k : Int)) = false := decide_eq_false (by omega)
  have y2 : ¬ ((2097152 : Int) < (k : Int)) := by omega
  have hR := Lib.hid (read_any q k hk (by omega) A c w hr hnil)
  have hT := Lib.hid (fun g A' c' w' (h : Rd w' g q A' c' 0) => take1_any q (by omega) g 0 A' c' w' h)
  have hq1 : Hid (0 + 1 ≤ q.length) := by show _ ≤ _; omega
  have hyy := Lib.hid hy
  have hw1 : Hid (whyOf (0 + 1) q.length = 0) := if_pos (by omega)
  clear hr hnil hk h9 h1 hy
  go_enter Tryd.func64, Tryd.ntmps64
  go_wp2_with fail
  refine hR.out.mono ?_
  rintro e w1 ⟨g, A', c', rfl, hg, hb, hRd⟩
  replace hg := Lib.hid hg
  replace hb := Lib.hid hb
  replace hRd := Lib.hid hRd
  go_wp2_with fail
  refine (hT.out g A' c' w1 hRd.out).mono ?_
  rintro e w2 ⟨y, rfl, hy2, hR2, hk2⟩
  obtain rfl : y = 51 := (hy2 hq1.out).trans hyy.out
  have hb2 : Hid (Below w.heap.size w w2) := hb.out.trans (Kept.below_of hk2 hg.out hb.out.size)
  have e51 : b8 (51 : BitVec 8) = 51 := rfl
  have hW := Lib.hid (why_any q g (0 + 1) A' c' w2 hR2)
  rw [hw1.out] at hW
  replace hR2 := Lib.hid hR2
  clear hy2 hk2
  rw [e51]
  go_wp2_with (go_at_call 66; refine hW.out.mono ?_; rintro e w3 ⟨rfl, rfl⟩)
  go_ret2
  exact ⟨g, A', c', rfl, hg.out, hR2.out, hb2.out⟩
set_option maxRecDepth 100000 in
set_option maxHeartbeats 1000000 in
theorem begun_no (q : Text) (k : Nat) (hk : q.length = k) (h9 : ¬ 2097152 < k) (hn : ¬ (1 ≤ k ∧ q.getD 0 0 = 51)) (A : Option Addr) (c : Nat) (w : World) (hr : Reads w 1 A k (cells8 q)) (hnil : A = none → k = 0 ∧ c = 0) :
    Calls Tryd.prog 64 #[.slice A k c, .int .i64 2097152, .int .u8 51] w fun e w' => e = .returned (.tuple #[.pointer none, .int .i64 8]) ∧ Below w.heap.size w w' := by
  have y1 : decide ((2097152 : Int) < (k : Int)) = false := decide_eq_false (by omega)
  have y2 : ¬ ((2097152 : Int) < (k : Int)) := by omega
  have hR := Lib.hid (read_any q k hk (by omega) A c w hr hnil)
  have hT := Lib.hid (fun g A' c' w' (h : Rd w' g q A' c' 0) => take1_any q (by omega) g 0 A' c' w' h)
  have hnn := Lib.hid hn
  have hkk := Lib.hid hk
  clear hr hnil hk h9 hn
  go_enter Tryd.func64, Tryd.ntmps64
  go_wp2_with fail
  refine hR.out.mono ?_
  rintro e w1 ⟨g, A', c', rfl, hg, hb, hRd⟩
  replace hg := Lib.hid hg
  replace hb := Lib.hid hb
  replace hRd := Lib.hid hRd
  go_wp2_with fail
  refine (hT.out g A' c' w1 hRd.out).mono ?_
  rintro e w2 ⟨y, rfl, hy2, hR2, hk2⟩
  have hb2 : Hid (Below w.heap.size w w2) := hb.out.trans (Kept.below_of hk2 hg.out hb.out.size)
  by_cases hy : y = 51
  · subst hy
    have hw1 : whyOf (0 + 1) q.length = 8 := if_neg (fun h => hnn.out ⟨by rw [← hkk.out]; omega, (hy2 h).symm⟩)
    have e51 : b8 (51 : BitVec 8) = 51 := rfl
    have hW := Lib.hid (why_any q g (0 + 1) A' c' w2 hR2)
    rw [hw1] at hW
    clear hy2 hk2 hR2 hw1
    rw [e51]
    go_wp2_with (go_at_call 66; refine hW.out.mono ?_; rintro e w3 ⟨rfl, rfl⟩)
    go_ret2
    exact ⟨rfl, hb2.out⟩
  · have z3 : ¬ b8 y = 51 := fun e => hy (b8_51.1 e)
    have z1 : (b8 y == 51) = false := beq_eq_false_iff_ne.2 z3
    have z2 : (b8 y != 51) = true := by rw [bne, z1]; rfl
    clear hy2 hk2 hR2 hy
    go_wp2_with fail
    go_ret2
    exact ⟨rfl, hb2.out⟩
end Go.Proofs.YtgldkfaiofkhbaaDoor.DecPiece0
