/-
  Texts of the claim, put into one file: DecIncl, DecIncl2, Bytes17, Way17, ReadIncl, PieceB, ReadIncl2, Law17a, DecPiece0, DecIdx0, Way17S.
-/
import Derived.Test.YtmdkfhfkdcbpgaaZ17
import Derived.Test.YtmdkfhfkdcbpgaaZ16
import Derived.Test.YtmdkfhfkdcbpgaaZ5
import Derived.Test.YtmdkfhfkdcbpgaaZ7
import Derived.Test.YtmdkfhfkdcbpgaaZ14
import Derived.Test.YtmdkfhfkdcbpgaaZ9
import Derived.WalkSpells

namespace Go.Proofs.Ytmdkfhfkdcbpgaa.DecIncl
open Go Go.RowKit Go.Proofs.Ytmdkfhfkdcbpgaa Go.Proofs.Ytmdkfhfkdcbpgaa.Mem Go.Proofs.Ytmdkfhfkdcbpgaa.Sha Go.Proofs.Ytmdkfhfkdcbpgaa.Bytes Go.Proofs.Ytmdkfhfkdcbpgaa.TreeMath Go.Proofs.Ytmdkfhfkdcbpgaa.Sides Go.Proofs.Ytmdkfhfkdcbpgaa.TreeMem Go.Proofs.Ytmdkfhfkdcbpgaa.TreeRoot Go.Proofs.Ytmdkfhfkdcbpgaa.Held Go.Proofs.Ytmdkfhfkdcbpgaa.Reader Go.Proofs.Ytmdkfhfkdcbpgaa.Reader2 Go.Proofs.Ytmdkfhfkdcbpgaa.Reader3 Go.Proofs.Ytmdkfhfkdcbpgaa.Reader4 Go.Proofs.Ytmdkfhfkdcbpgaa.ProofBeside Go.Proofs.Ytmdkfhfkdcbpgaa.Beside17 Go.Proofs.Ytmdkfhfkdcbpgaa.Ref17 Go.Proofs.Ytmdkfhfkdcbpgaa.Ref17b

/-- What bytes are read as, if they are an inclusion proof. -/
def decIncl (q : Text) : Option (Nat × Nat × List Text) :=
  if 17 ≤ q.length ∧ q.getD 0 0 = 48 ∧ insideB (num ((q.drop 1).take 8)) (num ((q.drop 9).take 8)) = true ∧ q.length = 17 + 32 * (sides (num ((q.drop 1).take 8)) (num ((q.drop 9).take 8))).length
  then some (num ((q.drop 1).take 8), num ((q.drop 9).take 8), chunks (q.drop 17) (sides (num ((q.drop 1).take 8)) (num ((q.drop 9).take 8))).length) else none
/-- The answer: size, number, way, refusal. -/
def decAns (q : Text) : Int × Int × List Text × Int :=
  if 9000 < q.length then (0, 0, [], 170) else match decIncl q with
    | none => (0, 0, [], 8)
    | some (s, i, l) => ((s : Int), (i : Int), l, 0)
theorem decAns_fail {q : Text} (h : ¬ 9000 < q.length) (h2 : ¬ (17 ≤ q.length ∧ q.getD 0 0 = 48 ∧ insideB (num ((q.drop 1).take 8)) (num ((q.drop 9).take 8)) = true ∧ q.length = 17 + 32 * (sides (num ((q.drop 1).take 8)) (num ((q.drop 9).take 8))).length)) : decAns q = (0, 0, [], 8) := by
  unfold decAns decIncl
  rw [if_neg h, if_neg h2]
theorem decAns_ok {q : Text} (h : ¬ 9000 < q.length) (h2 : 17 ≤ q.length ∧ q.getD 0 0 = 48 ∧ insideB (num ((q.drop 1).take 8)) (num ((q.drop 9).take 8)) = true ∧ q.length = 17 + 32 * (sides (num ((q.drop 1).take 8)) (num ((q.drop 9).take 8))).length) : decAns q = ((num ((q.drop 1).take 8) : Int), (num ((q.drop 9).take 8) : Int), chunks (q.drop 17) (sides (num ((q.drop 1).take 8)) (num ((q.drop 9).take 8))).length, 0) := by
  unfold decAns decIncl
  rw [if_neg h, if_pos h2]

/-- A taken number, as an int: what is above the log's bound may be anything. -/
def lgInt (N : Nat) : Int := wrap64 (N : Int)
theorem lgInt_le {N : Nat} (h : N ≤ 1099511627776) : lgInt N = (N : Int) := IntWalk.wrap64_in _ (by omega)
theorem ret2b {a a' : Int} {b b' : Bool} (h1 : a = a') (h2 : b = b') : Ending.returned (.tuple #[.int .i64 a, .bool b]) = .returned (.tuple #[.int .i64 a', .bool b']) := by rw [h1, h2]
set_option maxRecDepth 100000 in
set_option maxHeartbeats 1000000 in
theorem ptake_any (q : Text) (hq : q.length < 140737488355328) (g need : Nat) (A : Option Addr) (c : Nat) (w : World) (h : Rd w g q A c need) :
    Calls Try.prog 56 #[.pointer (some ⟨g, 0, none⟩)] w fun e w' => ∃ N : Nat, e = .returned (.tuple #[.int .i64 (lgInt N), .bool (decide (N ≤ 1099511627776))]) ∧ (need + 8 ≤ q.length → N = num ((q.drop need).take 8)) ∧ Rd w' g q A c (need + 8) ∧ Kept (· = g) w w' := by
  have hT := Lib.hid (take8_any q hq g need A c w h)
  clear h hq
  go_enter Try.func56, Try.ntmps56
  go_wp2_with fail
  refine hT.out.mono ?_
  rintro e w1 ⟨N, rfl, hN, hnum, hR, hk⟩
  replace hR := Lib.hid hR
  replace hk := Lib.hid hk
  replace hnum := Lib.hid hnum
  have e2 : decide ((N : Int) ≤ 1099511627776) = decide (N ≤ 1099511627776) := by
    by_cases h : N ≤ 1099511627776
    · rw [decide_eq_true h]; exact decide_eq_true (by omega)
    · rw [decide_eq_false h]; exact decide_eq_false (by omega)
  go_wp2_with fail
  go_ret2
  exact ⟨N, ret2b rfl (by first | rfl | exact e2 | trace_state), hnum.out, hR.out, hk.out⟩

theorem b8_48 {y : BitVec 8} : b8 y = 48 ↔ y = 48 := by
  constructor
  · intro h
    exact b8_inj (h.trans (show (48 : Int) = b8 48 by rfl))
  · rintro rfl
    rfl
set_option maxRecDepth 100000 in
set_option maxHeartbeats 1000000 in
theorem begun_long (k : Nat) (h : 9000 < k) (A : Option Addr) (c : Nat) (w : World) :
    Calls Try.prog 52 #[.slice A k c, .int .i64 9000, .int .u8 48] w fun e w' => e = .returned (.tuple #[.pointer none, .int .i64 170]) ∧ w = w' := by
  have y1 : (9000 : Int) < (k : Int) := by omega
  clear h
  go_enter Try.func52, Try.ntmps52
  go_wp2_with fail
  go_ret2
  exact ⟨rfl, rfl⟩
set_option maxRecDepth 100000 in
set_option maxHeartbeats 1000000 in
theorem begun_yes (q : Text) (k : Nat) (hk : q.length = k) (h9 : ¬ 9000 < k) (h1 : 1 ≤ k) (hy : q.getD 0 0 = 48) (A : Option Addr) (c : Nat) (w : World) (hr : Reads w 1 A k (cells8 q)) (hnil : A = none → k = 0 ∧ c = 0) :
    Calls Try.prog 52 #[.slice A k c, .int .i64 9000, .int .u8 48] w fun e w' => ∃ g A' c', e = .returned (.tuple #[.pointer (some ⟨g, 0, none⟩), .int .i64 0]) ∧ w.heap.size ≤ g ∧ Rd w' g q A' c' 1 ∧ Below w.heap.size w w' := by
  have y1 : decide ((9000 : Int) < (k : Int)) = false := decide_eq_false (by omega)
  have y2 : ¬ ((9000 : Int) < (k : Int)) := by omega
  have hR := Lib.hid (read_any q k hk (by omega) A c w hr hnil)
  have hT := Lib.hid (fun g A' c' w' (h : Rd w' g q A' c' 0) => take1_any q (by omega) g 0 A' c' w' h)
  have hq1 : Hid (0 + 1 ≤ q.length) := by show _ ≤ _; omega
  have hyy := Lib.hid hy
  have hw1 : Hid (whyOf (0 + 1) q.length = 0) := if_pos (by omega)
  clear hr hnil hk h9 h1 hy
  go_enter Try.func52, Try.ntmps52
  go_wp2_with fail
  refine hR.out.mono ?_
  rintro e w1 ⟨g, A', c', rfl, hg, hb, hRd⟩
  replace hg := Lib.hid hg
  replace hb := Lib.hid hb
  replace hRd := Lib.hid hRd
  go_wp2_with fail
  refine (hT.out g A' c' w1 hRd.out).mono ?_
  rintro e w2 ⟨y, rfl, hy2, hR2, hk2⟩
  obtain rfl : y = 48 := (hy2 hq1.out).trans hyy.out
  have hb2 : Hid (Below w.heap.size w w2) := hb.out.trans (Kept.below_of hk2 hg.out hb.out.size)
  have e48 : b8 (48 : BitVec 8) = 48 := rfl
  have hW := Lib.hid (why_any q g (0 + 1) A' c' w2 hR2)
  rw [hw1.out] at hW
  replace hR2 := Lib.hid hR2
  clear hy2 hk2
  rw [e48]
  go_wp2_with (go_at_call 73; refine hW.out.mono ?_; rintro e w3 ⟨rfl, rfl⟩)
  go_ret2
  exact ⟨g, A', c', rfl, hg.out, hR2.out, hb2.out⟩
set_option maxRecDepth 100000 in
set_option maxHeartbeats 1000000 in
theorem begun_no (q : Text) (k : Nat) (hk : q.length = k) (h9 : ¬ 9000 < k) (hn : ¬ (1 ≤ k ∧ q.getD 0 0 = 48)) (A : Option Addr) (c : Nat) (w : World) (hr : Reads w 1 A k (cells8 q)) (hnil : A = none → k = 0 ∧ c = 0) :
    Calls Try.prog 52 #[.slice A k c, .int .i64 9000, .int .u8 48] w fun e w' => e = .returned (.tuple #[.pointer none, .int .i64 8]) ∧ Below w.heap.size w w' := by
  have y1 : decide ((9000 : Int) < (k : Int)) = false := decide_eq_false (by omega)
  have y2 : ¬ ((9000 : Int) < (k : Int)) := by omega
  have hR := Lib.hid (read_any q k hk (by omega) A c w hr hnil)
  have hT := Lib.hid (fun g A' c' w' (h : Rd w' g q A' c' 0) => take1_any q (by omega) g 0 A' c' w' h)
  have hnn := Lib.hid hn
  have hkk := Lib.hid hk
  clear hr hnil hk h9 hn
  go_enter Try.func52, Try.ntmps52
  go_wp2_with fail
  refine hR.out.mono ?_
  rintro e w1 ⟨g, A', c', rfl, hg, hb, hRd⟩
  replace hg := Lib.hid hg
  replace hb := Lib.hid hb
  replace hRd := Lib.hid hRd
  go_wp2_with fail
  refine (hT.out g A' c' w1 hRd.out).mono ?_
  rintro e w2 ⟨y, rfl, hy2, hR2, hk2⟩
  have hb2 : Hid (Below w.heap.size w w2) := hb.out.trans (Kept.below_of hk2 hg.out hb.out.size)
  by_cases hy : y = 48
  · subst hy
    have hw1 : whyOf (0 + 1) q.length = 8 := if_neg (fun h => hnn.out ⟨by rw [← hkk.out]; omega, (hy2 h).symm⟩)
    have e48 : b8 (48 : BitVec 8) = 48 := rfl
    have hW := Lib.hid (why_any q g (0 + 1) A' c' w2 hR2)
    rw [hw1] at hW
    clear hy2 hk2 hR2 hw1
    rw [e48]
    go_wp2_with (go_at_call 73; refine hW.out.mono ?_; rintro e w3 ⟨rfl, rfl⟩)
    go_ret2
    exact ⟨rfl, hb2.out⟩
  · have z3 : ¬ b8 y = 48 := fun e => hy (b8_48.1 e)
    have z1 : (b8 y == 48) = false := beq_eq_false_iff_ne.2 z3
    have z2 : (b8 y != 48) = true := by rw [bne, z1]; rfl
    clear hy2 hk2 hR2 hy
    go_wp2_with fail
    go_ret2
    exact ⟨rfl, hb2.out⟩
/-- What beside answers, at any numbers. -/
def bsNum (size i : Int) : Int := if insideB size i = true then ((sides size.toNat i.toNat).length : Int) else 0
theorem beside_all (size i : Int) (w : World) : Calls Try.prog 75 #[.int .i64 size, .int .i64 i] w fun e w' => e = .returned (.tuple #[.int .i64 (bsNum size i), .bool (insideB size i)]) ∧ w = w' := by
  unfold bsNum
  cases h : insideB size i with
  | true =>
    have h2 := h
    simp only [insideB, Bool.and_eq_true, decide_eq_true_eq] at h2
    obtain ⟨sz, rfl⟩ := Int.eq_ofNat_of_zero_le (show 0 ≤ size by omega)
    obtain ⟨j, rfl⟩ := Int.eq_ofNat_of_zero_le h2.1.2
    rw [if_pos rfl, Int.toNat_natCast, Int.toNat_natCast, ← beside_sides (show j < sz by omega)]
    exact beside_yes sz j (by omega) (by omega) w
  | false =>
    rw [if_neg (by decide)]
    exact beside_no size i h w
end Go.Proofs.Ytmdkfhfkdcbpgaa.DecIncl

namespace Go.Proofs.Ytmdkfhfkdcbpgaa.DecIncl2
open Go Go.RowKit Go.Proofs.Ytmdkfhfkdcbpgaa Go.Proofs.Ytmdkfhfkdcbpgaa.Mem Go.Proofs.Ytmdkfhfkdcbpgaa.Sha Go.Proofs.Ytmdkfhfkdcbpgaa.Bytes Go.Proofs.Ytmdkfhfkdcbpgaa.TreeMath Go.Proofs.Ytmdkfhfkdcbpgaa.Sides Go.Proofs.Ytmdkfhfkdcbpgaa.TreeMem Go.Proofs.Ytmdkfhfkdcbpgaa.TreeRoot Go.Proofs.Ytmdkfhfkdcbpgaa.Held Go.Proofs.Ytmdkfhfkdcbpgaa.Reader Go.Proofs.Ytmdkfhfkdcbpgaa.Reader2 Go.Proofs.Ytmdkfhfkdcbpgaa.Reader3 Go.Proofs.Ytmdkfhfkdcbpgaa.Reader4 Go.Proofs.Ytmdkfhfkdcbpgaa.ProofBeside Go.Proofs.Ytmdkfhfkdcbpgaa.Beside17 Go.Proofs.Ytmdkfhfkdcbpgaa.Ref17 Go.Proofs.Ytmdkfhfkdcbpgaa.Ref17b Go.Proofs.Ytmdkfhfkdcbpgaa.DecIncl

theorem results_cell_row2 {P : Program} {fn : Func} {p u : Tmp} {ty : TypeId} (h : fn.results = #[.cell p ty, .tmp u]) (tmps : Array Value) (w : World) (g : Nat) (t : TypeId) (cs : Array Value) (fr : Nat × Nat) (d : TypeDesc)
    (hp : tmps.getD p undef = .pointer (some ⟨g, 0, none⟩)) (hg : w.heap[g]? = some (.cells cs t fr))
    (hu : P.underlying ty = some d) (hd : (match d with | .struct _ | .array _ _ => true | _ => false) = true) (hi : (P.info? ty).map (·.size) = some cs.size) :
    (results fn tmps).run P w = .ok (.tuple #[.agg cs, tmps.getD u undef]) w := by
  have hp' : tmps[p]?.getD undef = .pointer (some ⟨g, 0, none⟩) := by simpa using hp
  simp [results, h, hp', asAddr, run_loadVar_row w g t ty cs fr d hg hu hd hi, Result.andThen]
end Go.Proofs.Ytmdkfhfkdcbpgaa.DecIncl2

namespace Go.Proofs.Ytmdkfhfkdcbpgaa.Bytes17
open Go Go.RowKit Go.Proofs.Ytmdkfhfkdcbpgaa Go.Proofs.Ytmdkfhfkdcbpgaa.Mem Go.Proofs.Ytmdkfhfkdcbpgaa.Sha Go.Proofs.Ytmdkfhfkdcbpgaa.Bytes Go.Proofs.Ytmdkfhfkdcbpgaa.TreeMath Go.Proofs.Ytmdkfhfkdcbpgaa.Sides Go.Proofs.Ytmdkfhfkdcbpgaa.TreeMem Go.Proofs.Ytmdkfhfkdcbpgaa.TreeRoot Go.Proofs.Ytmdkfhfkdcbpgaa.Reader Go.Proofs.Ytmdkfhfkdcbpgaa.DecIncl

/-- The document's reader at block g: the bytes that are left, and whether they ended too early. -/
def RB (w : World) (g B : Nat) (p : Text) (s : Bool) : Prop := B ≤ g ∧ ∃ A c, Blk w g 108 #[.slice A p.length c, .bool s] ∧ Reads w 1 A p.length (cells8 p) ∧ (A = none → p.length = 0 ∧ c = 0) ∧ (0 < p.length → ∀ a, A = some a → a.block < B) ∧ p.length ≤ c
theorem RB.lt {w : World} {g B : Nat} {p : Text} {s : Bool} (h : RB w g B p s) : g < w.heap.size := by obtain ⟨_, _, _, hb, _⟩ := h; exact hb.lt
theorem RB.below {w w' : World} {g B : Nat} {p : Text} {s : Bool} (h : RB w g B p s) (hb : Below w.heap.size w w') : RB w' g B p s := by
  obtain ⟨h0, A, c, h1, h2, h3, h4, h5⟩ := h
  exact ⟨h0, A, c, (hb.block _ h1.lt).trans h1, h2.below hb, h3, h4, h5⟩
theorem RB.drewN {w : World} {g B : Nat} {p : Text} {s : Bool} (h : RB w g B p s) (m : Nat) : RB (w.drewN m) g B p s := h
theorem RB.kept {S : Nat → Prop} {w w' : World} {g B : Nat} {p : Text} {s : Bool} (h : RB w g B p s) (hk : Kept S w w') (hg : ¬ S g) (hS : ∀ a, a < B → ¬ S a) : RB w' g B p s := by
  obtain ⟨h0, A, c, h1, h2, h3, h4, h5⟩ := h
  exact ⟨h0, A, c, h1.kept hk hg, h2.kept0 hk (fun hp b o e => hS b (h4 (by omega) _ e)), h3, h4, h5⟩
/-- What a call of next leaves. -/
def NextOut (w : World) (g B : Nat) (p : Text) (s : Bool) (n : Nat) (A' : Option Addr) (c' : Nat) (r : Text) (w' : World) : Prop :=
  Reads w' 1 A' r.length (cells8 r) ∧ (A' = none → r.length = 0 ∧ c' = 0) ∧ r.length ≤ c' ∧ (0 < r.length → ∀ a, A' = some a → a.block ≠ g ∧ a.block < w.heap.size) ∧ (n ≤ p.length → r = p.take n ∧ RB w' g B (p.drop n) s) ∧ (p.length < n → r = [] ∧ RB w' g B p true) ∧ Kept (· = g) w w' ∧ w'.heap.size = w.heap.size

set_option maxRecDepth 100000 in
set_option maxHeartbeats 1000000 in
theorem next_any (p : Text) (hp : p.length < 140737488355328) (g B n : Nat) (hn : n < 140737488355328) (s : Bool) (w : World) (h : RB w g B p s) :
    Calls Try.prog 60 #[.pointer (some ⟨g, 0, none⟩), .int .i64 (n : Int)] w fun e w' => ∃ A' c' r, e = .returned (.slice A' r.length c') ∧ NextOut w g B p s n A' c' r w' := by
  obtain ⟨hBg, A, c, hb, hr, hnil, hA0, hc⟩ := h
  have hA : 0 < p.length → ∀ a, A = some a → a.block ≠ g := fun h0 a e => by have := hA0 h0 a e; omega
  have hBg' := Lib.hid hBg
  have hAB := Lib.hid hA0
  have g0 : w.cell? ⟨g, 0, none⟩ = some (.slice A p.length c) := by rw [hb.cell 0]; rfl
  have g1 : w.cell? ⟨g, 1, none⟩ = some (.bool s) := by rw [hb.cell 1]; rfl
  have gf := hb.frozen 0
  have gf1 := hb.frozen 1
  have y1 : decide ((n : Int) < 0) = false := decide_eq_false (by omega)
  have hbl : Hid (∀ b o, 0 < p.length → A = some ⟨b, o, none⟩ → b < w.heap.size) := fun b o h0 e => by
    obtain ⟨b', o', e', hlt, -⟩ := hr.2 (by omega)
    rw [e] at e'
    injection e' with e'
    injection e' with e1 e2
    omega
  by_cases hle : n ≤ p.length
  · have y2 : ¬ (p.length < n) := by omega
    have y3 : decide (p.length < n) = false := decide_eq_false y2
    have X : ∀ w', (Instr.sliceAt 29 (.slice A p.length c) none (some (.int .i64 (n : Int))) none).run Try.prog w' = .ok (.slice A n c) w' := run_headOf (m := n) Try.underlying29 (fun _ => rfl) (by omega) _ rfl
    have Y : ∀ w', (Instr.sliceAt 29 (.slice A p.length c) (some (.int .i64 (n : Int))) none none).run Try.prog w' = .ok (.slice (cutA A n c) (p.length - n) (c - n)) w' := run_cut (m := n) Try.underlying29 (fun _ => rfl) hle
    have hn1 : Hid (n ≤ p.length) := hle
    have hbh := Lib.hid hb
    have hrh := Lib.hid hr
    have hnn := Lib.hid hnil
    have hAA := Lib.hid hA
    have hcc := Lib.hid hc
    clear hb hr hnil hA hA0 hBg hc hle hn hp
    go_enter Try.func60, Try.ntmps60
    go_wp2_with fail
    go_ret
    have hl : (p.take n).length = n := by rw [List.length_take]; have := hn1.out; omega
    have hk : Kept (· = g) w (w.setCell ⟨g, 0, none⟩ (.slice (cutA A n c) (p.length - n) (c - n))) := (Kept.refl (· = g) w).setCell (.inl rfl) _
    refine ⟨A, c, p.take n, by rw [hl]; rfl, ?_, fun e => ?_, by rw [hl]; have := hcc.out; have := hn1.out; omega, fun h0 a e => ?_, fun _ => ⟨rfl, hBg'.out, cutA A n c, c - n, ?_, ?_, fun e => ?_, fun h0 a e => ?_, ?_⟩, fun h => absurd h (by have := hn1.out; omega), hk, by simp⟩
    · have h1 := Reads.front hrh.out n hn1.out
      rw [hl]
      exact h1.kept0 hk (fun h0 b o e hS => hAA.out (by have := hn1.out; omega) _ e hS)
    · rw [hl]
      have := hnn.out e
      have := hn1.out
      omega
    · rw [hl] at h0
      have hpos : 0 < p.length := by have := hn1.out; omega
      obtain ⟨b', o', e', hlt, -⟩ := hrh.out.2 (by omega)
      rw [e] at e'
      obtain rfl := Option.some.inj e'
      exact ⟨hAA.out hpos _ e, hlt⟩
    · rw [List.length_drop]
      have := hbh.out.set_ 0 (.slice (cutA A n c) (p.length - n) (c - n))
      simpa using this
    · rw [List.length_drop]
      have h1 := Reads.cut hrh.out n hn1.out hcc.out
      have e : (cells8 p).drop n = cells8 (p.drop n) := by simp [cells8]
      rw [e] at h1
      refine h1.kept0 hk (fun h0 b o e hS => ?_)
      unfold cutA at e
      split at e
      · have := hcc.out; omega
      · cases A with
        | none => cases e
        | some a =>
          obtain ⟨b1, o1⟩ := a
          simp only [Option.map_some, Option.some.injEq] at e
          have hpos : 0 < p.length := by omega
          obtain ⟨b', o', e', hlt, -⟩ := hrh.out.2 (by omega)
          injection e' with e'
          rw [e', add_at] at e
          injection e with e1 e2
          have := hAA.out hpos _ rfl
          rw [e'] at this
          exact this (by show b' = g; rw [e1]; exact hS)
    · have h1 : A = none := by
        unfold cutA at e
        split at e
        · exact e
        · cases A with
          | none => rfl
          | some a => cases e
      have := hnn.out h1
      rw [List.length_drop]
      omega
    · rw [List.length_drop] at h0
      unfold cutA at e
      split at e
      · have := hcc.out; omega
      · cases A with
        | none => cases e
        | some a1 =>
          simp only [Option.map_some, Option.some.injEq] at e
          have hpos : 0 < p.length := by omega
          obtain ⟨b', o', e', hlt, -⟩ := hrh.out.2 (by omega)
          injection e' with e'
          have h2 := hAB.out hpos _ rfl
          rw [e'] at h2 e
          rw [add_at] at e
          rw [← e]
          exact h2
    · rw [List.length_drop]
      have := hcc.out
      omega
  · have y2 : p.length < n := by omega
    have y3 : decide (p.length < n) = true := decide_eq_true y2
    have hn1 : Hid (p.length < n) := y2
    have hbh := Lib.hid hb
    have hrh := Lib.hid hr
    have hnn := Lib.hid hnil
    have hAA := Lib.hid hA
    have hcc := Lib.hid hc
    clear hb hr hnil hA hA0 hBg hc hle hn hp
    go_enter Try.func60, Try.ntmps60
    go_wp2_with fail
    go_ret
    have hk : Kept (· = g) w (w.setCell ⟨g, 1, none⟩ (.bool true)) := (Kept.refl (· = g) w).setCell (.inl rfl) _
    exact ⟨none, 0, [], rfl, Reads.nil_ _ _ _, fun _ => ⟨rfl, rfl⟩, Nat.le_refl _, fun h => absurd h (by simp), fun h => absurd h (by have := hn1.out; omega), fun _ => ⟨rfl, hBg'.out, A, c, by have := hbh.out.set_ 1 (.bool true); simpa using this, hrh.out.kept0 hk (fun h0 b o e hS => hAA.out (by omega) _ e hS), hnn.out, hAB.out, hcc.out⟩, hk, by simp⟩

theorem wrap_step (X Y x : Int) (h : Y = wrap64 (wrap64 X * 256)) : wrap64 (Y + x) = wrap64 (X * 256 + x) := by
  subst h
  unfold wrap64
  omega
theorem num_take (r : Text) (i : Nat) (h : i < r.length) : (num (r.take (i + 1)) : Int) = (num (r.take i) : Int) * 256 + b8 (r.getD i 0) := by
  have e : r[i]? = some (r.getD i 0) := by simp [List.getD, h]
  rw [List.take_add_one, e]
  show (num (r.take i ++ [r.getD i 0]) : Int) = _
  rw [num_snoc]
  unfold b8
  simp
theorem lg_nil : lgInt (num []) = 0 := lgInt_le (N := num []) (by decide)
/-- What a call of number leaves. -/
def NumOut (w : World) (g B : Nat) (p : Text) (s : Bool) (n : Nat) (x : Int) (w' : World) : Prop :=
  (n ≤ p.length → x = lgInt (num (p.take n)) ∧ RB w' g B (p.drop n) s) ∧ (p.length < n → x = 0 ∧ RB w' g B p true) ∧ Kept (· = g) w w' ∧ w'.heap.size = w.heap.size

set_option maxRecDepth 100000 in
set_option maxHeartbeats 1000000 in
theorem number_any (p : Text) (hp : p.length < 140737488355328) (g B n : Nat) (hn : n < 140737488355328) (s : Bool) (w : World) (h : RB w g B p s) :
    Calls Try.prog 61 #[.pointer (some ⟨g, 0, none⟩), .int .i64 (n : Int)] w fun e w' => ∃ x, e = .returned (.int .i64 x) ∧ NumOut w g B p s n x w' := by
  have hT := Lib.hid (next_any p hp g B n hn s w h)
  replace hp := Lib.hid hp
  clear h hn
  go_enter Try.func61, Try.ntmps61
  go_wp2_with fail
  refine hT.out.mono ?_
  rintro e w1 ⟨A', c', r, rfl, hO⟩
  obtain ⟨h1, h2, h3, h4, h5, h6, h7, h8⟩ := hO
  have hrl : Hid (r.length < 140737488355328) := by
    show _ < _
    by_cases hle : n ≤ p.length
    · rw [(h5 hle).1, List.length_take]; have := hp.out; omega
    · rw [(h6 (by omega)).1]; simp
  have hfin : Hid (NumOut w g B p s n (lgInt (num r)) w1) := ⟨fun h => ⟨by rw [(h5 h).1], (h5 h).2⟩, fun h => ⟨by rw [(h6 h).1]; exact lg_nil, (h6 h).2⟩, h7, h8⟩
  have hr := Lib.hid h1
  clear h1 h2 h3 h4 h5 h6 h7 h8 hT hp
  obtain ⟨k, hk⟩ : ∃ k, Hid (r.length = k) := ⟨_, Lib.hid rfl⟩
  rw [hk.out] at hrl ⊢
  have hk47 : (k : Int) < 140737488355328 := by have := hrl.out; omega
  go_wp2_with fail
  go_loop [5, 7] (fun x v => ∃ i : Nat, v = .int .i64 (i : Int) ∧ i ≤ k ∧ x = .int .i64 (lgInt (num (r.take i)))) (fun _ v => k - (intOf v).toNat)
  case atStart => exact ⟨0, rfl, Nat.zero_le _, by rw [List.take_zero, lg_nil]⟩
  case round =>
    obtain ⟨i, rfl, hi, rfl⟩ := hrel
    have hi0 : (0 : Int) ≤ (i : Int) := by omega
    by_cases hlt : i < k
    · have hz : (i : Int) < (k : Int) := by omega
      obtain ⟨b, o, rfl, _, hc⟩ := hr.out.2 (by rw [hk.out]; omega)
      have hci := cells8_at r i (by rw [hk.out]; exact hlt)
      unfold cell8 at hci
      have hnt := Lib.hid (num_take r i (by rw [hk.out]; exact hlt))
      generalize r.getD i 0 = y at *
      have c1 : w1.cell? ⟨b, o + i, none⟩ = some (.int .u8 (b8 y)) := hc i _ hci
      obtain ⟨Y, hY⟩ : ∃ Y, Hid (wrap64 (lgInt (num (r.take i)) * 256) = Y) := ⟨_, Lib.hid rfl⟩
      have hst : Hid (wrap64 (Y + b8 y) = lgInt (num (r.take (i + 1)))) := by
        show _ = _
        unfold lgInt
        rw [hnt.out]
        exact wrap_step _ _ _ hY.out.symm
      obtain ⟨Z, hZ⟩ : ∃ Z, Hid (lgInt (num (r.take (i + 1))) = Z) := ⟨_, Lib.hid rfl⟩
      rw [hZ.out] at hst
      have hil : Hid (i < k) := hlt
      obtain ⟨V, hV⟩ : ∃ V, Hid (lgInt (num (r.take i)) = V) := ⟨_, Lib.hid rfl⟩
      rw [hV.out] at hY ⊢
      have y1 : wrap64 (V * 2 ^ 8) = Y := by rw [show (2 : Int) ^ 8 = 256 by decide]; exact hY.out
      have y2 : wrap64 (V * 256) = Y := hY.out
      have y3 : wrap64 (Y + b8 y) = Z := hst.out
      have hy0 : 0 ≤ b8 y ∧ b8 y ≤ 255 := by unfold b8; have := y.isLt; omega
      obtain ⟨hy1, hy2⟩ := hy0
      clear hlt hc hci hnt
      go_wp2_with fail
      go_round
      case rel => exact ⟨i + 1, by go_num, hil.out, by rw [hZ.out, hst.out]⟩
      case measure => (have := hil.out; simp [intOf]; omega)
    · obtain rfl : i = k := by omega
      have hz : ¬ ((i : Int) < (i : Int)) := by omega
      have hT : Hid (num (r.take i) = num r) := by show _ = _; rw [List.take_of_length_le (by rw [hk.out]; exact Nat.le_refl _)]
      rw [hT.out]
      clear hlt
      go_wp2_with fail
      go_ret
      exact ⟨_, rfl, hfin.out⟩

set_option maxRecDepth 100000 in
set_option maxHeartbeats 1000000 in
theorem digest17_any (p : Text) (hp : p.length < 140737488355328) (g B : Nat) (s : Bool) (w : World) (h : RB w g B p s) :
    Calls Try.prog 62 #[.pointer (some ⟨g, 0, none⟩)] w fun e w' => ∃ d : Text, e = .returned (.agg (cells8 d).toArray) ∧ d.length = 32 ∧ (32 ≤ p.length → d = p.take 32 ∧ RB w' g B (p.drop 32) s) ∧ (p.length < 32 → RB w' g B p true) ∧ Kept (· = g) w w' := by
  obtain ⟨w0, hw0⟩ : ∃ w0, Hid (w0 = (w.alloc (.cells Z32 23)).alloc (.cells Z32 23)) := ⟨_, rfl⟩
  have hD : Hid (Blk w0 w.heap.size 23 Z32) := by show Blk _ _ _ _; rw [hw0.out]; exact (Blk.new w _ _).alloc _
  have hE : Hid (Blk w0 (w.heap.size + 1) 23 Z32) := by
    have := Blk.new (w.alloc (.cells Z32 23)) 23 Z32
    have e : (w.alloc (.cells Z32 23)).heap.size = w.heap.size + 1 := by simp
    rw [e] at this
    show Blk _ _ _ _; rw [hw0.out]
    exact this
  have hR : Hid (RB w0 g B p s) := by show RB _ _ _ _ _; rw [hw0.out]; exact (h.below (Below.heap_below _ _)).below (Below.heap_below _ _)
  have hlt := Lib.hid h.lt
  have hBg : Hid (B ≤ g) := h.1
  have hK0 : Hid (Kept (· = g) w w0) := by show Kept _ _ _; rw [hw0.out]; exact ((Kept.refl _ w).alloc _).alloc _
  replace hp := Lib.hid hp
  clear h
  go_enter Try.func62, Try.ntmps62
  go_wp2_with fail
  have hsz : Hid (w0.heap.size = w.heap.size + 2) := by show _ = _; rw [hw0.out]; simp
  have hww : (w.alloc (.cells Z32 23)).alloc (.cells Z32 23) = w0 := hw0.out.symm
  unfold Z32 at hww
  rw [hww]
  clear hww hw0
  have hnx : Hid (∀ w', RB w' g B p s → Calls Try.prog 60 #[.pointer (some ⟨g, 0, none⟩), .int .i64 32] w' fun e w'' => ∃ A' c' r, e = .returned (.slice A' r.length c') ∧ NextOut w' g B p s 32 A' c' r w'') := fun w' h => next_any p hp.out g B 32 (by omega) s w' h
  have hid2 : Hid (g ≠ w.heap.size + 1) := by have := hlt.out; show _ ≠ _; omega
  have hid1 : Hid (g ≠ w.heap.size) := by have := hlt.out; show _ ≠ _; omega
  go_region_law (first
    | (go_simp; go_at_call 60; go_loud (refine (hnx.out w0.drew (hR.out.drewN 1)).mono ?_; rintro e w3 ⟨Ap, cp, r, rfl, o1, o2, o3, o4, o5, o6, hk3, o8⟩; have hr32 : Hid (r.length ≤ 32) := (by show _ ≤ _; by_cases hle : 32 ≤ p.length; (rw [(o5 hle).1, List.length_take]; omega); (rw [(o6 (by omega)).1]; simp)); have hcl : Hid ((cells8 r).length = Nat.min r.length 32) := (by show _ = min _ _; rw [cells8_len]; have := hr32.out; omega); have hfit : Hid (0 + (cells8 r).length ≤ Z32.size) := (by show _ ≤ _; rw [cells8_len]; simp [Z32]; exact hr32.out); have hpos : Hid (0 < (cells8 r).length → some (⟨w.heap.size + 1, 0, none⟩ : Addr) = some ⟨w.heap.size + 1, 0, none⟩ ∧ ∃ ad, Ap = some ad ∧ ∀ j v, (cells8 r)[j]? = some v → w3.cell? (ad.add j) = some v) := (fun h0 => ⟨rfl, by obtain ⟨b, o, e, _, hc⟩ := o1.2 (by rw [cells8_len] at h0; omega); exact ⟨_, e, fun j v hv => by rw [add_at]; exact hc j v hv⟩⟩); have hE3 := Lib.hid ((Blk.drewN hE.out 1).kept hk3 (fun e => hid2.out e.symm)); have hD3 := Lib.hid ((Blk.drewN hD.out 1).kept hk3 (fun e => hid1.out e.symm)); have hK3 := Lib.hid ((hK0.out.drewN 1).trans hk3 (fun _ _ h => h)); replace o5 := Lib.hid o5; replace o6 := Lib.hid o6; clear o1 o2 o3 o4 o8 hk3))
    | (refine step_copy_into (P := Try.prog) (w := w3) (o := ⟨some 7, _, _, _, _, _⟩) rfl (.tmp 4) (.tmp 6) 29 29 rfl 5 Try.underlying29 size8 (some ⟨w.heap.size + 1, 0, none⟩) Ap 32 32 r.length cp ?hd ?hs (w.heap.size + 1) 0 Z32 23 hE3.out (cells8 r) hcl.out hpos.out hfit.out (cells8_one r) w3 (Kept.refl _ w3) r.length (cells8_len r) ?_; (case hd => go_simp); (case hs => go_simp); intro w5 hb5 hk5; replace hb5 := hb5.out; rw [Reader3.digP_cells r hr32.out] at hb5; have hD5 := Lib.hid (hD3.out.kept hk5 (by omega)); replace hb5 := Lib.hid hb5; replace hk5 := Lib.hid hk5))
  have F := Lib.hid (fit (x := Reader3.digP r) (Reader3.digP_len r hr32.out))
  have hKK : Hid (Kept (· = g) w w5) := by
    show Kept _ _ _
    exact hK3.out.trans hk5.out (fun i h1 h2 => by omega)
  go_wp2_with (first
    | ((with_reducible change wpList _ _ _ ({ dst := some 8, op := _, type := _, pos := _, after := _, guard := _ } :: _) _ _); refine wpList_load_row (o := ⟨some 8, _, _, _, _, _⟩) rfl 23 (.tmp 3) rfl (w.heap.size + 1) rfl 23 (cells8 (Reader3.digP r)).toArray (0, 0) _ hb5.out Try.underlying23 rfl F.out.size ?_)
    | ((with_reducible change wpList _ _ _ ({ dst := none, op := Op.store 23 _ _, type := _, pos := _, after := _, guard := _ } :: _) _ _); refine wpList_store_row (o := ⟨none, _, _, _, _, _⟩) rfl 23 (.tmp 2) (.tmp 8) rfl w.heap.size (cells8 (Reader3.digP r)).toArray rfl rfl 23 Z32 hD5.out F.out.size F.out.zero F.out.one ?_))
  refine bodyPost_ret (results_cell_row rfl _ _ w.heap.size 23 (cells8 (Reader3.digP r)).toArray (0, 0) _ rfl (setRow_heap _ _ _ _ _ _ hD5.out) Try.underlying23 rfl F.out.size) rfl ?_
  have hS : Kept (· = w.heap.size) w5 (w5.setRow w.heap.size (cells8 (Reader3.digP r)).toArray) := Bytes.Kept.setRow (S := (· = w.heap.size)) (Kept.refl _ w5) rfl _
  have hlast : ∀ p' s', RB w3 g B p' s' → RB (w5.setRow w.heap.size (cells8 (Reader3.digP r)).toArray) g B p' s' := fun p' s' h => (h.kept hk5.out hid2.out (fun a ha e => by have := hlt.out; have := hBg.out; omega)).kept hS hid1.out (fun a ha e => by have := hlt.out; have := hBg.out; omega)
  refine ⟨Reader3.digP r, rfl, Reader3.digP_len r hr32.out, fun h => ?_, fun h => hlast _ _ (o6.out h).2, hKK.out.trans hS (fun i h1 h2 => by omega)⟩
  obtain ⟨e, hR3⟩ := o5.out h
  refine ⟨?_, hlast _ _ hR3⟩
  rw [e]
  have := Reader3.digP_take p 0 (by omega)
  simpa using this
end Go.Proofs.Ytmdkfhfkdcbpgaa.Bytes17

namespace Go.Proofs.Ytmdkfhfkdcbpgaa.Way17
open Go Go.RowKit Go.Proofs.Ytmdkfhfkdcbpgaa Go.Proofs.Ytmdkfhfkdcbpgaa.Mem Go.Proofs.Ytmdkfhfkdcbpgaa.Sha Go.Proofs.Ytmdkfhfkdcbpgaa.Bytes Go.Proofs.Ytmdkfhfkdcbpgaa.Append Go.Proofs.Ytmdkfhfkdcbpgaa.TreeMem Go.Proofs.Ytmdkfhfkdcbpgaa.TreeRoot Go.Proofs.Ytmdkfhfkdcbpgaa.Book Go.Proofs.Ytmdkfhfkdcbpgaa.Own Go.Proofs.Ytmdkfhfkdcbpgaa.Reader4 Go.Proofs.Ytmdkfhfkdcbpgaa.Bytes17

theorem zero31' : ((Try.prog.info? 23).bind (·.zero)).isSome = true := by kernel_rfl
theorem own_kept {S : Nat → Prop} {w w' : World} {base e size n : Nat} {v : Value} {xs : List Value} (h : w.ownsRow base e size v n xs) (hk : Kept S w w') (hS : ∀ k, v.ownBlock = some k → ¬ S k) : w'.ownsRow base e size v n xs := by
  refine ⟨h.1, h.2.imp id fun ⟨g, cap, cur, h1, h2, h3, h4⟩ => ⟨g, cap, cur, h1, h2, ?_, h4⟩⟩
  rw [hk.block g (Array.getElem?_eq_some_iff.1 h3).1 (hS g (by rw [h1]; rfl)), h3]
/-- Where way's loop stands behind i digests. -/
def St (p : Text) (i : Nat) (l : List Text) (p1 : Text) (s1 : Bool) : Prop := (s1 = false ∧ 32 * i ≤ p.length ∧ l = chunks p i ∧ p1 = p.drop (32 * i)) ∨ (s1 = true ∧ p.length < 32 * i)
/-- What a call of way leaves. -/
def WayOut (w : World) (g : Nat) (p : Text) (N : Nat) (e : Ending) (w' : World) : Prop :=
  ∃ (l : List Text) (A : Option Addr) (c : Nat), e = .returned (.slice A l.length c) ∧ RdD w' A l.length l ∧ (A = none → l.length = 0 ∧ c = 0) ∧ l.length ≤ c ∧ l.length ≤ N ∧ (32 * N ≤ p.length → l = chunks p N) ∧ (∀ a, A = some a → w.heap.size ≤ a.block) ∧ Kept (· = g) w w'

set_option maxRecDepth 100000 in
theorem way_short (g B : Nat) (p : Text) (n : Int) (w : World) (h : RB w g B p true) :
    Calls Try.prog 63 #[.pointer (some ⟨g, 0, none⟩), .int .i64 n] w fun e w' => e = .returned (.slice none 0 0) ∧ w = w' := by
  obtain ⟨-, A, c, hb, -⟩ := h
  have g1 : w.cell? ⟨g, 1, none⟩ = some (.bool true) := by rw [hb.cell 1]; rfl
  clear hb
  by_cases hn : 0 < n
  · have y1 : decide (0 < n) = true := decide_eq_true hn
    go_enter Try.func63, Try.ntmps63
    go_wp2_with fail
    go_loop [5, 6] (fun l v => l = .slice none 0 0 ∧ v = .int .i64 0) (fun _ _ => 0)
    case atStart => exact ⟨rfl, rfl⟩
    case round =>
      obtain ⟨rfl, rfl⟩ := hrel
      go_wp2_with fail
      go_ret
      exact ⟨rfl, rfl⟩
  · have y1 : decide (0 < n) = false := decide_eq_false hn
    go_enter Try.func63, Try.ntmps63
    go_wp2_with fail
    go_loop [5, 6] (fun l v => l = .slice none 0 0 ∧ v = .int .i64 0) (fun _ _ => 0)
    case atStart => exact ⟨rfl, rfl⟩
    case round =>
      obtain ⟨rfl, rfl⟩ := hrel
      go_wp2_with fail
      go_ret
      exact ⟨rfl, rfl⟩

set_option maxRecDepth 100000 in
set_option maxHeartbeats 1000000 in
theorem way_any (g B : Nat) (p : Text) (hp : p.length < 140737488355328) (n : Int) (hn : n ≤ 1099511627776) (w : World) (h : RB w g B p false) :
    Calls Try.prog 63 #[.pointer (some ⟨g, 0, none⟩), .int .i64 n] w (WayOut w g p n.toNat) := by
  obtain ⟨i0, ii, iz0, iz1, iz2⟩ := info_partsN info32
  have hgl := Lib.hid h.lt
  have hR0 := Lib.hid h
  have hp47 := Lib.hid hp
  have hO0 : Hid (w.ownsRow w.heap.size 23 32 (.slice none 0 0) 0 (([] : List Text).flatMap cells8)) := World.ownsRow_nil _ _ _ _
  clear h hp
  go_enter Try.func63, Try.ntmps63
  go_wp2_with fail
  go_loopw [5, 6] (fun lv v wr => ∃ (i : Nat) (l : List Text) (A1 : Option Addr) (c1 : Nat) (p1 : Text) (s1 : Bool), v = .int .i64 (i : Int) ∧ lv = .slice A1 i c1 ∧ i ≤ n.toNat ∧ Hid (l.length = i) ∧ Hid (Digs l) ∧ Hid (wr.ownsRow w.heap.size 23 32 (.slice A1 i c1) i (l.flatMap cells8)) ∧ Hid (RB wr g B p1 s1) ∧ Hid (St p i l p1 s1) ∧ Hid (Kept (· = g) w wr)) (fun _ v _ => n.toNat - (intOf v).toNat)
  case atStart => exact ⟨0, [], none, 0, p, false, rfl, rfl, Nat.zero_le _, rfl, (fun d h => by cases h), hO0.out, hR0.out, .inl ⟨rfl, by omega, rfl, by simp⟩, Kept.refl _ _⟩
  case round =>
    clear hO0 hR0
    obtain ⟨i, l, A1, c1, p1, s1, rfl, rfl, hin, hl, hd, hO, hR, hS, hK⟩ := hrel
    have hi0 : (0 : Int) ≤ (i : Int) := by omega
    have hi40 : (i : Int) ≤ 1099511627776 := by omega
    have hfin : Hid ((¬ ((i : Int) < n) ∨ s1 = true) → WayOut w g p n.toNat (.returned (.slice A1 i c1)) wr) := fun hx => by
      obtain ⟨A2, c2, e2, hc2, -, hnil2, hr2, hA2⟩ := Own.reads hO.out
      injection e2 with e3 e4 e5
      subst e3 e5
      refine ⟨l, A1, c1, by rw [hl.out], ⟨rfl, hd.out, by rw [hl.out]; exact hr2⟩, by rw [hl.out]; exact hnil2, by rw [hl.out]; exact hc2, by rw [hl.out]; exact hin, fun h32 => ?_, fun a ha => (hA2 a ha).1, hK.out⟩
      rcases hS.out with ⟨h1, h2, h3, h4⟩ | ⟨h1, h2⟩
      · rcases hx with hx | hx
        · rw [h3, show i = n.toNat by omega]
        · rw [h1] at hx; cases hx
      · omega
    have hRl := hR.out
    obtain ⟨-, A3, c3, hb3, -⟩ := hRl
    have g1 : wr.cell? ⟨g, 1, none⟩ = some (.bool s1) := by rw [hb3.cell 1]; rfl
    clear hb3
    by_cases hlt : (i : Int) < n
    · cases s1 with
      | true =>
        have y1 : decide ((i : Int) < n) = true := decide_eq_true hlt
        have hres := Lib.hid (hfin.out (.inr rfl))
        clear hfin hlt
        go_wp2_with fail
        go_ret
        exact hres.out
      | false =>
        have y1 : decide ((i : Int) < n) = true := decide_eq_true hlt
        have hin2 : Hid (i < n.toNat) := by show _ < _; omega
        have hp1 : p1.length < 140737488355328 := by
          rcases hS.out with ⟨h1, h2, h3, h4⟩ | ⟨h1, h2⟩
          · rw [h4, List.length_drop]; have := hp47.out; omega
          · cases h1
        have hT := Lib.hid (digest17_any p1 hp1 g B false wr hR.out)
        have hsz : Hid (w.heap.size ≤ wr.heap.size) := hK.out.size
        have hl1 : Hid (i + 1 ≤ maxLen) := by show _ ≤ _; unfold maxLen; omega
        have hl2 : Hid ((i + 1) * 32 ≤ 140737488355328) := by show _ ≤ _; omega
        have hon : Hid (∀ k, (Value.slice A1 i c1).ownBlock = some k → w.heap.size ≤ k) := fun k e => (hO.out.lt k e).1
        clear hfin hlt hp1
        go_wp2_with (first
          | (go_at_call 62; refine hT.out.mono ?_; rintro e w1 ⟨d, rfl, hdl, hd1, hd2, hk1⟩; have hO1 : Hid ((w1.alloc (.cells (cells8 d).toArray 23)).ownsRow w.heap.size 23 32 (.slice A1 i c1) i (l.flatMap cells8)) := World.ownsRow.alloc (w := w1) (own_kept hO.out hk1 (fun k e h => by have := hon.out k e; have := hgl.out; omega)) _; have hnew : Hid (Reads (w1.alloc (.cells (cells8 d).toArray 23)) 32 (some ⟨w1.heap.size, 0, none⟩) 1 (cells8 d)) := Blk.reads (Blk.new w1 23 (cells8 d).toArray) 0 _ (by rw [cells8_len, hdl]) (fun k u hu => by rw [Nat.zero_add, List.getElem?_toArray]; exact hu); have hs1 : Hid (w.heap.size ≤ (w1.alloc (.cells (cells8 d).toArray 23)).heap.size) := (by have := hk1.size; have := hsz.out; show _ ≤ _; simp; omega); have q1 : Hid (∀ v ∈ [cells8 d], v.length = 32) := (by intro v hv; simp only [List.mem_singleton] at hv; rw [hv, cells8_len, hdl]); have x1 : Hid ([cells8 d].flatten.toArray = (cells8 d).toArray) := (by show _ = _; simp); have hK1 := Lib.hid ((hK.out.trans hk1 (fun _ _ h => h)).alloc (.cells (cells8 d).toArray 23)); replace hd1 := Lib.hid hd1; replace hd2 := Lib.hid hd2; replace hdl := Lib.hid hdl; have hgl1 : Hid (g < w1.heap.size) := (by have := hk1.size; have := hsz.out; have := hgl.out; show _ < _; omega); clear hk1 hT)
          | ((with_reducible change wpList _ _ _ ({ dst := some 22, op := _, type := _, pos := _, after := _, guard := _ } :: _) _ _); refine wpList_buildAggs (o := ⟨some 22, _, _, _, _, _⟩) rfl 26 23 1 _ rfl 32 (by decide) [cells8 d] Try.underlying26 size31 zero31' rfl (by decide) (by decide) q1.out rfl ?_; rw [x1.out])
          | ((with_reducible change wpList _ _ _ ({ dst := some 23, op := _, type := _, pos := _, after := _, guard := _ } :: _) _ _); refine wpList_append_src _ (o := ⟨some 23, _, _, _, _, _⟩) rfl (.tmp 19) (.tmp 22) 26 rfl w.heap.size 23 i0 (.agg Z32) 32 32 Try.underlying26 ii iz0 iz1 iz2 rfl (by decide) (.slice A1 i c1) i (l.flatMap cells8) rfl hO1.out (some ⟨w1.heap.size, 0, none⟩) 1 1 (cells8 d) rfl hnew.out (fun e => by cases e) (cells8_one d) hl1.out hl2.out hs1.out ?_; intro v3 w3 hG; have hO3' := hG.own; obtain ⟨A2, c2, rfl, -⟩ := Own.reads hO3'; have hO3 : Hid (w3.ownsRow w.heap.size 23 32 (.slice A2 (i + 1) c2) (i + 1) ((l ++ [d]).flatMap cells8)) := (by show World.ownsRow _ _ _ _ _ _ _; rw [List.flatMap_append, List.flatMap_singleton]; exact hO3'); have hgk := hG.grow; have hK3 : Hid (Kept (· = g) w w3) := hK1.out.grown hgk (fun k e => .inr (hon.out k e)); have hRk : Hid (∀ p' s', RB w1 g B p' s' → RB w3 g B p' s') := (fun p' s' h => (h.below (Below.heap_below _ _)).kept (S := fun k => some k = (Value.slice A1 i c1).ownBlock) ⟨hgk.os, hgk.tape, hgk.output, hgk.size, fun q hq hne => hgk.block q hq hne⟩ (fun e => by have := hon.out g e.symm; have := hgl.out; omega) (fun a ha e => by have := hon.out a e.symm; have := hgl.out; have := h.1; omega)); clear hG hO3' hgk hO1 hnew hs1))
        have hSn : Hid (∃ p2 s2, RB w3 g B p2 s2 ∧ St p (i + 1) (l ++ [d]) p2 s2) := by
          rcases hS.out with ⟨-, h2, h3, h4⟩ | ⟨h1, h2⟩
          · have hln : p1.length = p.length - 32 * i := by rw [h4, List.length_drop]
            by_cases hge : 32 ≤ p1.length
            · obtain ⟨e1, hR1⟩ := hd1.out hge
              refine ⟨p1.drop 32, false, hRk.out _ _ hR1, .inl ⟨rfl, by omega, ?_, ?_⟩⟩
              · rw [chunks_succ, ← h3, e1, h4]; rfl
              · rw [h4, List.drop_drop]; congr 1
            · exact ⟨p1, true, hRk.out _ _ (hd2.out (by omega)), .inr ⟨rfl, by omega⟩⟩
          · cases h1
        obtain ⟨p2, s2, hR2, hS2⟩ := hSn.out
        have hll : Hid ((l ++ [d]).length = i + 1) := by show _ = _; rw [List.length_append, hl.out]; rfl
        have hdd : Hid (Digs (l ++ [d])) := hd.out.append_ (Digs.one hdl.out)
        replace hR2 := Lib.hid hR2
        replace hS2 := Lib.hid hS2
        clear hSn
        go_roundw
        case rel => exact ⟨i + 1, l ++ [d], A2, c2, p2, s2, by go_num, rfl, hin2.out, hll.out, hdd.out, hO3.out, hR2.out, hS2.out, hK3.out⟩
        case measure => (have := hin2.out; simp [intOf]; omega)
    · have y1 : decide ((i : Int) < n) = false := decide_eq_false hlt
      have hres := Lib.hid (hfin.out (.inl hlt))
      clear hfin hlt
      go_wp2_with fail
      go_ret
      exact hres.out
end Go.Proofs.Ytmdkfhfkdcbpgaa.Way17

namespace Go.Proofs.Ytmdkfhfkdcbpgaa.ReadIncl
open Go Go.RowKit Go.Proofs.Ytmdkfhfkdcbpgaa Go.Proofs.Ytmdkfhfkdcbpgaa.Mem Go.Proofs.Ytmdkfhfkdcbpgaa.Sha Go.Proofs.Ytmdkfhfkdcbpgaa.Bytes Go.Proofs.Ytmdkfhfkdcbpgaa.Append Go.Proofs.Ytmdkfhfkdcbpgaa.Octet Go.Proofs.Ytmdkfhfkdcbpgaa.TreeMath Go.Proofs.Ytmdkfhfkdcbpgaa.Sides Go.Proofs.Ytmdkfhfkdcbpgaa.TreeMem Go.Proofs.Ytmdkfhfkdcbpgaa.TreeRoot Go.Proofs.Ytmdkfhfkdcbpgaa.Held Go.Proofs.Ytmdkfhfkdcbpgaa.Own Go.Proofs.Ytmdkfhfkdcbpgaa.Reader Go.Proofs.Ytmdkfhfkdcbpgaa.Reader4 Go.Proofs.Ytmdkfhfkdcbpgaa.ProofBeside Go.Proofs.Ytmdkfhfkdcbpgaa.ProofEnc Go.Proofs.Ytmdkfhfkdcbpgaa.Beside17 Go.Proofs.Ytmdkfhfkdcbpgaa.Ref17 Go.Proofs.Ytmdkfhfkdcbpgaa.Ref17b Go.Proofs.Ytmdkfhfkdcbpgaa.DecIncl Go.Proofs.Ytmdkfhfkdcbpgaa.DecIncl2 Go.Proofs.Ytmdkfhfkdcbpgaa.Bytes17 Go.Proofs.Ytmdkfhfkdcbpgaa.Way17 Go.Proofs.Ytmdkfhfkdcbpgaa.Same17 Go.Proofs.Ytmdkfhfkdcbpgaa.Guard

/-! ### The plain law -/
theorem be8_num (a : Text) (h : a.length = 8) : be8 (num a) = a := by
  match a, h with
  | [a0, a1, a2, a3, a4, a5, a6, a7], _ =>
    have e : num [a0, a1, a2, a3, a4, a5, a6, a7] = ((((((a0.toNat * 256 + a1.toNat) * 256 + a2.toNat) * 256 + a3.toNat) * 256 + a4.toNat) * 256 + a5.toNat) * 256 + a6.toNat) * 256 + a7.toNat := by simp [num]
    have b0 := a0.isLt
    have b1 := a1.isLt
    have b2 := a2.isLt
    have b3 := a3.isLt
    have b4 := a4.isLt
    have b5 := a5.isLt
    have b6 := a6.isLt
    have b7 := a7.isLt
    rw [e]
    have hb : ∀ (N n : Nat) (x : BitVec 8), N / 2 ^ n % 256 = x.toNat → byteAt N n = x := fun N n x h => by
      unfold byteAt
      apply BitVec.eq_of_toNat_eq
      rw [BitVec.toNat_ofNat]
      exact h
    show [byteAt _ 56, byteAt _ 48, byteAt _ 40, byteAt _ 32, byteAt _ 24, byteAt _ 16, byteAt _ 8, byteAt _ 0] = _
    rw [hb _ 56 a0 (by omega), hb _ 48 a1 (by omega), hb _ 40 a2 (by omega), hb _ 32 a3 (by omega), hb _ 24 a4 (by omega), hb _ 16 a5 (by omega), hb _ 8 a6 (by omega), hb _ 0 a7 (by omega)]
theorem chunks_flat : ∀ (n : Nat) (p : Text), p.length = 32 * n → (chunks p n).flatten = p
  | 0, p, h => by
    obtain rfl := List.eq_nil_of_length_eq_zero h
    rfl
  | n + 1, p, h => by
    have e : chunks p (n + 1) = p.take 32 :: chunks (p.drop 32) n := by
      unfold chunks
      rw [List.range_succ_eq_map, List.map_cons, List.map_map]
      congr 1
      apply List.map_congr_left
      intro j _
      show chunk p (j + 1) = chunk (p.drop 32) j
      unfold chunk
      rw [List.drop_drop, show 32 * (j + 1) = 32 + 32 * j by omega]
    rw [e, List.flatten_cons, chunks_flat n (p.drop 32) (by rw [List.length_drop]; omega), List.take_append_drop]
/-- What was read ahead of the last test. -/
def Got (q : Text) (x1 x2 : Int) (l : List Text) : Prop :=
  (17 ≤ q.length → x1 = lgInt (num ((q.drop 1).take 8)) ∧ x2 = lgInt (num ((q.drop 9).take 8)) ∧ l.length ≤ (bsOf x1 x2).toNat ∧ (32 * (bsOf x1 x2).toNat ≤ (q.drop 17).length → l = chunks (q.drop 17) (bsOf x1 x2).toNat)) ∧ (q.length < 17 → l = []) ∧ Digs l
theorem lg_inside {a b : Nat} (ha : a < 18446744073709551616) (hb : b < 18446744073709551616) (h : insideB (lgInt a) (lgInt b) = true) : lgInt a = (a : Int) ∧ lgInt b = (b : Int) := by
  simp only [insideB, Bool.and_eq_true, decide_eq_true_eq] at h
  unfold lgInt wrap64 at *
  omega
theorem bsOf_in {x y : Int} (h : insideB x y = true) : bsOf x y = ((sides x.toNat y.toNat).length : Int) := by unfold bsOf; rw [if_pos h]
theorem num8 (q : Text) (m : Nat) : num ((q.drop m).take 8) < 18446744073709551616 := Reader2.num_lt8 _ (by rw [List.length_take]; omega)
theorem want_len {x1 x2 : Int} {l : List Text} {b : Text} (hd : Digs l) (h : inclWant x1 x2 l = some b) : b.length = 17 + 32 * l.length := by
  unfold inclWant at h
  split at h
  · rw [← Option.some.inj h]; exact inclBytes_len _ _ _ hd
  · cases h
theorem three {q : Text} (h : 17 ≤ q.length) : q = [q.getD 0 0] ++ (q.drop 1).take 8 ++ (q.drop 9).take 8 ++ q.drop 17 := by
  have e0 : q = q.take 1 ++ q.drop 1 := (List.take_append_drop 1 q).symm
  have e1 : q.drop 1 = (q.drop 1).take 8 ++ q.drop 9 := by
    have := (List.take_append_drop 8 (q.drop 1)).symm
    rwa [List.drop_drop] at this
  have e2 : q.drop 9 = (q.drop 9).take 8 ++ q.drop 17 := by
    have := (List.take_append_drop 8 (q.drop 9)).symm
    rwa [List.drop_drop] at this
  have e3 : q.take 1 = [q.getD 0 0] := by
    match q, h with
    | a :: r, _ => rfl
  rw [List.append_assoc, List.append_assoc, ← e2, ← e1, ← e3, ← e0]
theorem read_ok {q : Text} {x1 x2 : Int} {l : List Text} (hq : ¬ 9000 < q.length) (hg : Got q x1 x2 l) (h : inclWant x1 x2 l = some q) : decAns q = (x1, x2, l, 0) := by
  obtain ⟨g1, g2, hd⟩ := hg
  have hlen := want_len hd h
  obtain ⟨rfl, rfl, -, hc⟩ := g1 (by omega)
  unfold inclWant at h
  split at h
  · rename_i hin
    obtain ⟨hin, hsl⟩ := hin
    have hbs := bsOf_in hin
    obtain ⟨e1, e2⟩ := lg_inside (num8 q 1) (num8 q 9) hin
    rw [e1, e2] at hin hsl hbs hc h ⊢
    rw [Int.toNat_natCast, Int.toNat_natCast] at hsl hbs h
    have hh := Option.some.inj h
    have h0 : q.getD 0 0 = 48 := by rw [← hh]; rfl
    rw [decAns_ok hq ⟨by omega, h0, hin, by rw [hsl]; exact hlen⟩]
    have hl := hc (by rw [hbs, Int.toNat_natCast, hsl, List.length_drop]; omega)
    rw [hbs, Int.toNat_natCast] at hl
    rw [← hl]
  · cases h
theorem read_no {q : Text} {x1 x2 : Int} {l : List Text} (hq : ¬ 9000 < q.length) (hg : Got q x1 x2 l) (h : inclWant x1 x2 l ≠ some q) : decAns q = (0, 0, [], 8) := by
  obtain ⟨g1, g2, hd⟩ := hg
  refine decAns_fail hq (fun hh => h ?_)
  obtain ⟨h17, h0, hin, hlen⟩ := hh
  obtain ⟨rfl, rfl, -, hc⟩ := g1 h17
  have hin2 := hin
  simp only [insideB, Bool.and_eq_true, decide_eq_true_eq] at hin2
  rw [lgInt_le (by omega), lgInt_le (by omega)] at hc ⊢
  have hbs := bsOf_in hin
  rw [Int.toNat_natCast, Int.toNat_natCast] at hbs
  rw [hbs, Int.toNat_natCast] at hc
  have hl := hc (by rw [List.length_drop]; omega)
  unfold inclWant
  rw [Int.toNat_natCast, Int.toNat_natCast, if_pos ⟨hin, by rw [hl, chunks_len]⟩]
  congr 1
  unfold inclBytes
  rw [be8_num _ (by rw [List.length_take, List.length_drop]; omega), be8_num _ (by rw [List.length_take, List.length_drop]; omega), hl, chunks_flat _ _ (by rw [List.length_drop]; omega)]
  conv => rhs; rw [three h17, h0]

/-! ### The reader's states -/
/-- The reader behind so many bytes. -/
def RQ (w : World) (g B : Nat) (q : Text) (m : Nat) : Prop := ∃ p s, RB w g B p s ∧ (m ≤ q.length → p = q.drop m ∧ s = false) ∧ (q.length < m → s = true) ∧ p.length ≤ q.length
theorem RQ.num {w w' : World} {g B : Nat} {q : Text} {m n : Nat} {p : Text} {s : Bool} {x : Int} (h1 : m ≤ q.length → p = q.drop m ∧ s = false) (h2 : q.length < m → s = true) (h3 : p.length ≤ q.length) (ho : NumOut w g B p s n x w') : RQ w' g B q (m + n) ∧ (m + n ≤ q.length → x = lgInt (num ((q.drop m).take n))) := by
  obtain ⟨o1, o2, -, -⟩ := ho
  by_cases hn : n ≤ p.length
  · obtain ⟨e, hr⟩ := o1 hn
    refine ⟨⟨p.drop n, s, hr, fun h => ?_, fun h => ?_, by rw [List.length_drop]; omega⟩, fun h => ?_⟩
    · obtain ⟨rfl, rfl⟩ := h1 (by omega)
      exact ⟨by rw [List.drop_drop], rfl⟩
    · by_cases hm : m ≤ q.length
      · obtain ⟨rfl, rfl⟩ := h1 hm
        rw [List.length_drop] at hn
        omega
      · exact h2 (by omega)
    · obtain ⟨rfl, rfl⟩ := h1 (by omega)
      exact e
  · obtain ⟨e, hr⟩ := o2 (by omega)
    refine ⟨⟨p, true, hr, fun h => ?_, fun _ => rfl, h3⟩, fun h => ?_⟩
    · obtain ⟨rfl, -⟩ := h1 (by omega)
      rw [List.length_drop] at hn
      omega
    · obtain ⟨rfl, -⟩ := h1 (by omega)
      rw [List.length_drop] at hn
      omega
theorem RQ.kept {S : Nat → Prop} {w w' : World} {g B m : Nat} {q : Text} (h : RQ w g B q m) (hk : Kept S w w') (hg : ¬ S g) (hS : ∀ a, a < B → ¬ S a) : RQ w' g B q m := by
  obtain ⟨p, s, h1, h2⟩ := h
  exact ⟨p, s, h1.kept hk hg hS, h2⟩
end Go.Proofs.Ytmdkfhfkdcbpgaa.ReadIncl

namespace Go.Proofs.Ytmdkfhfkdcbpgaa.PieceB
open Go Go.RowKit Go.Proofs.Ytmdkfhfkdcbpgaa Go.Proofs.Ytmdkfhfkdcbpgaa.Mem Go.Proofs.Ytmdkfhfkdcbpgaa.Sha Go.Proofs.Ytmdkfhfkdcbpgaa.Bytes Go.Proofs.Ytmdkfhfkdcbpgaa.Octet Go.Proofs.Ytmdkfhfkdcbpgaa.Octet2 Go.Proofs.Ytmdkfhfkdcbpgaa.TreeMem Go.Proofs.Ytmdkfhfkdcbpgaa.Reader Go.Proofs.Ytmdkfhfkdcbpgaa.Reader4 Go.Proofs.Ytmdkfhfkdcbpgaa.ProofEnc Go.Proofs.Ytmdkfhfkdcbpgaa.DecIncl Go.Proofs.Ytmdkfhfkdcbpgaa.ReadIncl Go.Proofs.Ytmdkfhfkdcbpgaa.Octet4

/-- A row of a piece: its number, the event, the digests. -/
structure Row where
  y : Nat
  e : Text
  ds : List Text
def rowB (r : Row) : Text := be8 r.y ++ (be4 r.e.length ++ (r.e ++ r.ds.flatten))
def rowsB (l : List Row) : Text := l.flatMap rowB
theorem rowB_len (r : Row) (h : Digs r.ds) : (rowB r).length = 12 + r.e.length + 32 * r.ds.length := by
  simp only [rowB, List.length_append, be8_len, be4_len, flat32_len r.ds h]
  omega
theorem be4_num (a : Text) (h : a.length = 4) : be4 (num a) = a := by
  match a, h with
  | [a0, a1, a2, a3], _ =>
    have e : num [a0, a1, a2, a3] = ((a0.toNat * 256 + a1.toNat) * 256 + a2.toNat) * 256 + a3.toNat := by simp [num]
    have b0 := a0.isLt
    have b1 := a1.isLt
    have b2 := a2.isLt
    have b3 := a3.isLt
    rw [e]
    have hb : ∀ (N n : Nat) (x : BitVec 8), N / 2 ^ n % 256 = x.toNat → byteAt N n = x := fun N n x h => by
      unfold byteAt
      apply BitVec.eq_of_toNat_eq
      rw [BitVec.toNat_ofNat]
      exact h
    show [byteAt _ 24, byteAt _ 16, byteAt _ 8, byteAt _ 0] = _
    rw [hb _ 24 a0 (by omega), hb _ 16 a1 (by omega), hb _ 8 a2 (by omega), hb _ 0 a3 (by omega)]
theorem num_be4 (N : Nat) (h : N < 4294967296) : num (be4 N) = N := by
  have e : be4 N = [byteAt N 24, byteAt N 16, byteAt N 8, byteAt N 0] := rfl
  rw [e]
  simp only [num, List.foldl_cons, List.foldl_nil, byteAt, BitVec.toNat_ofNat]
  omega
theorem num_be8 (N : Nat) (h : N < 18446744073709551616) : num (be8 N) = N := by
  have e : be8 N = [byteAt N 56, byteAt N 48, byteAt N 40, byteAt N 32, byteAt N 24, byteAt N 16, byteAt N 8, byteAt N 0] := rfl
  rw [e]
  simp only [num, List.foldl_cons, List.foldl_nil, byteAt, BitVec.toNat_ofNat]
  omega
theorem chunks_of_flat : ∀ (ds : List Text) (r : Text), Digs ds → chunks (ds.flatten ++ r) ds.length = ds
  | [], r, _ => rfl
  | d :: ds, r, h => by
    have hd : d.length = 32 := h d (List.mem_cons_self ..)
    have e : chunks ((d :: ds).flatten ++ r) (ds.length + 1) = ((d :: ds).flatten ++ r).take 32 :: chunks (((d :: ds).flatten ++ r).drop 32) ds.length := by
      unfold chunks
      rw [List.range_succ_eq_map, List.map_cons, List.map_map]
      congr 1
      apply List.map_congr_left
      intro j _
      show chunk _ (j + 1) = chunk _ j
      unfold chunk
      rw [List.drop_drop, show 32 * (j + 1) = 32 + 32 * j by omega]
    rw [List.length_cons, e, List.flatten_cons, List.append_assoc, List.take_left' hd, List.drop_left' hd, chunks_of_flat ds r (fun x hx => h x (List.mem_cons_of_mem _ hx))]
/-- The eight and the four bytes from a place on. -/
def n8 (q : Text) (o : Nat) : Nat := num ((q.drop o).take 8)
def n4 (q : Text) (o : Nat) : Nat := num ((q.drop o).take 4)
/-- The row that stands at a place, and where the next one stands; c: how many digests the way of a number has. -/
def rowAt (c : Nat → Nat) (q : Text) (o : Nat) : Row := ⟨n8 q o, (q.drop (o + 12)).take (n4 q (o + 8)), chunks (q.drop (o + 12 + n4 q (o + 8))) (c (n8 q o))⟩
def nxt (c : Nat → Nat) (q : Text) (o : Nat) : Nat := o + 12 + n4 q (o + 8) + 32 * c (n8 q o)
def rowsAt (c : Nat → Nat) (q : Text) : Nat → Nat → List Row
  | _, 0 => []
  | o, n + 1 => rowAt c q o :: rowsAt c q (nxt c q o) n
def endAt (c : Nat → Nat) (q : Text) : Nat → Nat → Nat
  | o, 0 => o
  | o, n + 1 => endAt c q (nxt c q o) n
theorem rowsAt_len (c : Nat → Nat) (q : Text) : ∀ (n o : Nat), (rowsAt c q o n).length = n
  | 0, _ => rfl
  | n + 1, o => by rw [rowsAt, List.length_cons, rowsAt_len c q n]
theorem endAt_succ (c : Nat → Nat) (q : Text) : ∀ (n o : Nat), endAt c q o (n + 1) = nxt c q (endAt c q o n)
  | 0, _ => rfl
  | n + 1, o => by
    show endAt c q (nxt c q o) (n + 1) = nxt c q (endAt c q (nxt c q o) n)
    exact endAt_succ c q n _
theorem nxt_ge (c : Nat → Nat) (q : Text) (o : Nat) : o + 12 ≤ nxt c q o := by unfold nxt; omega
theorem endAt_ge (c : Nat → Nat) (q : Text) : ∀ (n o : Nat), o + 12 * n ≤ endAt c q o n
  | 0, o => Nat.le_refl _
  | n + 1, o => by
    have h1 := endAt_ge c q n (nxt c q o)
    have h2 := nxt_ge c q o
    show o + 12 * (n + 1) ≤ endAt c q (nxt c q o) n
    omega
theorem endAt_mono (c : Nat → Nat) (q : Text) (o : Nat) : ∀ (k n : Nat), n ≤ k → endAt c q o n ≤ endAt c q o k
  | 0, n, h => by
    obtain rfl : n = 0 := by omega
    exact Nat.le_refl _
  | k + 1, n, h => by
    by_cases hn : n = k + 1
    · rw [hn]; exact Nat.le_refl _
    · have h1 := endAt_mono c q o k n (by omega)
      have h2 := nxt_ge c q (endAt c q o k)
      rw [endAt_succ]
      omega
/-- What was laid down is what stands there. -/
theorem rowAt_of (c : Nat → Nat) (pre post : Text) (r : Row) (h1 : r.y < 18446744073709551616) (h2 : r.e.length < 4294967296) (h3 : r.ds.length = c r.y) (h4 : Digs r.ds) :
    rowAt c (pre ++ (rowB r ++ post)) pre.length = r ∧ nxt c (pre ++ (rowB r ++ post)) pre.length = pre.length + (rowB r).length := by
  have e0 : (pre ++ (rowB r ++ post)).drop pre.length = be8 r.y ++ (be4 r.e.length ++ (r.e ++ (r.ds.flatten ++ post))) := by
    rw [List.drop_left]
    simp [rowB]
  have e8 : (pre ++ (rowB r ++ post)).drop (pre.length + 8) = be4 r.e.length ++ (r.e ++ (r.ds.flatten ++ post)) := by
    rw [← List.drop_drop, e0, List.drop_left' (be8_len _)]
  have e12 : (pre ++ (rowB r ++ post)).drop (pre.length + 12) = r.e ++ (r.ds.flatten ++ post) := by
    rw [show pre.length + 12 = pre.length + 8 + 4 by omega, ← List.drop_drop, e8, List.drop_left' (be4_len _)]
  have m8 : n8 (pre ++ (rowB r ++ post)) pre.length = r.y := by
    unfold n8
    rw [e0, List.take_left' (be8_len _), num_be8 _ h1]
  have m4 : n4 (pre ++ (rowB r ++ post)) (pre.length + 8) = r.e.length := by
    unfold n4
    rw [e8, List.take_left' (be4_len _), num_be4 _ h2]
  have ek : (pre ++ (rowB r ++ post)).drop (pre.length + 12 + r.e.length) = r.ds.flatten ++ post := by
    rw [← List.drop_drop, e12, List.drop_left]
  refine ⟨?_, ?_⟩
  · unfold rowAt
    rw [m8, m4, e12, ek, List.take_left, ← h3, chunks_of_flat _ _ h4]
  · unfold nxt
    rw [m8, m4, rowB_len r h4, h3]
    omega
theorem rowsAt_of (c : Nat → Nat) (post : Text) : ∀ (l : List Row) (pre : Text), (∀ r ∈ l, r.y < 18446744073709551616 ∧ r.e.length < 4294967296 ∧ r.ds.length = c r.y ∧ Digs r.ds) →
    rowsAt c (pre ++ (rowsB l ++ post)) pre.length l.length = l ∧ endAt c (pre ++ (rowsB l ++ post)) pre.length l.length = pre.length + (rowsB l).length
  | [], pre, _ => ⟨rfl, rfl⟩
  | r :: l, pre, h => by
    obtain ⟨h1, h2, h3, h4⟩ := h r (List.mem_cons_self ..)
    have e : pre ++ (rowsB (r :: l) ++ post) = pre ++ (rowB r ++ (rowsB l ++ post)) := by simp [rowsB]
    have e' : pre ++ (rowB r ++ (rowsB l ++ post)) = (pre ++ rowB r) ++ (rowsB l ++ post) := by simp
    obtain ⟨a1, a2⟩ := rowAt_of c pre (rowsB l ++ post) r h1 h2 h3 h4
    obtain ⟨b1, b2⟩ := rowsAt_of c post l (pre ++ rowB r) (fun x hx => h x (List.mem_cons_of_mem _ hx))
    rw [List.length_append] at b1 b2
    rw [List.length_cons, e]
    refine ⟨?_, ?_⟩
    · show rowAt c _ pre.length :: rowsAt c _ (nxt c _ pre.length) l.length = _
      rw [a1, a2, e', b1]
    · show endAt c _ (nxt c _ pre.length) l.length = _
      rw [a2, e', b2]
      simp [rowsB]
      omega
/-- What stands there is laid down as it stood. -/
theorem rowB_at (c : Nat → Nat) (q : Text) (o : Nat) (h : nxt c q o ≤ q.length) : rowB (rowAt c q o) = (q.drop o).take (nxt c q o - o) ∧ (rowAt c q o).e.length = n4 q (o + 8) ∧ Digs (rowAt c q o).ds ∧ (rowAt c q o).ds.length = c (n8 q o) := by
  unfold nxt at h
  have l8 : ((q.drop o).take 8).length = 8 := by rw [List.length_take, List.length_drop]; omega
  have l4 : ((q.drop (o + 8)).take 4).length = 4 := by rw [List.length_take, List.length_drop]; omega
  have hk : ((q.drop (o + 12)).take (n4 q (o + 8))).length = n4 q (o + 8) := by rw [List.length_take, List.length_drop]; omega
  have hc : 32 * c (n8 q o) ≤ (q.drop (o + 12 + n4 q (o + 8))).length := by rw [List.length_drop]; omega
  refine ⟨?_, hk, chunks_digs _ _ hc, chunks_len _ _⟩
  show be8 (n8 q o) ++ (be4 ((q.drop (o + 12)).take (n4 q (o + 8))).length ++ ((q.drop (o + 12)).take (n4 q (o + 8)) ++ (chunks (q.drop (o + 12 + n4 q (o + 8))) (c (n8 q o))).flatten)) = _
  rw [hk]
  have ef : (chunks (q.drop (o + 12 + n4 q (o + 8))) (c (n8 q o))).flatten = (q.drop (o + 12 + n4 q (o + 8))).take (32 * c (n8 q o)) := by
    have e : chunks (q.drop (o + 12 + n4 q (o + 8))) (c (n8 q o)) = chunks ((q.drop (o + 12 + n4 q (o + 8))).take (32 * c (n8 q o))) (c (n8 q o)) := by
      unfold chunks
      apply List.map_congr_left
      intro j hj
      rw [List.mem_range] at hj
      unfold chunk
      rw [List.drop_take, List.take_take]
      congr 1
      omega
    rw [e, chunks_flat _ _ (by rw [List.length_take]; omega)]
  rw [ef, show be8 (n8 q o) = (q.drop o).take 8 from be8_num _ l8, show be4 (n4 q (o + 8)) = (q.drop (o + 8)).take 4 from be4_num _ l4]
  have split : ∀ (a b : Nat) (p : Text), p.take (a + b) = p.take a ++ (p.drop a).take b := fun a b p => List.take_add
  unfold nxt
  rw [show o + 12 + n4 q (o + 8) + 32 * c (n8 q o) - o = 8 + (4 + (n4 q (o + 8) + 32 * c (n8 q o))) by omega, split, split, split, List.drop_drop, List.drop_drop, List.drop_drop, show o + 8 + 4 = o + 12 by omega]
theorem rowsB_at (c : Nat → Nat) (q : Text) : ∀ (n o : Nat), endAt c q o n ≤ q.length → rowsB (rowsAt c q o n) = (q.drop o).take (endAt c q o n - o)
  | 0, o, _ => by simp [rowsAt, rowsB, endAt]
  | n + 1, o, h => by
    have h : endAt c q (nxt c q o) n ≤ q.length := h
    have h1 := endAt_ge c q n (nxt c q o)
    have h2 := nxt_ge c q o
    have ih := rowsB_at c q n (nxt c q o) h
    have hb := (rowB_at c q o (by omega)).1
    show rowsB (rowAt c q o :: rowsAt c q (nxt c q o) n) = (q.drop o).take (endAt c q (nxt c q o) n - o)
    have e : rowsB (rowAt c q o :: rowsAt c q (nxt c q o) n) = rowB (rowAt c q o) ++ rowsB (rowsAt c q (nxt c q o) n) := by simp [rowsB]
    rw [e, hb, ih, show endAt c q (nxt c q o) n - o = (nxt c q o - o) + (endAt c q (nxt c q o) n - nxt c q o) by omega, List.take_add, List.drop_drop, show o + (nxt c q o - o) = nxt c q o by omega]
end Go.Proofs.Ytmdkfhfkdcbpgaa.PieceB

namespace Go.Proofs.Ytmdkfhfkdcbpgaa.ReadIncl2
open Go Go.RowKit Go.Proofs.Ytmdkfhfkdcbpgaa Go.Proofs.Ytmdkfhfkdcbpgaa.Mem Go.Proofs.Ytmdkfhfkdcbpgaa.Sha Go.Proofs.Ytmdkfhfkdcbpgaa.Bytes Go.Proofs.Ytmdkfhfkdcbpgaa.Append Go.Proofs.Ytmdkfhfkdcbpgaa.Octet Go.Proofs.Ytmdkfhfkdcbpgaa.TreeMath Go.Proofs.Ytmdkfhfkdcbpgaa.Sides Go.Proofs.Ytmdkfhfkdcbpgaa.TreeMem Go.Proofs.Ytmdkfhfkdcbpgaa.TreeRoot Go.Proofs.Ytmdkfhfkdcbpgaa.Held Go.Proofs.Ytmdkfhfkdcbpgaa.Own Go.Proofs.Ytmdkfhfkdcbpgaa.Reader Go.Proofs.Ytmdkfhfkdcbpgaa.Reader4 Go.Proofs.Ytmdkfhfkdcbpgaa.ProofBeside Go.Proofs.Ytmdkfhfkdcbpgaa.ProofEnc Go.Proofs.Ytmdkfhfkdcbpgaa.Beside17 Go.Proofs.Ytmdkfhfkdcbpgaa.Ref17 Go.Proofs.Ytmdkfhfkdcbpgaa.Ref17b Go.Proofs.Ytmdkfhfkdcbpgaa.DecIncl Go.Proofs.Ytmdkfhfkdcbpgaa.DecIncl2 Go.Proofs.Ytmdkfhfkdcbpgaa.Bytes17 Go.Proofs.Ytmdkfhfkdcbpgaa.Way17 Go.Proofs.Ytmdkfhfkdcbpgaa.Same17 Go.Proofs.Ytmdkfhfkdcbpgaa.Guard Go.Proofs.Ytmdkfhfkdcbpgaa.ReadIncl

end Go.Proofs.Ytmdkfhfkdcbpgaa.ReadIncl2

namespace Go.Proofs.Ytmdkfhfkdcbpgaa.Law17a
open Go Go.RowKit Go.Proofs.Ytmdkfhfkdcbpgaa Go.Proofs.Ytmdkfhfkdcbpgaa.Mem Go.Proofs.Ytmdkfhfkdcbpgaa.Sha Go.Proofs.Ytmdkfhfkdcbpgaa.Bytes Go.Proofs.Ytmdkfhfkdcbpgaa.TreeMath Go.Proofs.Ytmdkfhfkdcbpgaa.Sides Go.Proofs.Ytmdkfhfkdcbpgaa.TreeMem Go.Proofs.Ytmdkfhfkdcbpgaa.TreeRoot Go.Proofs.Ytmdkfhfkdcbpgaa.Held Go.Proofs.Ytmdkfhfkdcbpgaa.Own Go.Proofs.Ytmdkfhfkdcbpgaa.ProofBeside Go.Proofs.Ytmdkfhfkdcbpgaa.ProofEnc Go.Proofs.Ytmdkfhfkdcbpgaa.Beside17 Go.Proofs.Ytmdkfhfkdcbpgaa.Ref17 Go.Proofs.Ytmdkfhfkdcbpgaa.Ref17b Go.Proofs.Ytmdkfhfkdcbpgaa.DecIncl Go.Proofs.Ytmdkfhfkdcbpgaa.DecIncl2 Go.Proofs.Ytmdkfhfkdcbpgaa.ReadIncl Go.Proofs.Ytmdkfhfkdcbpgaa.ReadIncl2 Go.Proofs.Ytmdkfhfkdcbpgaa.Book Go.Proofs.Ytmdkfhfkdcbpgaa.Book2 Go.Proofs.Ytmdkfhfkdcbpgaa.Same8 Go.Proofs.Ytmdkfhfkdcbpgaa.Book8

def mk0 : Text := [165, 90, 165] ++ List.replicate 29 0
theorem mk0_len : mk0.length = 32 := rfl
set_option maxRecDepth 100000 in
set_option maxHeartbeats 1000000 in
theorem stranger17_any (w : World) : Calls Try.prog 7 #[] w fun e w' => e = .returned (.agg (cells8 mk0).toArray) ∧ Below w.heap.size w w' := by
  have hB0 : Hid (Blk (w.alloc (.cells Z32 23)) w.heap.size 23 Z32) := Blk.new w _ _
  have hb0 : Hid (Below w.heap.size w (w.alloc (.cells Z32 23))) := Below.heap_below w _
  have F := Lib.hid (fit (x := mk0) mk0_len)
  go_enter Try.func7, Try.ntmps7
  go_wp2_with ((with_reducible change wpList _ _ _ ({ dst := none, op := Op.store 23 _ _, type := _, pos := _, after := _, guard := _ } :: _) _ _); refine wpList_store_row (o := ⟨none, _, _, _, _, _⟩) rfl 23 (.tmp 0) (.tmp 1) rfl w.heap.size (cells8 mk0).toArray rfl rfl 23 Z32 hB0.out F.out.size F.out.zero F.out.one ?_)
  refine bodyPost_ret (results_cell_row rfl _ _ w.heap.size 23 (cells8 mk0).toArray (0, 0) _ rfl (setRow_heap _ _ _ _ _ _ hB0.out) Try.underlying23 rfl F.out.size) rfl ?_
  exact ⟨rfl, below_setRow hb0.out (Nat.le_refl _) _⟩
set_option maxRecDepth 100000 in
set_option maxHeartbeats 1000000 in
theorem sameIncl_yes (x y : Int) (l : List Text) (n : Nat) (hn : n < 140737488355328) (A B : Option Addr) (c d : Nat) (w : World) (ha : RdD w A n l) (hb : RdD w B n l) :
    Calls Try.prog 43 #[.agg (inclCells x y A n c), .agg (inclCells x y B n d)] w fun e w' => e = .returned (.bool true) ∧ Below w.heap.size w w' := by
  unfold inclCells
  have hb2 : Hid (Below w.heap.size w ((w.alloc (.cells #[.int .i64 x, .int .i64 y, .slice A n c] 48)).alloc (.cells #[.int .i64 x, .int .i64 y, .slice B n d] 48))) := (Below.heap_below w _).alloc (by simp) _
  have hS : Hid (∀ w', Below w.heap.size w w' → Calls Try.prog 33 #[.slice A n c, .slice B n d] w' fun e w'' => e = .returned (.bool true) ∧ Below w'.heap.size w' w'') := fun w' h => by
    have := sameD_any n n hn l l A B c d w' (ha.below h) (hb.below h)
    rw [decide_eq_true rfl] at this
    exact this
  have y1 : (x == x) = true := beq_self_eq_true _
  have y2 : (y == y) = true := beq_self_eq_true _
  clear ha hb hn
  go_enter Try.func43, Try.ntmps43
  go_wp2_with (go_at_call 33; refine (hS.out _ hb2.out).mono ?_; rintro e w3 ⟨rfl, hk⟩; have hb3 : Hid (Below w.heap.size w w3) := hb2.out.trans (hk.mono hb2.out.size); clear hk)
  go_ret
  exact ⟨rfl, hb3.out⟩

set_option maxRecDepth 100000 in
theorem right_none (A : Option Addr) (c : Nat) (w : World) :
    Calls Try.prog 10 #[.slice A 0 c, .int .i64 170, .slice none 0 0] w fun e w' => e = .returned (.bool true) ∧ Below w.heap.size w w' := by
  have X := fun w' => Lib.run_eql_slice_nil (P := Try.prog) w' 29 5 none 0 0 0 0 Try.underlying29
  go_enter Try.func10, Try.ntmps10
  go_wp2_with fail
  go_ret
  exact ⟨rfl, Below.refl _ _⟩
set_option maxRecDepth 100000 in
theorem right_some (b : Text) (n : Nat) (hn : b.length = n) (hb : n < 9223372036854775807) (A : Option Addr) (c : Nat) (a : Addr) (d : Nat) (w : World) (h1 : Reads w 1 A n (cells8 b)) (h2 : Reads w 1 (some a) n (cells8 b)) :
    Calls Try.prog 10 #[.slice A n c, .int .i64 0, .slice (some a) n d] w fun e w' => e = .returned (.bool true) ∧ Below w.heap.size w w' := by
  have X := fun w' => Lib.run_eql_slice_nil (P := Try.prog) w' 29 5 (some a) n d 0 0 Try.underlying29
  have hS : Hid (Calls Try.prog 32 #[.slice A n c, .slice (some a) n d] w fun e w' => e = .returned (.bool true) ∧ ∃ k, w' = w.drewN k) := by
    have := same8_any b b n n hn hn hb A (some a) c d w h1 h2
    rw [decide_eq_true rfl] at this
    exact this
  clear hn hb h1 h2
  go_enter Try.func10, Try.ntmps10
  go_wp2_with (go_at_call 32; refine hS.out.mono ?_; rintro e w3 ⟨rfl, k, rfl⟩)
  go_ret
  exact ⟨rfl, below_drawn (Below.refl _ _) k⟩
end Go.Proofs.Ytmdkfhfkdcbpgaa.Law17a

namespace Go.Proofs.Ytmdkfhfkdcbpgaa.DecPiece0
open Go Go.RowKit Go.Proofs.Ytmdkfhfkdcbpgaa Go.Proofs.Ytmdkfhfkdcbpgaa.Mem Go.Proofs.Ytmdkfhfkdcbpgaa.Sha Go.Proofs.Ytmdkfhfkdcbpgaa.Bytes Go.Proofs.Ytmdkfhfkdcbpgaa.TreeMath Go.Proofs.Ytmdkfhfkdcbpgaa.Sides Go.Proofs.Ytmdkfhfkdcbpgaa.TreeMem Go.Proofs.Ytmdkfhfkdcbpgaa.TreeRoot Go.Proofs.Ytmdkfhfkdcbpgaa.Held Go.Proofs.Ytmdkfhfkdcbpgaa.Reader Go.Proofs.Ytmdkfhfkdcbpgaa.Reader2 Go.Proofs.Ytmdkfhfkdcbpgaa.Reader3 Go.Proofs.Ytmdkfhfkdcbpgaa.Reader4 Go.Proofs.Ytmdkfhfkdcbpgaa.ProofBeside Go.Proofs.Ytmdkfhfkdcbpgaa.Beside17 Go.Proofs.Ytmdkfhfkdcbpgaa.Ref17 Go.Proofs.Ytmdkfhfkdcbpgaa.Ref17b

theorem b8_51 {y : BitVec 8} : b8 y = 51 ↔ y = 51 := by
  constructor
  · intro h
    exact b8_inj (h.trans (show (51 : Int) = b8 51 by rfl))
  · rintro rfl
    rfl
set_option maxRecDepth 100000 in
set_option maxHeartbeats 1000000 in
theorem begun_long (k : Nat) (h : 2097152 < k) (A : Option Addr) (c : Nat) (w : World) :
    Calls Try.prog 52 #[.slice A k c, .int .i64 2097152, .int .u8 51] w fun e w' => e = .returned (.tuple #[.pointer none, .int .i64 170]) ∧ w = w' := by
  have y1 : (2097152 : Int) < (k : Int) := by omega
  clear h
  go_enter Try.func52, Try.ntmps52
  go_wp2_with fail
  go_ret2
  exact ⟨rfl, rfl⟩
set_option maxRecDepth 100000 in
set_option maxHeartbeats 1000000 in
theorem begun_yes (q : Text) (k : Nat) (hk : q.length = k) (h9 : ¬ 2097152 < k) (h1 : 1 ≤ k) (hy : q.getD 0 0 = 51) (A : Option Addr) (c : Nat) (w : World) (hr : Reads w 1 A k (cells8 q)) (hnil : A = none → k = 0 ∧ c = 0) :
    Calls Try.prog 52 #[.slice A k c, .int .i64 2097152, .int .u8 51] w fun e w' => ∃ g A' c', e = .returned (.tuple #[.pointer (some ⟨g, 0, none⟩), .int .i64 0]) ∧ w.heap.size ≤ g ∧ Rd w' g q A' c' 1 ∧ Below w.heap.size w w' := by
  have y1 : decide ((2097152 : Int) < (k : Int)) = false := decide_eq_false (by omega)
  have y2 : ¬ ((2097152 : Int) < (k : Int)) := by omega
  have hR := Lib.hid (read_any q k hk (by omega) A c w hr hnil)
  have hT := Lib.hid (fun g A' c' w' (h : Rd w' g q A' c' 0) => take1_any q (by omega) g 0 A' c' w' h)
  have hq1 : Hid (0 + 1 ≤ q.length) := by show _ ≤ _; omega
  have hyy := Lib.hid hy
  have hw1 : Hid (whyOf (0 + 1) q.length = 0) := if_pos (by omega)
  clear hr hnil hk h9 h1 hy
  go_enter Try.func52, Try.ntmps52
  go_wp2_with fail
  refine hR.out.mono ?_
  rintro e w1 ⟨g, A', c', rfl, hg, hb, hRd⟩
  replace hg := Lib.hid hg
  replace hb := Lib.hid hb
  replace hRd := Lib.hid hRd
  go_wp2_with fail
  refine (hT.out g A' c' w1 hRd.out).mono ?_
  rintro e w2 ⟨y, rfl, hy2, hR2, hk2⟩
  obtain rfl : y = 51 := (hy2 hq1.out).trans hyy.out
  have hb2 : Hid (Below w.heap.size w w2) := hb.out.trans (Kept.below_of hk2 hg.out hb.out.size)
  have e51 : b8 (51 : BitVec 8) = 51 := rfl
  have hW := Lib.hid (why_any q g (0 + 1) A' c' w2 hR2)
  rw [hw1.out] at hW
  replace hR2 := Lib.hid hR2
  clear hy2 hk2
  rw [e51]
  go_wp2_with (go_at_call 73; refine hW.out.mono ?_; rintro e w3 ⟨rfl, rfl⟩)
  go_ret2
  exact ⟨g, A', c', rfl, hg.out, hR2.out, hb2.out⟩
set_option maxRecDepth 100000 in
set_option maxHeartbeats 1000000 in
theorem begun_no (q : Text) (k : Nat) (hk : q.length = k) (h9 : ¬ 2097152 < k) (hn : ¬ (1 ≤ k ∧ q.getD 0 0 = 51)) (A : Option Addr) (c : Nat) (w : World) (hr : Reads w 1 A k (cells8 q)) (hnil : A = none → k = 0 ∧ c = 0) :
    Calls Try.prog 52 #[.slice A k c, .int .i64 2097152, .int .u8 51] w fun e w' => e = .returned (.tuple #[.pointer none, .int .i64 8]) ∧ Below w.heap.size w w' := by
  have y1 : decide ((2097152 : Int) < (k : Int)) = false := decide_eq_false (by omega)
  have y2 : ¬ ((2097152 : Int) < (k : Int)) := by omega
  have hR := Lib.hid (read_any q k hk (by omega) A c w hr hnil)
  have hT := Lib.hid (fun g A' c' w' (h : Rd w' g q A' c' 0) => take1_any q (by omega) g 0 A' c' w' h)
  have hnn := Lib.hid hn
  have hkk := Lib.hid hk
  clear hr hnil hk h9 hn
  go_enter Try.func52, Try.ntmps52
  go_wp2_with fail
  refine hR.out.mono ?_
  rintro e w1 ⟨g, A', c', rfl, hg, hb, hRd⟩
  replace hg := Lib.hid hg
  replace hb := Lib.hid hb
  replace hRd := Lib.hid hRd
  go_wp2_with fail
  refine (hT.out g A' c' w1 hRd.out).mono ?_
  rintro e w2 ⟨y, rfl, hy2, hR2, hk2⟩
  have hb2 : Hid (Below w.heap.size w w2) := hb.out.trans (Kept.below_of hk2 hg.out hb.out.size)
  by_cases hy : y = 51
  · subst hy
    have hw1 : whyOf (0 + 1) q.length = 8 := if_neg (fun h => hnn.out ⟨by rw [← hkk.out]; omega, (hy2 h).symm⟩)
    have e51 : b8 (51 : BitVec 8) = 51 := rfl
    have hW := Lib.hid (why_any q g (0 + 1) A' c' w2 hR2)
    rw [hw1] at hW
    clear hy2 hk2 hR2 hw1
    rw [e51]
    go_wp2_with (go_at_call 73; refine hW.out.mono ?_; rintro e w3 ⟨rfl, rfl⟩)
    go_ret2
    exact ⟨rfl, hb2.out⟩
  · have z3 : ¬ b8 y = 51 := fun e => hy (b8_51.1 e)
    have z1 : (b8 y == 51) = false := beq_eq_false_iff_ne.2 z3
    have z2 : (b8 y != 51) = true := by rw [bne, z1]; rfl
    clear hy2 hk2 hR2 hy
    go_wp2_with fail
    go_ret2
    exact ⟨rfl, hb2.out⟩
end Go.Proofs.Ytmdkfhfkdcbpgaa.DecPiece0

namespace Go.Proofs.Ytmdkfhfkdcbpgaa.DecIdx0
open Go Go.RowKit Go.Proofs.Ytmdkfhfkdcbpgaa Go.Proofs.Ytmdkfhfkdcbpgaa.Mem Go.Proofs.Ytmdkfhfkdcbpgaa.Sha Go.Proofs.Ytmdkfhfkdcbpgaa.Bytes Go.Proofs.Ytmdkfhfkdcbpgaa.TreeMath Go.Proofs.Ytmdkfhfkdcbpgaa.Sides Go.Proofs.Ytmdkfhfkdcbpgaa.TreeMem Go.Proofs.Ytmdkfhfkdcbpgaa.TreeRoot Go.Proofs.Ytmdkfhfkdcbpgaa.Held Go.Proofs.Ytmdkfhfkdcbpgaa.Reader Go.Proofs.Ytmdkfhfkdcbpgaa.Reader2 Go.Proofs.Ytmdkfhfkdcbpgaa.Reader3 Go.Proofs.Ytmdkfhfkdcbpgaa.Reader4 Go.Proofs.Ytmdkfhfkdcbpgaa.ProofBeside Go.Proofs.Ytmdkfhfkdcbpgaa.Beside17 Go.Proofs.Ytmdkfhfkdcbpgaa.Ref17 Go.Proofs.Ytmdkfhfkdcbpgaa.Ref17b

theorem b8_50 {y : BitVec 8} : b8 y = 50 ↔ y = 50 := by
  constructor
  · intro h
    exact b8_inj (h.trans (show (50 : Int) = b8 50 by rfl))
  · rintro rfl
    rfl
set_option maxRecDepth 100000 in
set_option maxHeartbeats 1000000 in
theorem begun_long (k : Nat) (h : 9000 < k) (A : Option Addr) (c : Nat) (w : World) :
    Calls Try.prog 52 #[.slice A k c, .int .i64 9000, .int .u8 50] w fun e w' => e = .returned (.tuple #[.pointer none, .int .i64 170]) ∧ w = w' := by
  have y1 : (9000 : Int) < (k : Int) := by omega
  clear h
  go_enter Try.func52, Try.ntmps52
  go_wp2_with fail
  go_ret2
  exact ⟨rfl, rfl⟩
set_option maxRecDepth 100000 in
set_option maxHeartbeats 1000000 in
theorem begun_yes (q : Text) (k : Nat) (hk : q.length = k) (h9 : ¬ 9000 < k) (h1 : 1 ≤ k) (hy : q.getD 0 0 = 50) (A : Option Addr) (c : Nat) (w : World) (hr : Reads w 1 A k (cells8 q)) (hnil : A = none → k = 0 ∧ c = 0) :
    Calls Try.prog 52 #[.slice A k c, .int .i64 9000, .int .u8 50] w fun e w' => ∃ g A' c', e = .returned (.tuple #[.pointer (some ⟨g, 0, none⟩), .int .i64 0]) ∧ w.heap.size ≤ g ∧ Rd w' g q A' c' 1 ∧ Below w.heap.size w w' := by
  have y1 : decide ((9000 : Int) < (k : Int)) = false := decide_eq_false (by omega)
  have y2 : ¬ ((9000 : Int) < (k : Int)) := by omega
  have hR := Lib.hid (read_any q k hk (by omega) A c w hr hnil)
  have hT := Lib.hid (fun g A' c' w' (h : Rd w' g q A' c' 0) => take1_any q (by omega) g 0 A' c' w' h)
  have hq1 : Hid (0 + 1 ≤ q.length) := by show _ ≤ _; omega
  have hyy := Lib.hid hy
  have hw1 : Hid (whyOf (0 + 1) q.length = 0) := if_pos (by omega)
  clear hr hnil hk h9 h1 hy
  go_enter Try.func52, Try.ntmps52
  go_wp2_with fail
  refine hR.out.mono ?_
  rintro e w1 ⟨g, A', c', rfl, hg, hb, hRd⟩
  replace hg := Lib.hid hg
  replace hb := Lib.hid hb
  replace hRd := Lib.hid hRd
  go_wp2_with fail
  refine (hT.out g A' c' w1 hRd.out).mono ?_
  rintro e w2 ⟨y, rfl, hy2, hR2, hk2⟩
  obtain rfl : y = 50 := (hy2 hq1.out).trans hyy.out
  have hb2 : Hid (Below w.heap.size w w2) := hb.out.trans (Kept.below_of hk2 hg.out hb.out.size)
  have e50 : b8 (50 : BitVec 8) = 50 := rfl
  have hW := Lib.hid (why_any q g (0 + 1) A' c' w2 hR2)
  rw [hw1.out] at hW
  replace hR2 := Lib.hid hR2
  clear hy2 hk2
  rw [e50]
  go_wp2_with (go_at_call 73; refine hW.out.mono ?_; rintro e w3 ⟨rfl, rfl⟩)
  go_ret2
  exact ⟨g, A', c', rfl, hg.out, hR2.out, hb2.out⟩
set_option maxRecDepth 100000 in
set_option maxHeartbeats 1000000 in
theorem begun_no (q : Text) (k : Nat) (hk : q.length = k) (h9 : ¬ 9000 < k) (hn : ¬ (1 ≤ k ∧ q.getD 0 0 = 50)) (A : Option Addr) (c : Nat) (w : World) (hr : Reads w 1 A k (cells8 q)) (hnil : A = none → k = 0 ∧ c = 0) :
    Calls Try.prog 52 #[.slice A k c, .int .i64 9000, .int .u8 50] w fun e w' => e = .returned (.tuple #[.pointer none, .int .i64 8]) ∧ Below w.heap.size w w' := by
  have y1 : decide ((9000 : Int) < (k : Int)) = false := decide_eq_false (by omega)
  have y2 : ¬ ((9000 : Int) < (k : Int)) := by omega
  have hR := Lib.hid (read_any q k hk (by omega) A c w hr hnil)
  have hT := Lib.hid (fun g A' c' w' (h : Rd w' g q A' c' 0) => take1_any q (by omega) g 0 A' c' w' h)
  have hnn := Lib.hid hn
  have hkk := Lib.hid hk
  clear hr hnil hk h9 hn
  go_enter Try.func52, Try.ntmps52
  go_wp2_with fail
  refine hR.out.mono ?_
  rintro e w1 ⟨g, A', c', rfl, hg, hb, hRd⟩
  replace hg := Lib.hid hg
  replace hb := Lib.hid hb
  replace hRd := Lib.hid hRd
  go_wp2_with fail
  refine (hT.out g A' c' w1 hRd.out).mono ?_
  rintro e w2 ⟨y, rfl, hy2, hR2, hk2⟩
  have hb2 : Hid (Below w.heap.size w w2) := hb.out.trans (Kept.below_of hk2 hg.out hb.out.size)
  by_cases hy : y = 50
  · subst hy
    have hw1 : whyOf (0 + 1) q.length = 8 := if_neg (fun h => hnn.out ⟨by rw [← hkk.out]; omega, (hy2 h).symm⟩)
    have e50 : b8 (50 : BitVec 8) = 50 := rfl
    have hW := Lib.hid (why_any q g (0 + 1) A' c' w2 hR2)
    rw [hw1] at hW
    clear hy2 hk2 hR2 hw1
    rw [e50]
    go_wp2_with (go_at_call 73; refine hW.out.mono ?_; rintro e w3 ⟨rfl, rfl⟩)
    go_ret2
    exact ⟨rfl, hb2.out⟩
  · have z3 : ¬ b8 y = 50 := fun e => hy (b8_50.1 e)
    have z1 : (b8 y == 50) = false := beq_eq_false_iff_ne.2 z3
    have z2 : (b8 y != 50) = true := by rw [bne, z1]; rfl
    clear hy2 hk2 hR2 hy
    go_wp2_with fail
    go_ret2
    exact ⟨rfl, hb2.out⟩
/-- What beside answers, at any numbers. -/
def bsNum (size i : Int) : Int := if insideB size i = true then ((sides size.toNat i.toNat).length : Int) else 0
end Go.Proofs.Ytmdkfhfkdcbpgaa.DecIdx0

namespace Go.Proofs.Ytmdkfhfkdcbpgaa.Way17S
open Go Go.RowKit Go.Proofs.Ytmdkfhfkdcbpgaa Go.Proofs.Ytmdkfhfkdcbpgaa.Mem Go.Proofs.Ytmdkfhfkdcbpgaa.Sha Go.Proofs.Ytmdkfhfkdcbpgaa.Bytes Go.Proofs.Ytmdkfhfkdcbpgaa.Append Go.Proofs.Ytmdkfhfkdcbpgaa.TreeMem Go.Proofs.Ytmdkfhfkdcbpgaa.TreeRoot Go.Proofs.Ytmdkfhfkdcbpgaa.Book Go.Proofs.Ytmdkfhfkdcbpgaa.Own Go.Proofs.Ytmdkfhfkdcbpgaa.Reader4 Go.Proofs.Ytmdkfhfkdcbpgaa.Bytes17 Go.Proofs.Ytmdkfhfkdcbpgaa.Way17 Go.Proofs.Ytmdkfhfkdcbpgaa.ReadIncl

/-- Where way's loop stands behind i digests. -/
def StS (p : Text) (i : Nat) (l : List Text) (p1 : Text) (s1 : Bool) : Prop := (s1 = false ∧ 32 * i ≤ p.length ∧ l = chunks p i ∧ p1 = p.drop (32 * i)) ∨ (s1 = true ∧ p.length < 32 * i ∧ p1.length ≤ p.length)
/-- What a call of way leaves. -/
def WayOutS (w : World) (g B : Nat) (p : Text) (N : Nat) (e : Ending) (w' : World) : Prop :=
  ∃ (l : List Text) (A : Option Addr) (c : Nat), e = .returned (.slice A l.length c) ∧ RdD w' A l.length l ∧ (A = none → l.length = 0 ∧ c = 0) ∧ l.length ≤ c ∧ l.length ≤ N ∧ (32 * N ≤ p.length → l = chunks p N) ∧ (∀ a, A = some a → w.heap.size ≤ a.block ∧ a.block < w'.heap.size) ∧ Kept (· = g) w w' ∧ ∃ p2 s2, RB w' g B p2 s2 ∧ (32 * N ≤ p.length → p2 = p.drop (32 * N) ∧ s2 = false) ∧ (p.length < 32 * N → s2 = true) ∧ p2.length ≤ p.length

set_option maxRecDepth 100000 in
set_option maxHeartbeats 1000000 in
theorem way_anyS (g B : Nat) (p : Text) (hp : p.length < 140737488355328) (n : Int) (hn : n ≤ 1099511627776) (w : World) (h : RB w g B p false) :
    Calls Try.prog 63 #[.pointer (some ⟨g, 0, none⟩), .int .i64 n] w (WayOutS w g B p n.toNat) := by
  obtain ⟨i0, ii, iz0, iz1, iz2⟩ := info_partsN info32
  have hgl := Lib.hid h.lt
  have hR0 := Lib.hid h
  have hp47 := Lib.hid hp
  have hO0 : Hid (w.ownsRow w.heap.size 23 32 (.slice none 0 0) 0 (([] : List Text).flatMap cells8)) := World.ownsRow_nil _ _ _ _
  clear h hp
  go_enter Try.func63, Try.ntmps63
  go_wp2_with fail
  go_loopw [5, 6] (fun lv v wr => ∃ (i : Nat) (l : List Text) (A1 : Option Addr) (c1 : Nat) (p1 : Text) (s1 : Bool), v = .int .i64 (i : Int) ∧ lv = .slice A1 i c1 ∧ i ≤ n.toNat ∧ Hid (l.length = i) ∧ Hid (Digs l) ∧ Hid (wr.ownsRow w.heap.size 23 32 (.slice A1 i c1) i (l.flatMap cells8)) ∧ Hid (RB wr g B p1 s1) ∧ Hid (StS p i l p1 s1) ∧ Hid (Kept (· = g) w wr)) (fun _ v _ => n.toNat - (intOf v).toNat)
  case atStart => exact ⟨0, [], none, 0, p, false, rfl, rfl, Nat.zero_le _, rfl, (fun d h => by cases h), hO0.out, hR0.out, .inl ⟨rfl, by omega, rfl, by simp⟩, Kept.refl _ _⟩
  case round =>
    clear hO0 hR0
    obtain ⟨i, l, A1, c1, p1, s1, rfl, rfl, hin, hl, hd, hO, hR, hS, hK⟩ := hrel
    have hi0 : (0 : Int) ≤ (i : Int) := by omega
    have hi40 : (i : Int) ≤ 1099511627776 := by omega
    have hfin : Hid ((¬ ((i : Int) < n) ∨ s1 = true) → WayOutS w g B p n.toNat (.returned (.slice A1 i c1)) wr) := fun hx => by
      obtain ⟨A2, c2, e2, hc2, -, hnil2, hr2, hA2⟩ := Own.reads hO.out
      injection e2 with e3 e4 e5
      subst e3 e5
      refine ⟨l, A1, c1, by rw [hl.out], ⟨rfl, hd.out, by rw [hl.out]; exact hr2⟩, by rw [hl.out]; exact hnil2, by rw [hl.out]; exact hc2, by rw [hl.out]; exact hin, fun h32 => ?_, fun a ha => ⟨(hA2 a ha).1, (hO.out.lt _ (hA2 a ha).2).2⟩, hK.out, p1, s1, hR.out, fun h32 => ?_, fun h32 => ?_, ?_⟩
      · rcases hS.out with ⟨h1, h2, h3, h4⟩ | ⟨h1, h2, h3⟩
        · rcases hx with hx | hx
          · rw [h3, show i = n.toNat by omega]
          · rw [h1] at hx; cases hx
        · omega
      · rcases hS.out with ⟨h1, h2, h3, h4⟩ | ⟨h1, h2, h3⟩
        · rcases hx with hx | hx
          · exact ⟨by rw [h4, show i = n.toNat by omega], h1⟩
          · rw [h1] at hx; cases hx
        · omega
      · rcases hS.out with ⟨h1, h2, h3, h4⟩ | ⟨h1, h2, h3⟩
        · rcases hx with hx | hx
          · omega
          · rw [h1] at hx; cases hx
        · exact h1
      · rcases hS.out with ⟨h1, h2, h3, h4⟩ | ⟨h1, h2, h3⟩
        · rw [h4, List.length_drop]; omega
        · exact h3
    have hRl := hR.out
    obtain ⟨-, A3, c3, hb3, -⟩ := hRl
    have g1 : wr.cell? ⟨g, 1, none⟩ = some (.bool s1) := by rw [hb3.cell 1]; rfl
    clear hb3
    by_cases hlt : (i : Int) < n
    · cases s1 with
      | true =>
        have y1 : decide ((i : Int) < n) = true := decide_eq_true hlt
        have hres := Lib.hid (hfin.out (.inr rfl))
        clear hfin hlt
        go_wp2_with fail
        go_ret
        exact hres.out
      | false =>
        have y1 : decide ((i : Int) < n) = true := decide_eq_true hlt
        have hin2 : Hid (i < n.toNat) := by show _ < _; omega
        have hp1 : p1.length < 140737488355328 := by
          rcases hS.out with ⟨h1, h2, h3, h4⟩ | ⟨h1, h2, -⟩
          · rw [h4, List.length_drop]; have := hp47.out; omega
          · cases h1
        have hT := Lib.hid (digest17_any p1 hp1 g B false wr hR.out)
        have hsz : Hid (w.heap.size ≤ wr.heap.size) := hK.out.size
        have hl1 : Hid (i + 1 ≤ maxLen) := by show _ ≤ _; unfold maxLen; omega
        have hl2 : Hid ((i + 1) * 32 ≤ 140737488355328) := by show _ ≤ _; omega
        have hon : Hid (∀ k, (Value.slice A1 i c1).ownBlock = some k → w.heap.size ≤ k) := fun k e => (hO.out.lt k e).1
        clear hfin hlt hp1
        go_wp2_with (first
          | (go_at_call 62; refine hT.out.mono ?_; rintro e w1 ⟨d, rfl, hdl, hd1, hd2, hk1⟩; have hO1 : Hid ((w1.alloc (.cells (cells8 d).toArray 23)).ownsRow w.heap.size 23 32 (.slice A1 i c1) i (l.flatMap cells8)) := World.ownsRow.alloc (w := w1) (own_kept hO.out hk1 (fun k e h => by have := hon.out k e; have := hgl.out; omega)) _; have hnew : Hid (Reads (w1.alloc (.cells (cells8 d).toArray 23)) 32 (some ⟨w1.heap.size, 0, none⟩) 1 (cells8 d)) := Blk.reads (Blk.new w1 23 (cells8 d).toArray) 0 _ (by rw [cells8_len, hdl]) (fun k u hu => by rw [Nat.zero_add, List.getElem?_toArray]; exact hu); have hs1 : Hid (w.heap.size ≤ (w1.alloc (.cells (cells8 d).toArray 23)).heap.size) := (by have := hk1.size; have := hsz.out; show _ ≤ _; simp; omega); have q1 : Hid (∀ v ∈ [cells8 d], v.length = 32) := (by intro v hv; simp only [List.mem_singleton] at hv; rw [hv, cells8_len, hdl]); have x1 : Hid ([cells8 d].flatten.toArray = (cells8 d).toArray) := (by show _ = _; simp); have hK1 := Lib.hid ((hK.out.trans hk1 (fun _ _ h => h)).alloc (.cells (cells8 d).toArray 23)); replace hd1 := Lib.hid hd1; replace hd2 := Lib.hid hd2; replace hdl := Lib.hid hdl; have hgl1 : Hid (g < w1.heap.size) := (by have := hk1.size; have := hsz.out; have := hgl.out; show _ < _; omega); clear hk1 hT)
          | ((with_reducible change wpList _ _ _ ({ dst := some 22, op := _, type := _, pos := _, after := _, guard := _ } :: _) _ _); refine wpList_buildAggs (o := ⟨some 22, _, _, _, _, _⟩) rfl 26 23 1 _ rfl 32 (by decide) [cells8 d] Try.underlying26 size31 zero31' rfl (by decide) (by decide) q1.out rfl ?_; rw [x1.out])
          | ((with_reducible change wpList _ _ _ ({ dst := some 23, op := _, type := _, pos := _, after := _, guard := _ } :: _) _ _); refine wpList_append_src _ (o := ⟨some 23, _, _, _, _, _⟩) rfl (.tmp 19) (.tmp 22) 26 rfl w.heap.size 23 i0 (.agg Z32) 32 32 Try.underlying26 ii iz0 iz1 iz2 rfl (by decide) (.slice A1 i c1) i (l.flatMap cells8) rfl hO1.out (some ⟨w1.heap.size, 0, none⟩) 1 1 (cells8 d) rfl hnew.out (fun e => by cases e) (cells8_one d) hl1.out hl2.out hs1.out ?_; intro v3 w3 hG; have hO3' := hG.own; obtain ⟨A2, c2, rfl, -⟩ := Own.reads hO3'; have hO3 : Hid (w3.ownsRow w.heap.size 23 32 (.slice A2 (i + 1) c2) (i + 1) ((l ++ [d]).flatMap cells8)) := (by show World.ownsRow _ _ _ _ _ _ _; rw [List.flatMap_append, List.flatMap_singleton]; exact hO3'); have hgk := hG.grow; have hK3 : Hid (Kept (· = g) w w3) := hK1.out.grown hgk (fun k e => .inr (hon.out k e)); have hRk : Hid (∀ p' s', RB w1 g B p' s' → RB w3 g B p' s') := (fun p' s' h => (h.below (Below.heap_below _ _)).kept (S := fun k => some k = (Value.slice A1 i c1).ownBlock) ⟨hgk.os, hgk.tape, hgk.output, hgk.size, fun q hq hne => hgk.block q hq hne⟩ (fun e => by have := hon.out g e.symm; have := hgl.out; omega) (fun a ha e => by have := hon.out a e.symm; have := hgl.out; have := h.1; omega)); clear hG hO3' hgk hO1 hnew hs1))
        have hSn : Hid (∃ p2 s2, RB w3 g B p2 s2 ∧ StS p (i + 1) (l ++ [d]) p2 s2) := by
          rcases hS.out with ⟨-, h2, h3, h4⟩ | ⟨h1, h2, -⟩
          · have hln : p1.length = p.length - 32 * i := by rw [h4, List.length_drop]
            by_cases hge : 32 ≤ p1.length
            · obtain ⟨e1, hR1⟩ := hd1.out hge
              refine ⟨p1.drop 32, false, hRk.out _ _ hR1, .inl ⟨rfl, by omega, ?_, ?_⟩⟩
              · rw [chunks_succ, ← h3, e1, h4]; rfl
              · rw [h4, List.drop_drop]; congr 1
            · exact ⟨p1, true, hRk.out _ _ (hd2.out (by omega)), .inr ⟨rfl, by omega, by omega⟩⟩
          · cases h1
        obtain ⟨p2, s2, hR2, hS2⟩ := hSn.out
        have hll : Hid ((l ++ [d]).length = i + 1) := by show _ = _; rw [List.length_append, hl.out]; rfl
        have hdd : Hid (Digs (l ++ [d])) := hd.out.append_ (Digs.one hdl.out)
        replace hR2 := Lib.hid hR2
        replace hS2 := Lib.hid hS2
        clear hSn
        go_roundw
        case rel => exact ⟨i + 1, l ++ [d], A2, c2, p2, s2, by go_num, rfl, hin2.out, hll.out, hdd.out, hO3.out, hR2.out, hS2.out, hK3.out⟩
        case measure => (have := hin2.out; simp [intOf]; omega)
    · have y1 : decide ((i : Int) < n) = false := decide_eq_false hlt
      have hres := Lib.hid (hfin.out (.inl hlt))
      clear hfin hlt
      go_wp2_with fail
      go_ret
      exact hres.out
/-- Told by how much has been asked for. -/
theorem way_rqS (q : Text) (hq : q.length < 140737488355328) (g B m : Nat) (n : Int) (hn : n ≤ 1099511627776) (w : World) (h : RQ w g B q m) :
    Calls Try.prog 63 #[.pointer (some ⟨g, 0, none⟩), .int .i64 n] w fun e w' => ∃ (l : List Text) (A : Option Addr) (c : Nat), e = .returned (.slice A l.length c) ∧ RdD w' A l.length l ∧ (A = none → l.length = 0 ∧ c = 0) ∧ l.length ≤ c ∧ l.length ≤ n.toNat ∧ (m + 32 * n.toNat ≤ q.length → l = chunks (q.drop m) n.toNat) ∧ (∀ a, A = some a → w.heap.size ≤ a.block ∧ a.block < w'.heap.size) ∧ RQ w' g B q (m + 32 * n.toNat) ∧ Kept (· = g) w w' := by
  obtain ⟨p, s, n1, n2, n3, n4⟩ := h
  cases s with
  | true =>
    refine (way_short _ _ _ _ _ n1).mono ?_
    rintro e w' ⟨rfl, rfl⟩
    refine ⟨[], none, 0, rfl, RdD.nil_ _ _, fun _ => ⟨rfl, rfl⟩, Nat.le_refl _, Nat.zero_le _, fun hl => ?_, (fun a h => by cases h), ⟨p, true, n1, fun hl => ?_, fun _ => rfl, n4⟩, Kept.refl _ _⟩
    · have := (n2 (by omega)).2
      cases this
    · have := (n2 (by omega)).2
      cases this
  | false =>
    have hm : m ≤ q.length := by
      rcases Nat.lt_or_ge q.length m with h | h
      · have := n3 h; cases this
      · exact h
    refine (way_anyS _ _ _ (by omega) _ hn _ n1).mono ?_
    rintro e w' ⟨l, A3, c3, rfl, hrd, hn3, hc3, hlN, hfull, hnew, hkk3, p2, s2, hR2, k1, k2, k3⟩
    obtain ⟨rfl, -⟩ := n2 hm
    rw [List.length_drop] at k1 k2 k3 hfull
    refine ⟨l, A3, c3, rfl, hrd, hn3, hc3, hlN, fun hl => hfull (by omega), hnew, ⟨p2, s2, hR2, fun hl => ?_, fun hl => k2 (by omega), by omega⟩, hkk3⟩
    obtain ⟨e1, e2⟩ := k1 (by omega)
    exact ⟨by rw [e1, List.drop_drop], e2⟩
end Go.Proofs.Ytmdkfhfkdcbpgaa.Way17S
