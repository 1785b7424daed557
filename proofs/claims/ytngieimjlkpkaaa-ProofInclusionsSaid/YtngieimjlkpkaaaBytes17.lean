/-
  The document's reader of bytes (docketref17.bytes): next, number, walked.
-/
import Derived.Test.YtngieimjlkpkaaaDecIncl2
namespace Go.Proofs.Ytngieimjlkpkaaa.Bytes17
open Go Go.RowKit Go.Proofs.Ytngieimjlkpkaaa Go.Proofs.Ytngieimjlkpkaaa.Mem Go.Proofs.Ytngieimjlkpkaaa.Sha Go.Proofs.Ytngieimjlkpkaaa.Bytes Go.Proofs.Ytngieimjlkpkaaa.TreeMath Go.Proofs.Ytngieimjlkpkaaa.Sides Go.Proofs.Ytngieimjlkpkaaa.TreeMem Go.Proofs.Ytngieimjlkpkaaa.TreeRoot Go.Proofs.Ytngieimjlkpkaaa.Reader Go.Proofs.Ytngieimjlkpkaaa.DecIncl

/-- The document's reader at block g: the bytes that are left, and whether they ended too early. -/
def RB (w : World) (g B : Nat) (p : Text) (s : Bool) : Prop := B ≤ g ∧ ∃ A c, Blk w g 103 #[.slice A p.length c, .bool s] ∧ Reads w 1 A p.length (cells8 p) ∧ (A = none → p.length = 0 ∧ c = 0) ∧ (0 < p.length → ∀ a, A = some a → a.block < B) ∧ p.length ≤ c
theorem RB.lt {w : World} {g B : Nat} {p : Text} {s : Bool} (h : RB w g B p s) : g < w.heap.size := by obtain ⟨_, _, _, hb, _⟩ := h; exact hb.lt
theorem RB.below {w w' : World} {g B : Nat} {p : Text} {s : Bool} (h : RB w g B p s) (hb : Below w.heap.size w w') : RB w' g B p s := by
  obtain ⟨h0, A, c, h1, h2, h3, h4, h5⟩ := h
  exact ⟨h0, A, c, (hb.block _ h1.lt).trans h1, h2.below hb, h3, h4, h5⟩
theorem RB.drewN {w : World} {g B : Nat} {p : Text} {s : Bool} (h : RB w g B p s) (m : Nat) : RB (w.drewN m) g B p s := h
theorem RB.kept {S : Nat → Prop} {w w' : World} {g B : Nat} {p : Text} {s : Bool} (h : RB w g B p s) (hk : Kept S w w') (hg : ¬ S g) (hS : ∀ a, a < B → ¬ S a) : RB w' g B p s := by
  obtain ⟨h0, A, c, h1, h2, h3, h4, h5⟩ := h
  exact ⟨h0, A, c, h1.kept hk hg, h2.kept0 hk (fun hp b o e => hS b (h4 (by omega) _ e)), h3, h4, h5⟩
/-- What a call of next leaves. -/
def NextOut (w : World) (g B : Nat) (p : Text) (s : Bool) (n : Nat) (A' : Option Addr) (c' : Nat) (r : Text) (w' : World) : Prop :=
  Reads w' 1 A' r.length (cells8 r) ∧ (A' = none → r.length = 0 ∧ c' = 0) ∧ r.length ≤ c' ∧ (0 < r.length → ∀ a, A' = some a → a.block ≠ g ∧ a.block < w.heap.size) ∧ (n ≤ p.length → r = p.take n ∧ RB w' g B (p.drop n) s) ∧ (p.length < n → r = [] ∧ RB w' g B p true) ∧ Kept (· = g) w w' ∧ w'.heap.size = w.heap.size

set_option maxRecDepth 100000 in
set_option maxHeartbeats 1000000 in
theorem next_any (p : Text) (hp : p.length < 140737488355328) (g B n : Nat) (hn : n < 140737488355328) (s : Bool) (w : World) (h : RB w g B p s) :
    Calls Try.prog 62 #[.pointer (some ⟨g, 0, none⟩), .int .i64 (n : Int)] w fun e w' => ∃ A' c' r, e = .returned (.slice A' r.length c') ∧ NextOut w g B p s n A' c' r w' := by
  obtain ⟨hBg, A, c, hb, hr, hnil, hA0, hc⟩ := h
  have hA : 0 < p.length → ∀ a, A = some a → a.block ≠ g := fun h0 a e => by have := hA0 h0 a e; omega
  have hBg' := Lib.hid hBg
  have hAB := Lib.hid hA0
  have g0 : w.cell? ⟨g, 0, none⟩ = some (.slice A p.length c) := by rw [hb.cell 0]; rfl
  have g1 : w.cell? ⟨g, 1, none⟩ = some (.bool s) := by rw [hb.cell 1]; rfl
  have gf := hb.frozen 0
  have gf1 := hb.frozen 1
  have y1 : decide ((n : Int) < 0) = false := decide_eq_false (by omega)
  have hbl : Hid (∀ b o, 0 < p.length → A = some ⟨b, o, none⟩ → b < w.heap.size) := fun b o h0 e => by
    obtain ⟨b', o', e', hlt, -⟩ := hr.2 (by omega)
    rw [e] at e'
    injection e' with e'
    injection e' with e1 e2
    omega
  by_cases hle : n ≤ p.length
  · have y2 : ¬ (p.length < n) := by omega
    have y3 : decide (p.length < n) = false := decide_eq_false y2
    have X : ∀ w', (Instr.sliceAt 23 (.slice A p.length c) none (some (.int .i64 (n : Int))) none).run Try.prog w' = .ok (.slice A n c) w' := run_headOf (m := n) Try.underlying23 (fun _ => rfl) (by omega) _ rfl
    have Y : ∀ w', (Instr.sliceAt 23 (.slice A p.length c) (some (.int .i64 (n : Int))) none none).run Try.prog w' = .ok (.slice (cutA A n c) (p.length - n) (c - n)) w' := run_cut (m := n) Try.underlying23 (fun _ => rfl) hle
    have hn1 : Hid (n ≤ p.length) := hle
    have hbh := Lib.hid hb
    have hrh := Lib.hid hr
    have hnn := Lib.hid hnil
    have hAA := Lib.hid hA
    have hcc := Lib.hid hc
    clear hb hr hnil hA hA0 hBg hc hle hn hp
    go_enter Try.func62, Try.ntmps62
    go_wp2_with fail
    go_ret
    have hl : (p.take n).length = n := by rw [List.length_take]; have := hn1.out; omega
    have hk : Kept (· = g) w (w.setCell ⟨g, 0, none⟩ (.slice (cutA A n c) (p.length - n) (c - n))) := (Kept.refl (· = g) w).setCell (.inl rfl) _
    refine ⟨A, c, p.take n, by rw [hl]; rfl, ?_, fun e => ?_, by rw [hl]; have := hcc.out; have := hn1.out; omega, fun h0 a e => ?_, fun _ => ⟨rfl, hBg'.out, cutA A n c, c - n, ?_, ?_, fun e => ?_, fun h0 a e => ?_, ?_⟩, fun h => absurd h (by have := hn1.out; omega), hk, by simp⟩
    · have h1 := Reads.front hrh.out n hn1.out
      rw [hl]
      exact h1.kept0 hk (fun h0 b o e hS => hAA.out (by have := hn1.out; omega) _ e hS)
    · rw [hl]
      have := hnn.out e
      have := hn1.out
      omega
    · rw [hl] at h0
      have hpos : 0 < p.length := by have := hn1.out; omega
      obtain ⟨b', o', e', hlt, -⟩ := hrh.out.2 (by omega)
      rw [e] at e'
      obtain rfl := Option.some.inj e'
      exact ⟨hAA.out hpos _ e, hlt⟩
    · rw [List.length_drop]
      have := hbh.out.set_ 0 (.slice (cutA A n c) (p.length - n) (c - n))
      simpa using this
    · rw [List.length_drop]
      have h1 := Reads.cut hrh.out n hn1.out hcc.out
      have e : (cells8 p).drop n = cells8 (p.drop n) := by simp [cells8]
      rw [e] at h1
      refine h1.kept0 hk (fun h0 b o e hS => ?_)
      unfold cutA at e
      split at e
      · have := hcc.out; omega
      · cases A with
        | none => cases e
        | some a =>
          obtain ⟨b1, o1⟩ := a
          simp only [Option.map_some, Option.some.injEq] at e
          have hpos : 0 < p.length := by omega
          obtain ⟨b', o', e', hlt, -⟩ := hrh.out.2 (by omega)
          injection e' with e'
          rw [e', add_at] at e
          injection e with e1 e2
          have := hAA.out hpos _ rfl
          rw [e'] at this
          exact this (by show b' = g; rw [e1]; exact hS)
    · have h1 : A = none := by
        unfold cutA at e
        split at e
        · exact e
        · cases A with
          | none => rfl
          | some a => cases e
      have := hnn.out h1
      rw [List.length_drop]
      omega
    · rw [List.length_drop] at h0
      unfold cutA at e
      split at e
      · have := hcc.out; omega
      · cases A with
        | none => cases e
        | some a1 =>
          simp only [Option.map_some, Option.some.injEq] at e
          have hpos : 0 < p.length := by omega
          obtain ⟨b', o', e', hlt, -⟩ := hrh.out.2 (by omega)
          injection e' with e'
          have h2 := hAB.out hpos _ rfl
          rw [e'] at h2 e
          rw [add_at] at e
          rw [← e]
          exact h2
    · rw [List.length_drop]
      have := hcc.out
      omega
  · have y2 : p.length < n := by omega
    have y3 : decide (p.length < n) = true := decide_eq_true y2
    have hn1 : Hid (p.length < n) := y2
    have hbh := Lib.hid hb
    have hrh := Lib.hid hr
    have hnn := Lib.hid hnil
    have hAA := Lib.hid hA
    have hcc := Lib.hid hc
    clear hb hr hnil hA hA0 hBg hc hle hn hp
    go_enter Try.func62, Try.ntmps62
    go_wp2_with fail
    go_ret
    have hk : Kept (· = g) w (w.setCell ⟨g, 1, none⟩ (.bool true)) := (Kept.refl (· = g) w).setCell (.inl rfl) _
    exact ⟨none, 0, [], rfl, Reads.nil_ _ _ _, fun _ => ⟨rfl, rfl⟩, Nat.le_refl _, fun h => absurd h (by simp), fun h => absurd h (by have := hn1.out; omega), fun _ => ⟨rfl, hBg'.out, A, c, by have := hbh.out.set_ 1 (.bool true); simpa using this, hrh.out.kept0 hk (fun h0 b o e hS => hAA.out (by omega) _ e hS), hnn.out, hAB.out, hcc.out⟩, hk, by simp⟩

theorem wrap_step (X Y x : Int) (h : Y = wrap64 (wrap64 X * 256)) : wrap64 (Y + x) = wrap64 (X * 256 + x) := by
  subst h
  unfold wrap64
  omega
theorem num_take (r : Text) (i : Nat) (h : i < r.length) : (num (r.take (i + 1)) : Int) = (num (r.take i) : Int) * 256 + b8 (r.getD i 0) := by
  have e : r[i]? = some (r.getD i 0) := by simp [List.getD, h]
  rw [List.take_add_one, e]
  show (num (r.take i ++ [r.getD i 0]) : Int) = _
  rw [num_snoc]
  unfold b8
  simp
theorem lg_nil : lgInt (num []) = 0 := lgInt_le (N := num []) (by decide)
/-- What a call of number leaves. -/
def NumOut (w : World) (g B : Nat) (p : Text) (s : Bool) (n : Nat) (x : Int) (w' : World) : Prop :=
  (n ≤ p.length → x = lgInt (num (p.take n)) ∧ RB w' g B (p.drop n) s) ∧ (p.length < n → x = 0 ∧ RB w' g B p true) ∧ Kept (· = g) w w' ∧ w'.heap.size = w.heap.size

set_option maxRecDepth 100000 in
set_option maxHeartbeats 1000000 in
theorem number_any (p : Text) (hp : p.length < 140737488355328) (g B n : Nat) (hn : n < 140737488355328) (s : Bool) (w : World) (h : RB w g B p s) :
    Calls Try.prog 63 #[.pointer (some ⟨g, 0, none⟩), .int .i64 (n : Int)] w fun e w' => ∃ x, e = .returned (.int .i64 x) ∧ NumOut w g B p s n x w' := by
  have hT := Lib.hid (next_any p hp g B n hn s w h)
  replace hp := Lib.hid hp
  clear h hn
  go_enter Try.func63, Try.ntmps63
  go_wp2_with fail
  refine hT.out.mono ?_
  rintro e w1 ⟨A', c', r, rfl, hO⟩
  obtain ⟨h1, h2, h3, h4, h5, h6, h7, h8⟩ := hO
  have hrl : Hid (r.length < 140737488355328) := by
    show _ < _
    by_cases hle : n ≤ p.length
    · rw [(h5 hle).1, List.length_take]; have := hp.out; omega
    · rw [(h6 (by omega)).1]; simp
  have hfin : Hid (NumOut w g B p s n (lgInt (num r)) w1) := ⟨fun h => ⟨by rw [(h5 h).1], (h5 h).2⟩, fun h => ⟨by rw [(h6 h).1]; exact lg_nil, (h6 h).2⟩, h7, h8⟩
  have hr := Lib.hid h1
  clear h1 h2 h3 h4 h5 h6 h7 h8 hT hp
  obtain ⟨k, hk⟩ : ∃ k, Hid (r.length = k) := ⟨_, Lib.hid rfl⟩
  rw [hk.out] at hrl ⊢
  have hk47 : (k : Int) < 140737488355328 := by have := hrl.out; omega
  go_wp2_with fail
  go_loop [5, 7] (fun x v => ∃ i : Nat, v = .int .i64 (i : Int) ∧ i ≤ k ∧ x = .int .i64 (lgInt (num (r.take i)))) (fun _ v => k - (intOf v).toNat)
  case atStart => exact ⟨0, rfl, Nat.zero_le _, by rw [List.take_zero, lg_nil]⟩
  case round =>
    obtain ⟨i, rfl, hi, rfl⟩ := hrel
    have hi0 : (0 : Int) ≤ (i : Int) := by omega
    by_cases hlt : i < k
    · have hz : (i : Int) < (k : Int) := by omega
      obtain ⟨b, o, rfl, _, hc⟩ := hr.out.2 (by rw [hk.out]; omega)
      have hci := cells8_at r i (by rw [hk.out]; exact hlt)
      unfold cell8 at hci
      have hnt := Lib.hid (num_take r i (by rw [hk.out]; exact hlt))
      generalize r.getD i 0 = y at *
      have c1 : w1.cell? ⟨b, o + i, none⟩ = some (.int .u8 (b8 y)) := hc i _ hci
      obtain ⟨Y, hY⟩ : ∃ Y, Hid (wrap64 (lgInt (num (r.take i)) * 256) = Y) := ⟨_, Lib.hid rfl⟩
      have hst : Hid (wrap64 (Y + b8 y) = lgInt (num (r.take (i + 1)))) := by
        show _ = _
        unfold lgInt
        rw [hnt.out]
        exact wrap_step _ _ _ hY.out.symm
      obtain ⟨Z, hZ⟩ : ∃ Z, Hid (lgInt (num (r.take (i + 1))) = Z) := ⟨_, Lib.hid rfl⟩
      rw [hZ.out] at hst
      have hil : Hid (i < k) := hlt
      obtain ⟨V, hV⟩ : ∃ V, Hid (lgInt (num (r.take i)) = V) := ⟨_, Lib.hid rfl⟩
      rw [hV.out] at hY ⊢
      have y1 : wrap64 (V * 2 ^ 8) = Y := by rw [show (2 : Int) ^ 8 = 256 by decide]; exact hY.out
      have y2 : wrap64 (V * 256) = Y := hY.out
      have y3 : wrap64 (Y + b8 y) = Z := hst.out
      have hy0 : 0 ≤ b8 y ∧ b8 y ≤ 255 := by unfold b8; have := y.isLt; omega
      obtain ⟨hy1, hy2⟩ := hy0
      clear hlt hc hci hnt
      go_wp2_with fail
      go_round
      case rel => exact ⟨i + 1, by go_num, hil.out, by rw [hZ.out, hst.out]⟩
      case measure => (have := hil.out; simp [intOf]; omega)
    · obtain rfl : i = k := by omega
      have hz : ¬ ((i : Int) < (i : Int)) := by omega
      have hT : Hid (num (r.take i) = num r) := by show _ = _; rw [List.take_of_length_le (by rw [hk.out]; exact Nat.le_refl _)]
      rw [hT.out]
      clear hlt
      go_wp2_with fail
      go_ret
      exact ⟨_, rfl, hfin.out⟩

set_option maxRecDepth 100000 in
set_option maxHeartbeats 1000000 in
theorem digest17_any (p : Text) (hp : p.length < 140737488355328) (g B : Nat) (s : Bool) (w : World) (h : RB w g B p s) :
    Calls Try.prog 74 #[.pointer (some ⟨g, 0, none⟩)] w fun e w' => ∃ d : Text, e = .returned (.agg (cells8 d).toArray) ∧ d.length = 32 ∧ (32 ≤ p.length → d = p.take 32 ∧ RB w' g B (p.drop 32) s) ∧ (p.length < 32 → RB w' g B p true) ∧ Kept (· = g) w w' := by
  obtain ⟨w0, hw0⟩ : ∃ w0, Hid (w0 = (w.alloc (.cells Z32 28)).alloc (.cells Z32 28)) := ⟨_, rfl⟩
  have hD : Hid (Blk w0 w.heap.size 28 Z32) := by show Blk _ _ _ _; rw [hw0.out]; exact (Blk.new w _ _).alloc _
  have hE : Hid (Blk w0 (w.heap.size + 1) 28 Z32) := by
    have := Blk.new (w.alloc (.cells Z32 28)) 28 Z32
    have e : (w.alloc (.cells Z32 28)).heap.size = w.heap.size + 1 := by simp
    rw [e] at this
    show Blk _ _ _ _; rw [hw0.out]
    exact this
  have hR : Hid (RB w0 g B p s) := by show RB _ _ _ _ _; rw [hw0.out]; exact (h.below (Below.heap_below _ _)).below (Below.heap_below _ _)
  have hlt := Lib.hid h.lt
  have hBg : Hid (B ≤ g) := h.1
  have hK0 : Hid (Kept (· = g) w w0) := by show Kept _ _ _; rw [hw0.out]; exact ((Kept.refl _ w).alloc _).alloc _
  replace hp := Lib.hid hp
  clear h
  go_enter Try.func74, Try.ntmps74
  go_wp2_with fail
  have hsz : Hid (w0.heap.size = w.heap.size + 2) := by show _ = _; rw [hw0.out]; simp
  have hww : (w.alloc (.cells Z32 28)).alloc (.cells Z32 28) = w0 := hw0.out.symm
  unfold Z32 at hww
  rw [hww]
  clear hww hw0
  have hnx : Hid (∀ w', RB w' g B p s → Calls Try.prog 62 #[.pointer (some ⟨g, 0, none⟩), .int .i64 32] w' fun e w'' => ∃ A' c' r, e = .returned (.slice A' r.length c') ∧ NextOut w' g B p s 32 A' c' r w'') := fun w' h => next_any p hp.out g B 32 (by omega) s w' h
  have hid2 : Hid (g ≠ w.heap.size + 1) := by have := hlt.out; show _ ≠ _; omega
  have hid1 : Hid (g ≠ w.heap.size) := by have := hlt.out; show _ ≠ _; omega
  go_region_law (first
    | (go_simp; go_at_call 62; go_loud (refine (hnx.out w0.drew (hR.out.drewN 1)).mono ?_; rintro e w3 ⟨Ap, cp, r, rfl, o1, o2, o3, o4, o5, o6, hk3, o8⟩; have hr32 : Hid (r.length ≤ 32) := (by show _ ≤ _; by_cases hle : 32 ≤ p.length; (rw [(o5 hle).1, List.length_take]; omega); (rw [(o6 (by omega)).1]; simp)); have hcl : Hid ((cells8 r).length = Nat.min r.length 32) := (by show _ = min _ _; rw [cells8_len]; have := hr32.out; omega); have hfit : Hid (0 + (cells8 r).length ≤ Z32.size) := (by show _ ≤ _; rw [cells8_len]; simp [Z32]; exact hr32.out); have hpos : Hid (0 < (cells8 r).length → some (⟨w.heap.size + 1, 0, none⟩ : Addr) = some ⟨w.heap.size + 1, 0, none⟩ ∧ ∃ ad, Ap = some ad ∧ ∀ j v, (cells8 r)[j]? = some v → w3.cell? (ad.add j) = some v) := (fun h0 => ⟨rfl, by obtain ⟨b, o, e, _, hc⟩ := o1.2 (by rw [cells8_len] at h0; omega); exact ⟨_, e, fun j v hv => by rw [add_at]; exact hc j v hv⟩⟩); have hE3 := Lib.hid ((Blk.drewN hE.out 1).kept hk3 (fun e => hid2.out e.symm)); have hD3 := Lib.hid ((Blk.drewN hD.out 1).kept hk3 (fun e => hid1.out e.symm)); have hK3 := Lib.hid ((hK0.out.drewN 1).trans hk3 (fun _ _ h => h)); replace o5 := Lib.hid o5; replace o6 := Lib.hid o6; clear o1 o2 o3 o4 o8 hk3))
    | (refine step_copy_into (P := Try.prog) (w := w3) (o := ⟨some 7, _, _, _, _, _⟩) rfl (.tmp 4) (.tmp 6) 23 23 rfl 5 Try.underlying23 size8 (some ⟨w.heap.size + 1, 0, none⟩) Ap 32 32 r.length cp ?hd ?hs (w.heap.size + 1) 0 Z32 28 hE3.out (cells8 r) hcl.out hpos.out hfit.out (cells8_one r) w3 (Kept.refl _ w3) r.length (cells8_len r) ?_; (case hd => go_simp); (case hs => go_simp); intro w5 hb5 hk5; replace hb5 := hb5.out; rw [Reader3.digP_cells r hr32.out] at hb5; have hD5 := Lib.hid (hD3.out.kept hk5 (by omega)); replace hb5 := Lib.hid hb5; replace hk5 := Lib.hid hk5))
  have F := Lib.hid (fit (x := Reader3.digP r) (Reader3.digP_len r hr32.out))
  have hKK : Hid (Kept (· = g) w w5) := by
    show Kept _ _ _
    exact hK3.out.trans hk5.out (fun i h1 h2 => by omega)
  go_wp2_with (first
    | ((with_reducible change wpList _ _ _ ({ dst := some 8, op := _, type := _, pos := _, after := _, guard := _ } :: _) _ _); refine wpList_load_row (o := ⟨some 8, _, _, _, _, _⟩) rfl 28 (.tmp 3) rfl (w.heap.size + 1) rfl 28 (cells8 (Reader3.digP r)).toArray (0, 0) _ hb5.out Try.underlying28 rfl F.out.size ?_)
    | ((with_reducible change wpList _ _ _ ({ dst := none, op := Op.store 28 _ _, type := _, pos := _, after := _, guard := _ } :: _) _ _); refine wpList_store_row (o := ⟨none, _, _, _, _, _⟩) rfl 28 (.tmp 2) (.tmp 8) rfl w.heap.size (cells8 (Reader3.digP r)).toArray rfl rfl 28 Z32 hD5.out F.out.size F.out.zero F.out.one ?_))
  refine bodyPost_ret (results_cell_row rfl _ _ w.heap.size 28 (cells8 (Reader3.digP r)).toArray (0, 0) _ rfl (setRow_heap _ _ _ _ _ _ hD5.out) Try.underlying28 rfl F.out.size) rfl ?_
  have hS : Kept (· = w.heap.size) w5 (w5.setRow w.heap.size (cells8 (Reader3.digP r)).toArray) := Bytes.Kept.setRow (S := (· = w.heap.size)) (Kept.refl _ w5) rfl _
  have hlast : ∀ p' s', RB w3 g B p' s' → RB (w5.setRow w.heap.size (cells8 (Reader3.digP r)).toArray) g B p' s' := fun p' s' h => (h.kept hk5.out hid2.out (fun a ha e => by have := hlt.out; have := hBg.out; omega)).kept hS hid1.out (fun a ha e => by have := hlt.out; have := hBg.out; omega)
  refine ⟨Reader3.digP r, rfl, Reader3.digP_len r hr32.out, fun h => ?_, fun h => hlast _ _ (o6.out h).2, hKK.out.trans hS (fun i h1 h2 => by omega)⟩
  obtain ⟨e, hR3⟩ := o5.out h
  refine ⟨?_, hlast _ _ hR3⟩
  rw [e]
  have := Reader3.digP_take p 0 (by omega)
  simpa using this
end Go.Proofs.Ytngieimjlkpkaaa.Bytes17
