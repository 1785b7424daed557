/-
  octet's Reader, walked: Take, Why, Left, Done, Raw, Digest.
-/
import Derived.Test.YtngieimjlkpkaaaReader
namespace Go.Proofs.Ytngieimjlkpkaaa.Reader2
open Go Go.RowKit Go.Proofs.Ytngieimjlkpkaaa Go.Proofs.Ytngieimjlkpkaaa.Mem Go.Proofs.Ytngieimjlkpkaaa.Sha Go.Proofs.Ytngieimjlkpkaaa.Bytes Go.Proofs.Ytngieimjlkpkaaa.Append Go.Proofs.Ytngieimjlkpkaaa.Octet Go.Proofs.Ytngieimjlkpkaaa.QuietTail Go.Proofs.Ytngieimjlkpkaaa.Grown Go.Proofs.Ytngieimjlkpkaaa.Reader

section
variable {w : World} {g c at_ : Nat} {q : Text} {A : Option Addr}
theorem Rd.reads_set (hr : Reads w 1 A q.length (cells8 q)) (hA : 0 < q.length → ∀ a, A = some a → a.block ≠ g) (i : Nat) (u : Value) : Reads (w.setCell ⟨g, i, none⟩ u) 1 A q.length (cells8 q) :=
  hr.kept0 ((Kept.refl (· = g) w).setCell (.inl rfl) u) (fun hp b o e h => hA (by omega) _ e h)
theorem Rd.adv {k : Nat} (hb : Blk w g 108 #[.slice A q.length c, .int .i64 (at_ : Int), .int .i64 0]) (hr : Reads w 1 A q.length (cells8 q)) (hnil : A = none → q.length = 0 ∧ c = 0) (hA : 0 < q.length → ∀ a, A = some a → a.block ≠ g) (hc : q.length ≤ c) (h8 : at_ + k ≤ q.length) :
    Rd (w.setCell ⟨g, 1, none⟩ (.int .i64 ((at_ : Int) + (k : Int)))) g q A c (at_ + k) ∧ Kept (· = g) w (w.setCell ⟨g, 1, none⟩ (.int .i64 ((at_ : Int) + (k : Int)))) :=
  ⟨⟨at_ + k, 0, by have := hb.set_ 1 (.int .i64 ((at_ : Int) + (k : Int))); simpa using this, Rd.reads_set hr hA _ _, hnil, hA, hc, h8, fun _ => ⟨rfl, rfl⟩, fun h => absurd h (by omega)⟩, (Kept.refl (· = g) w).setCell (p := ⟨g, 1, none⟩) (.inl rfl) _⟩
theorem Rd.fail {need : Nat} (hb : Blk w g 108 #[.slice A q.length c, .int .i64 (at_ : Int), .int .i64 0]) (hr : Reads w 1 A q.length (cells8 q)) (hnil : A = none → q.length = 0 ∧ c = 0) (hA : 0 < q.length → ∀ a, A = some a → a.block ≠ g) (hc : q.length ≤ c) (hat : at_ ≤ q.length) (hn : q.length < need) :
    Rd (w.setCell ⟨g, 2, none⟩ (.int .i64 8)) g q A c need ∧ Kept (· = g) w (w.setCell ⟨g, 2, none⟩ (.int .i64 8)) :=
  ⟨⟨at_, 8, by have := hb.set_ 2 (.int .i64 8); simpa using this, Rd.reads_set hr hA _ _, hnil, hA, hc, hat, fun h => absurd h (by omega), fun _ => rfl⟩, (Kept.refl (· = g) w).setCell (p := ⟨g, 2, none⟩) (.inl rfl) _⟩
theorem Rd.stay {need : Nat} (hb : Blk w g 108 #[.slice A q.length c, .int .i64 (at_ : Int), .int .i64 8]) (hr : Reads w 1 A q.length (cells8 q)) (hnil : A = none → q.length = 0 ∧ c = 0) (hA : 0 < q.length → ∀ a, A = some a → a.block ≠ g) (hc : q.length ≤ c) (hat : at_ ≤ q.length) (hn : q.length < need) : Rd w g q A c need :=
  ⟨at_, 8, hb, hr, hnil, hA, hc, hat, fun h => absurd h (by omega), fun _ => rfl⟩
end
/-- What a reader refuses, when so much was asked for; and whether bytes are left. -/
def whyOf (need len : Nat) : Int := if need ≤ len then 0 else 8
def doneOf (need len : Nat) : Int := if need = len then 0 else 8
theorem num_lt8 (l : Text) (h : l.length ≤ 8) : num l < 18446744073709551616 := Nat.lt_of_lt_of_le (num_lt _ l rfl) (Nat.le_trans (Nat.pow_le_pow_right (by decide) h) (by decide))

set_option maxRecDepth 100000 in
theorem refuse_first (g : Nat) (s : Value) (at_ : Int) (w : World) (hb : Blk w g 108 #[s, .int .i64 at_, .int .i64 0]) :
    Calls Try.prog 73 #[.pointer (some ⟨g, 0, none⟩), .int .i64 8] w fun e w' => e = .returned (.tuple #[]) ∧ w.setCell ⟨g, 2, none⟩ (.int .i64 8) = w' := by
  have g2 : w.cell? ⟨g, 2, none⟩ = some (.int .i64 0) := by rw [hb.cell 2]; rfl
  have gf := hb.frozen 2
  clear hb
  go_enter Try.func73, Try.ntmps73
  go_wp2_with fail
  go_end0
  exact ⟨rfl, rfl⟩

set_option maxRecDepth 100000 in
set_option maxHeartbeats 1000000 in
theorem take8_any (q : Text) (hq : q.length < 140737488355328) (g need : Nat) (A : Option Addr) (c : Nat) (w : World) (h : Rd w g q A c need) :
    Calls Try.prog 71 #[.pointer (some ⟨g, 0, none⟩)] w fun e w' => ∃ N : Nat, e = .returned (.int .u64 (N : Int)) ∧ N < 18446744073709551616 ∧ (need + 8 ≤ q.length → N = num ((q.drop need).take 8)) ∧ Rd w' g q A c (need + 8) ∧ Kept (· = g) w w' := by
  obtain ⟨at_, why, hb, hr, hnil, hA, hc, hat, hyes, hno⟩ := h
  have g1 : w.cell? ⟨g, 1, none⟩ = some (.int .i64 (at_ : Int)) := by rw [hb.cell 1]; rfl
  have g2 : w.cell? ⟨g, 2, none⟩ = some (.int .i64 why) := by rw [hb.cell 2]; rfl
  have gf := hb.frozen 1
  by_cases hn : need ≤ q.length
  · obtain ⟨rfl, rfl⟩ := hyes hn
    by_cases h8 : at_ + 8 ≤ q.length
    · have H := Lib.hid (ahead8_yes q at_ h8 hq A c g 0 w hb hr hc)
      have hF := Lib.hid (Rd.adv hb hr hnil hA hc h8)
      clear hb hyes hno
      go_enter Try.func71, Try.ntmps71
      go_wp2_with (go_at_call 77; refine Calls.mono H.out ?_; rintro e w' ⟨rfl, rfl⟩)
      go_ret
      exact ⟨_, rfl, num_lt8 _ (by rw [List.length_take, List.length_drop]; omega), fun _ => rfl, hF.out.1, hF.out.2⟩
    · have H := Lib.hid (ahead8_no q at_ hn (by omega) hq A c g 0 w hb)
      have R := Lib.hid (refuse_first g _ _ w hb)
      have hF := Lib.hid (Rd.fail hb hr hnil hA hc hn (show q.length < at_ + 8 by omega))
      clear hb hyes hno
      go_enter Try.func71, Try.ntmps71
      go_wp2_with (first | (go_at_call 77; refine Calls.mono H.out ?_; rintro e w' ⟨rfl, rfl⟩) | (go_at_call 73; refine Calls.mono R.out ?_; rintro e w' ⟨rfl, rfl⟩))
      go_ret
      exact ⟨0, rfl, by decide, fun h => absurd h (by omega), hF.out.1, hF.out.2⟩
  · obtain rfl := hno (by omega)
    have hF := Lib.hid (Rd.stay hb hr hnil hA hc hat (show q.length < need + 8 by omega))
    clear hb hyes hno
    go_enter Try.func71, Try.ntmps71
    go_wp2_with fail
    go_ret
    exact ⟨0, rfl, by decide, fun h => absurd h (by omega), hF.out, Kept.refl _ w⟩

set_option maxRecDepth 100000 in
set_option maxHeartbeats 1000000 in
theorem take1_any (q : Text) (hq : q.length < 140737488355328) (g need : Nat) (A : Option Addr) (c : Nat) (w : World) (h : Rd w g q A c need) :
    Calls Try.prog 69 #[.pointer (some ⟨g, 0, none⟩)] w fun e w' => ∃ y : BitVec 8, e = .returned (.int .u8 (b8 y)) ∧ (need + 1 ≤ q.length → y = q.getD need 0) ∧ Rd w' g q A c (need + 1) ∧ Kept (· = g) w w' := by
  obtain ⟨at_, why, hb, hr, hnil, hA, hc, hat, hyes, hno⟩ := h
  have g1 : w.cell? ⟨g, 1, none⟩ = some (.int .i64 (at_ : Int)) := by rw [hb.cell 1]; rfl
  have g2 : w.cell? ⟨g, 2, none⟩ = some (.int .i64 why) := by rw [hb.cell 2]; rfl
  have gf := hb.frozen 1
  by_cases hn : need ≤ q.length
  · obtain ⟨rfl, rfl⟩ := hyes hn
    by_cases h8 : at_ + 1 ≤ q.length
    · have H := Lib.hid (ahead1_yes q at_ h8 hq A c g 0 w hb hr hc)
      have hF := Lib.hid (Rd.adv hb hr hnil hA hc h8)
      clear hb hyes hno
      go_enter Try.func69, Try.ntmps69
      go_wp2_with (go_at_call 75; refine Calls.mono H.out ?_; rintro e w' ⟨rfl, rfl⟩)
      go_ret
      exact ⟨_, rfl, fun _ => rfl, hF.out.1, hF.out.2⟩
    · have H := Lib.hid (ahead1_no q at_ hn (by omega) hq A c g 0 w hb)
      have R := Lib.hid (refuse_first g _ _ w hb)
      have hF := Lib.hid (Rd.fail hb hr hnil hA hc hn (show q.length < at_ + 1 by omega))
      clear hb hyes hno
      go_enter Try.func69, Try.ntmps69
      go_wp2_with (first | (go_at_call 75; refine Calls.mono H.out ?_; rintro e w' ⟨rfl, rfl⟩) | (go_at_call 73; refine Calls.mono R.out ?_; rintro e w' ⟨rfl, rfl⟩))
      go_ret
      exact ⟨0, rfl, fun h => absurd h (by omega), hF.out.1, hF.out.2⟩
  · obtain rfl := hno (by omega)
    have hF := Lib.hid (Rd.stay hb hr hnil hA hc hat (show q.length < need + 1 by omega))
    clear hb hyes hno
    go_enter Try.func69, Try.ntmps69
    go_wp2_with fail
    go_ret
    exact ⟨0, rfl, fun h => absurd h (by omega), hF.out, Kept.refl _ w⟩

set_option maxRecDepth 100000 in
theorem why_any (q : Text) (g need : Nat) (A : Option Addr) (c : Nat) (w : World) (h : Rd w g q A c need) :
    Calls Try.prog 60 #[.pointer (some ⟨g, 0, none⟩)] w fun e w' => e = .returned (.int .i64 (whyOf need q.length)) ∧ w = w' := by
  obtain ⟨at_, why, hb, hr, hnil, hA, hc, hat, hyes, hno⟩ := h
  have g2 : w.cell? ⟨g, 2, none⟩ = some (.int .i64 why) := by rw [hb.cell 2]; rfl
  have hw : Hid (why = whyOf need q.length) := by
    show _ = _
    unfold whyOf
    by_cases hn : need ≤ q.length
    · rw [if_pos hn]; exact (hyes hn).2
    · rw [if_neg hn]; exact hno (by omega)
  clear hb hr hyes hno
  go_enter Try.func60, Try.ntmps60
  go_wp2_with fail
  go_ret
  exact ⟨by rw [← hw.out]; rfl, rfl⟩

set_option maxRecDepth 100000 in
theorem left_any (q : Text) (hq : q.length < 140737488355328) (g : Nat) (A : Option Addr) (c at_ : Nat) (why : Int) (w : World) (hb : Blk w g 108 #[.slice A q.length c, .int .i64 (at_ : Int), .int .i64 why]) (hat : at_ ≤ q.length) :
    Calls Try.prog 72 #[.pointer (some ⟨g, 0, none⟩)] w fun e w' => e = .returned (.int .i64 ((q.length : Int) - (at_ : Int))) ∧ ∃ n, w' = w.drewN n := by
  have g0 : w.cell? ⟨g, 0, none⟩ = some (.slice A q.length c) := by rw [hb.cell 0]; rfl
  have g1 : w.cell? ⟨g, 1, none⟩ = some (.int .i64 (at_ : Int)) := by rw [hb.cell 1]; rfl
  have x1 : IntKind.i64.wrap ((q.length : Int) - (at_ : Int)) = (q.length : Int) - (at_ : Int) := IntWalk.i64_in _ (by omega)
  generalize q.length = n at *
  clear hb hq hat
  go_enter Try.func72, Try.ntmps72
  go_wp2_with fail
  go_quiet (fail)
  go_wp2_with fail
  go_ret
  exact ⟨rfl, _, rfl⟩

set_option maxRecDepth 100000 in
theorem done_any (q : Text) (hq : q.length < 140737488355328) (g need : Nat) (A : Option Addr) (c : Nat) (w : World) (h : Rd w g q A c need) :
    Calls Try.prog 55 #[.pointer (some ⟨g, 0, none⟩)] w fun e w' => e = .returned (.int .i64 (doneOf need q.length)) ∧ ∃ n, w' = w.drewN n := by
  obtain ⟨at_, why, hb, hr, hnil, hA, hc, hat, hyes, hno⟩ := h
  have g2 : w.cell? ⟨g, 2, none⟩ = some (.int .i64 why) := by rw [hb.cell 2]; rfl
  by_cases hn : need ≤ q.length
  · obtain ⟨rfl, rfl⟩ := hyes hn
    have L := Lib.hid (left_any q hq g A c at_ 0 w hb hat)
    clear hb hr hyes hno
    by_cases he : at_ = q.length
    · have y1 : decide ((0 : Int) < (q.length : Int) - (at_ : Int)) = false := by simp; omega
      have y2 : decide ((at_ : Int) < (q.length : Int)) = false := by simp; omega
      have y3 : decide (at_ < q.length) = false := by simp; omega
      have hk : Hid (doneOf at_ q.length = 0) := if_pos he
      clear he hat hn
      go_enter Try.func55, Try.ntmps55
      go_wp2_with (go_at_call 72; refine Calls.mono L.out ?_; rintro e w' ⟨rfl, n, rfl⟩)
      go_ret
      exact ⟨by rw [hk.out]; rfl, n, rfl⟩
    · have y1 : decide ((0 : Int) < (q.length : Int) - (at_ : Int)) = true := by simp; omega
      have y2 : decide ((at_ : Int) < (q.length : Int)) = true := by simp; omega
      have y3 : decide (at_ < q.length) = true := by simp; omega
      have hk : Hid (doneOf at_ q.length = 8) := if_neg he
      clear he hat hn
      go_enter Try.func55, Try.ntmps55
      go_wp2_with (go_at_call 72; refine Calls.mono L.out ?_; rintro e w' ⟨rfl, n, rfl⟩)
      go_ret
      exact ⟨by rw [hk.out]; rfl, n, rfl⟩
  · obtain rfl := hno (by omega)
    have hk : Hid (doneOf need q.length = 8) := if_neg (by omega)
    clear hb hr hyes hno hn
    go_enter Try.func55, Try.ntmps55
    go_wp2_with fail
    go_ret
    exact ⟨by rw [hk.out]; rfl, 0, rfl⟩
end Go.Proofs.Ytngieimjlkpkaaa.Reader2
