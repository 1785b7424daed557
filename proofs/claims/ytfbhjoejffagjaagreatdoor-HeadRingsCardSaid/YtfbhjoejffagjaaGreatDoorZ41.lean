/-
  Texts of the claim, put into one file: Rising0.
-/
import Derived.Test.YtfbhjoejffagjaaGreatDoorZ32
import Derived.LoopN

namespace Go.Proofs.YtfbhjoejffagjaaGreatDoor.Rising0
open Go Go.RowKit Go.Proofs.YtfbhjoejffagjaaGreatDoor Go.Proofs.YtfbhjoejffagjaaGreatDoor.Mem Go.Proofs.YtfbhjoejffagjaaGreatDoor.Sha Go.Proofs.YtfbhjoejffagjaaGreatDoor.Bytes Go.Proofs.YtfbhjoejffagjaaGreatDoor.SortP Go.Proofs.YtfbhjoejffagjaaGreatDoor.NoteP Go.Proofs.YtfbhjoejffagjaaGreatDoor.Rise Go.Proofs.YtfbhjoejffagjaaGreatDoor.SortM Go.Proofs.YtfbhjoejffagjaaGreatDoor.Append Go.Proofs.YtfbhjoejffagjaaGreatDoor.Own Go.Proofs.YtfbhjoejffagjaaGreatDoor.SgM Go.Proofs.YtfbhjoejffagjaaGreatDoor.Rising

set_option maxRecDepth 100000 in
set_option maxHeartbeats 1000000 in
theorem insertion0 (f : Value) (w : World) : Calls Tryz.prog 132 #[.slice none 0 0, .int .i64 0, .int .i64 0, f] w fun e w' => e = .returned (.tuple #[]) ∧ w' = w := by
  go_enter Tryz.func132, Tryz.ntmps132
  go_wp2_with fail
  refine wp_loop_rounds 1 ?_
  rw [rounds_succ]
  go_wp2_with fail
  go_end0
  exact ⟨rfl, rfl⟩
set_option maxRecDepth 100000 in
set_option maxHeartbeats 1000000 in
theorem pdq0 (f : Value) (l : Int) (w : World) : Calls Tryz.prog 125 #[.slice none 0 0, .int .i64 0, .int .i64 0, .int .i64 l, f] w fun e w' => e = .returned (.tuple #[]) ∧ w' = w := by
  have hI := Lib.hid (insertion0 f w)
  go_enter Tryz.func125, Tryz.ntmps125
  go_wp2_with fail
  refine wp_loop_rounds 1 ?_
  rw [rounds_succ]
  go_wp2_with (go_at_call 132; refine hI.out.mono ?_; rintro e w' ⟨rfl, rfl⟩)
  exact bodyPost_ret (results_none rfl _ _ _) rfl ⟨rfl, rfl⟩
theorem len0 (w : World) : Calls Tryz.prog 57 #[.int .u64 0] w fun e w' => (∃ l : Int, e = .returned (.int .i64 l)) ∧ w' = w := by
  have h := Any.bits_Len (SlLaysF0.n15.bits { Tryz.sortSigns with }) 0 w (by decide) (by decide)
  change Calls _ 57 _ _ _ at h
  exact h.mono fun e w' ⟨he, hw⟩ => ⟨⟨_, he⟩, hw⟩
set_option maxRecDepth 100000 in
set_option maxHeartbeats 1000000 in
theorem sort0 (f : Value) (w : World) : Calls Tryz.prog 101 #[.slice none 0 0, f] w fun e w' => e = .returned (.tuple #[]) ∧ w' = w := by
  have hL := Lib.hid (len0 w)
  have hP := Lib.hid (fun l => pdq0 f l w)
  go_enter Tryz.func101, Tryz.ntmps101
  go_wp2_with (first
    | (go_at_call 57; refine hL.out.mono ?_; rintro e w' ⟨⟨l, rfl⟩, rfl⟩)
    | (go_at_call 125; refine (hP.out l).mono ?_; rintro e w' ⟨rfl, rfl⟩))
  go_end0
  exact ⟨rfl, rfl⟩
set_option maxRecDepth 100000 in
set_option maxHeartbeats 1000000 in
theorem rising0 (A : Option Addr) (c : Nat) (w : World) (hnil : A = none → (0 : Nat) = 0 ∧ c = 0) :
    Calls Tryz.prog 60 #[.slice A 0 c] w fun e w' => e = .returned (.tuple #[.slice none 0 0, .bool true]) ∧ Below w.heap.size w w' := by
  obtain ⟨i0, ii, iz0, iz1, iz2⟩ := info_partsN info64
  have hn := Lib.hid hnil
  have hx0 : Hid (Reads w 64 A 0 (([] : List Text).flatMap cells8)) := Reads.nil_ _ _ _
  have hc1 : Hid (0 + 0 ≤ maxLen) := by show _ ≤ _; unfold maxLen; omega
  have hc2 : Hid ((0 + 0) * 64 ≤ 140737488355328) := by show _ ≤ _; omega
  clear hnil
  go_enter Tryz.func60, Tryz.ntmps60
  go_wp2_with (first
    | (at_builtin; refine wpList_append_src _ rfl (.const (.slice none 0 0)) (.tmp 5) 37 rfl w.heap.size 56 i0 (.agg Z64) 64 64 Tryz.underlying37 ii iz0 iz1 iz2 rfl (by decide) (.slice none 0 0) 0 [] rfl (World.ownsRow_nil _ _ _ _) A 0 c (([] : List Text).flatMap cells8) rfl hx0.out hn.out (one_signs []) hc1.out hc2.out (Nat.le_refl _) ?_; intro v1 w1 hG; obtain rfl := hG.nil_.2 ⟨rfl, rfl⟩; have hb1 : Hid (Below w.heap.size w w1) := hG.below (Below.refl _ _) (Nat.le_refl _) (fun k e => by cases e); clear hG)
    | (go_at_call 101; refine (sort0 _ w1).mono ?_; rintro e w2 ⟨rfl, hw2⟩; subst hw2)
    | (go_at_call 75; refine (rise_any [] 0 (by decide) none 0 _ (Sgs.nil_ _ _)).mono ?_; rintro e w3 ⟨rfl, hb3⟩; have hb4 : Hid (Below w.heap.size w w3) := hb1.out.trans (hb3.mono hb1.out.size)))
  go_ret2
  exact ⟨rfl, hb4.out⟩
theorem rising_all (ss : List Text) (n : Nat) (hn47 : n ≤ 2199023255552) (A : Option Addr) (c : Nat) (w : World) (h : Sgs w A n ss) (hnil : A = none → n = 0 ∧ c = 0) :
    Calls Tryz.prog 60 #[.slice A n c] w fun e w' => ∃ (A' : Option Addr) (c' : Nat) (ds : List Text), e = .returned (.tuple #[.slice A' n c', .bool (riseB (ky := kyS) ds)]) ∧ Hid (rising kyS ss = if riseB (ky := kyS) ds = true then some ds else none) ∧ Hid (OwnS w' w.heap.size (.slice A' n c') n ds) ∧ Hid (Below w.heap.size w w') := by
  by_cases h0 : n = 0
  · subst h0
    obtain rfl : ss = [] := List.eq_nil_of_length_eq_zero h.len
    exact (rising0 A c w hnil).mono fun e w' ⟨he, hb⟩ => ⟨none, 0, [], he, rfl, OwnS.nil _ _, hb⟩
  · exact (rising_any ss n (by omega) hn47 A c w h).mono fun e w' ⟨g, c', ds, he, h1, h2, h3⟩ => ⟨_, c', ds, he, h1, h2, h3⟩
end Go.Proofs.YtfbhjoejffagjaaGreatDoor.Rising0
