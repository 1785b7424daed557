/-
  Texts of the claim, put into one file: RefLess, Law16m, Law16.
-/
import Derived.Test.YtfbhjoejffagjaaGreatDoorZ0
import Derived.Test.YtfbhjoejffagjaaGreatDoorZ3
import Derived.Lib.Hide
import Derived.Outline
import Derived.WalkLawsBesides
import Derived.Deep.QuietTactic
import Derived.BigQuiet
import Derived.StillTailTactics
import Derived.OwnWalk
import Derived.IntWalk

namespace Go.Proofs.YtfbhjoejffagjaaGreatDoor.RefLess
open Go Go.RowKit Go.Proofs.YtfbhjoejffagjaaGreatDoor Go.Proofs.YtfbhjoejffagjaaGreatDoor.Mem Go.Proofs.YtfbhjoejffagjaaGreatDoor.Sha Go.Proofs.YtfbhjoejffagjaaGreatDoor.Bytes Go.Proofs.YtfbhjoejffagjaaGreatDoor.SortP

theorem b8_lt (x y : BitVec 8) : (b8 x < b8 y) ↔ x.toNat < y.toNat := by unfold b8; omega
theorem b8_inj {x y : BitVec 8} (h : b8 x = b8 y) : x = y := BitVec.eq_of_toNat_eq (by unfold b8 at h; omega)
set_option maxRecDepth 100000 in
set_option maxHeartbeats 1000000 in
theorem less_any (a b : Text) (ha : a.length = 32) (hb : b.length = 32) (W : World) :
    Calls Tryz.prog 77 #[.agg (cells8 a).toArray, .agg (cells8 b).toArray] W fun e w' => e = .returned (.bool (lex a b)) ∧ Below W.heap.size W w' := by
  have hB1 : Blk ((W.alloc (.cells (cells8 a).toArray 34)).alloc (.cells (cells8 b).toArray 34)) W.heap.size 34 (cells8 a).toArray := (Blk.new W _ _).alloc _
  have hB2 : Blk ((W.alloc (.cells (cells8 a).toArray 34)).alloc (.cells (cells8 b).toArray 34)) (W.heap.size + 1) 34 (cells8 b).toArray := by
    have := Blk.new (W.alloc (.cells (cells8 a).toArray 34)) 34 (cells8 b).toArray
    rwa [show (W.alloc (.cells (cells8 a).toArray 34)).heap.size = W.heap.size + 1 by simp] at this
  have hbw : Hid (Below W.heap.size W ((W.alloc (.cells (cells8 a).toArray 34)).alloc (.cells (cells8 b).toArray 34))) := ((Below.refl _ W).alloc (Nat.le_refl _) _).alloc (by simp) _
  have hC1 : Hid (∀ i, i < 32 → ((W.alloc (.cells (cells8 a).toArray 34)).alloc (.cells (cells8 b).toArray 34)).cell? ⟨W.heap.size, i, none⟩ = some (.int .u8 (b8 (a.getD i 0)))) := fun i hi => by
    rw [hB1.cell i, List.getElem?_toArray]; exact cells8_at a i (by omega)
  have hC2 : Hid (∀ i, i < 32 → ((W.alloc (.cells (cells8 a).toArray 34)).alloc (.cells (cells8 b).toArray 34)).cell? ⟨W.heap.size + 1, i, none⟩ = some (.int .u8 (b8 (b.getD i 0)))) := fun i hi => by
    rw [hB2.cell i, List.getElem?_toArray]; exact cells8_at b i (by omega)
  obtain ⟨ans, hans⟩ : ∃ x, Hid (lex a b = x) := ⟨_, Lib.hid rfl⟩
  rw [hans.out]
  replace ha := Lib.hid ha
  replace hb := Lib.hid hb
  clear hB1 hB2
  go_enter Tryz.func77, Tryz.ntmps77
  go_wp2_with fail
  obtain ⟨w1, hw1⟩ : ∃ w1, Hid ((W.alloc (.cells (cells8 a).toArray 34)).alloc (.cells (cells8 b).toArray 34) = w1) := ⟨_, Lib.hid rfl⟩
  rw [hw1.out] at hC1 hC2 hbw
  simp only [hw1.out]
  go_loopw [5] (fun v wr => ∃ i n : Nat, v = .int .i64 (i : Int) ∧ i ≤ 32 ∧ wr = w1.drewN n ∧ Hid (a.take i = b.take i)) (fun v _ => 32 - (intOf v).toNat)
  case atStart => exact ⟨0, 0, rfl, by omega, rfl, rfl⟩
  case round =>
    obtain ⟨i, n, rfl, hi, rfl, hpre⟩ := hrel
    by_cases hlt : i < 32
    · have hz : (i : Int) < 32 := by omega
      have hz0 : (0 : Int) ≤ (i : Int) := by omega
      have c1 := hC1.out i hlt
      have c2 := hC2.out i hlt
      have ea : Hid (a[i]? = some (a.getD i 0)) := by show _ = _; simp [List.getD, ha.out, hlt]
      have eb : Hid (b[i]? = some (b.getD i 0)) := by show _ = _; simp [List.getD, hb.out, hlt]
      generalize a.getD i 0 = x at *
      generalize b.getD i 0 = y at *
      by_cases hxy : x = y
      · subst hxy
        have hnx : Hid (a.take (i + 1) = b.take (i + 1)) := by show _ = _; rw [List.take_add_one, List.take_add_one, hpre.out, ea.out, eb.out]
        clear hpre
        go_wp2_with fail
        go_quiet (fail)
        go_wp2_with fail
        go_roundw
        case rel => exact ⟨i + 1, _, by go_num, by omega, rfl, hnx.out⟩
        case measure => simp [intOf]; omega
      · have hne : ¬ (b8 x = b8 y) := fun h => hxy (b8_inj h)
        have hres : Hid (ans = decide (b8 x < b8 y)) := by
          show _ = _
          rw [← hans.out, lex_at a b i x y hpre.out ea.out eb.out hxy]
          exact decide_eq_decide.2 (b8_lt x y).symm
        generalize b8 x = x' at *
        generalize b8 y = y' at *
        clear hpre ea eb hxy
        go_wp2_with fail
        go_quiet (fail)
        go_wp2_with fail
        go_quiet (fail)
        go_wp2_with fail
        go_ret
        exact ⟨by rw [hres.out]; rfl, below_drawn (below_drawn (below_drawn hbw.out _) _) _⟩
    · have hz : ¬ ((i : Int) < 32) := by omega
      have hres : Hid (ans = false) := by
        show _ = _
        have e : a = b := by
          have h := hpre.out
          rw [List.take_of_length_le (by rw [ha.out]; omega), List.take_of_length_le (by rw [hb.out]; omega)] at h
          exact h
        rw [← hans.out, e, lex_irrefl]
      clear hpre
      go_wp2_with fail
      go_ret
      exact ⟨by rw [hres.out]; rfl, below_drawn hbw.out _⟩
end Go.Proofs.YtfbhjoejffagjaaGreatDoor.RefLess

namespace Go.Proofs.YtfbhjoejffagjaaGreatDoor.Law16
open Go Go.RowKit Go.Proofs.YtfbhjoejffagjaaGreatDoor Go.Proofs.YtfbhjoejffagjaaGreatDoor.Mem Go.Proofs.YtfbhjoejffagjaaGreatDoor.Sha Go.Proofs.YtfbhjoejffagjaaGreatDoor.Bytes

/-- A roomy copy of a text: a hundred cells of 165 behind it. -/
def roomTab (q : Text) (z : Nat → Value) (i j : Nat) : Value := if j < q.length then cell8 (q.getD j 0) else if j < i then .int .u8 165 else z j
theorem roomTab_succ (q : Text) (z : Nat → Value) (i j : Nat) (h : q.length ≤ i) : roomTab q z (i + 1) j = if j = i then .int .u8 165 else roomTab q z i j := by
  unfold roomTab
  by_cases e : j = i
  · subst e
    rw [if_pos rfl, if_neg (by omega), if_pos (by omega)]
  · rw [if_neg e]
    by_cases h1 : j < q.length
    · rw [if_pos h1, if_pos h1]
    · rw [if_neg h1, if_neg h1]
      by_cases h2 : j < i
      · rw [if_pos h2, if_pos (by omega)]
      · rw [if_neg h2, if_neg (by omega)]
def Roomy (w : World) (g : Nat) (q : Text) : Prop := Tab w g 5 (q.length + 100) (fun j => if j < q.length then cell8 (q.getD j 0) else .int .u8 165)
theorem roomSplice {w : World} {g : Nat} {t : TypeId} {cur : Array Value} (q : Text) (n : Nat) (hs : cur.size = n) (hn : q.length ≤ n) (h : Blk w g t (splice cur.toList 0 (cells8 q)).toArray) : ∃ z, Tab w g t n (roomTab q z q.length) := by
  refine ⟨fun j => cur.toList.getD j undef, _, h, by simp [length_splice _ _ _ (show 0 + (cells8 q).length ≤ cur.toList.length by simp [cells8_len]; omega), hs], fun j hj => ?_⟩
  rw [List.getElem?_toArray, splice_get _ _ _ (by simp [cells8_len]; omega), cells8_len, if_neg (by omega)]
  unfold roomTab
  by_cases h1 : j < q.length
  · rw [if_pos (by omega), if_pos h1, Nat.sub_zero, cells8_at q j h1]
  · rw [if_neg (by omega), if_neg h1, if_neg h1]
    have hj2 : j < cur.toList.length := by simp; omega
    simp [List.getD, hs, hj]
theorem ownBlk {w : World} {base e g n : Nat} {xs : List Value} (h : w.ownsRow base e 1 (.slice (some ⟨g, 0, none⟩) n n) n xs) : ∃ cur : Array Value, Blk w g e cur ∧ cur.size = n := by
  rcases h.2 with ⟨h1, _⟩ | ⟨g', cap, cur, hv, _, hg, _, _, hs, _⟩
  · cases h1
  · injection hv with h1 h2 h3
    injection h1 with h1
    injection h1 with h1
    subst h1
    subst h3
    exact ⟨cur, hg, by omega⟩

theorem srcAll {w1 : World} {A : Option Addr} {k : Nat} {q : Text} {a0 : Option Addr} (ha : Reads w1 1 A k (cells8 q)) (hk : q.length = k) : 0 < (cells8 q).length → (a0 = a0 ∧ ∃ ad, A = some ad ∧ ∀ j v, (cells8 q)[j]? = some v → w1.cell? (ad.add j) = some v) := fun h => ⟨rfl, by
  rw [cells8_len] at h
  have h2 := Reads.src ha k (Nat.le_refl _) (by omega)
  rw [List.take_of_length_le (by rw [hk]; exact Nat.le_refl _)] at h2
  exact h2⟩

theorem Roomy.reads {w : World} {g : Nat} {q : Text} (h : Roomy w g q) : Reads w 1 (some ⟨g, 0, none⟩) q.length (cells8 q) :=
  ⟨by rw [cells8_len, Nat.mul_one], fun _ => ⟨g, 0, rfl, h.lt, fun j u hu => by
    have hj : j < q.length := by
      have := (List.getElem?_eq_some_iff.1 hu).1
      rwa [cells8_len] at this
    rw [Nat.zero_add, h.cell (by omega), if_pos hj, ← hu, cells8_at q j hj]⟩⟩
theorem Roomy.kept {S : Nat → Prop} {w w' : World} {g : Nat} {q : Text} (h : Roomy w g q) (hk : Kept S w w') (hS : ¬ S g) : Roomy w' g q := Tab.kept h hk hS
theorem Roomy.below {B : Nat} {w w' : World} {g : Nat} {q : Text} (h : Roomy w g q) (hb : Below B w w') (hB : g < B) : Roomy w' g q := Tab.below' h hb hB
theorem Roomy.drewN {w : World} {g : Nat} {q : Text} (h : Roomy w g q) (n : Nat) : Roomy (w.drewN n) g q := h

end Go.Proofs.YtfbhjoejffagjaaGreatDoor.Law16

namespace Go.Proofs.YtfbhjoejffagjaaGreatDoor.Law16
open Go Go.RowKit Go.Proofs.YtfbhjoejffagjaaGreatDoor Go.Proofs.YtfbhjoejffagjaaGreatDoor.Mem Go.Proofs.YtfbhjoejffagjaaGreatDoor.Sha Go.Proofs.YtfbhjoejffagjaaGreatDoor.Bytes
set_option maxRecDepth 100000 in
set_option maxHeartbeats 600000 in
/-- Two slices that read as one text are the same. -/
theorem same_any (q : Text) (k : Nat) (hk : q.length = k) (hk63 : k < 140737488355428) (A B : Option Addr) (c d : Nat) (w : World) (ha : Reads w 1 A k (cells8 q)) (hb : Reads w 1 B k (cells8 q)) :
    Calls Tryz.prog 18 #[.slice A k c, .slice B k d] w fun e w' => e = .returned (.bool true) ∧ ∃ n, w' = w.drewN n := by
  replace ha := Lib.hid ha
  replace hb := Lib.hid hb
  replace hk := Lib.hid hk
  replace hk63 := Lib.hid hk63
  go_enter Tryz.func18, Tryz.ntmps18
  go_wp2_with fail
  go_loopw [5] (fun v wr => ∃ i n : Nat, v = .int .i64 (i : Int) ∧ i ≤ k ∧ wr = w.drewN n) (fun v _ => k - (intOf v).toNat)
  case atStart => exact ⟨0, 0, rfl, by omega, rfl⟩
  case round =>
    obtain ⟨i, n, rfl, hi, rfl⟩ := hrel
    have hil : (i : Int) < 9223372036854775807 := by have := hk63.out; omega
    by_cases hlt : i < k
    · have hz : (i : Int) < (k : Int) := by omega
      have hz0 : (0 : Int) ≤ (i : Int) := by omega
      obtain ⟨b1, o1, rfl, _, h1⟩ := ha.out.2 (by omega)
      obtain ⟨b2, o2, rfl, _, h2⟩ := hb.out.2 (by omega)
      have hci := cells8_at q i (by rw [hk.out]; exact hlt)
      unfold cell8 at hci
      generalize q.getD i 0 = y at *
      have c1 : w.cell? ⟨b1, o1 + i, none⟩ = some (.int .u8 (b8 y)) := h1 i _ hci
      have c2 : w.cell? ⟨b2, o2 + i, none⟩ = some (.int .u8 (b8 y)) := h2 i _ hci
      clear h1 h2 hci
      go_wp2_with fail
      go_quiet (fail)
      go_wp2_with fail
      go_roundw
      case rel => exact ⟨i + 1, _, by go_num, by omega, rfl⟩
      case measure => simp [intOf]; omega
    · have hz : (k : Int) ≤ (i : Int) := by omega
      go_wp2_with fail
      go_ret
      exact ⟨rfl, n, rfl⟩

set_option maxRecDepth 100000 in
set_option maxHeartbeats 600000 in
theorem roomy_any (q : Text) (k : Nat) (hk : q.length = k) (hk47 : k < 140737488355328) (A : Option Addr) (c : Nat) (w : World) (ha : Reads w 1 A k (cells8 q)) :
    Calls Tryz.prog 20 #[.slice A k c] w fun e w' => ∃ g, e = .returned (.slice (some ⟨g, 0, none⟩) k (k + 100)) ∧ w.heap.size ≤ g ∧ Roomy w' g q ∧ Below w.heap.size w w' := by
  obtain ⟨i0, hi, hz0, hz1, hz2⟩ := info_parts8 info8
  replace ha := Lib.hid ha
  replace hk := Lib.hid hk
  replace hk47 := Lib.hid hk47
  have x0 : IntKind.i64.wrap ((k : Int) + 100) = (k : Int) + 100 := by have := hk47.out; exact IntWalk.i64_in _ (by omega)
  have b2 : Hid (i0.bytes * (k + 100) ≤ 281474976710656) := by have := hk47.out; show _ ≤ _; rw [hz2]; omega
  have b3 : Hid (k + 100 ≤ maxLen) := by have := hk47.out; show _ ≤ _; unfold maxLen; omega
  go_enter Tryz.func20, Tryz.ntmps20
  have hl : Hid ((cells8 q).length = k) := by show _ = _; rw [cells8_len, hk.out]
  have s1 : Hid ((cells8 q).length = Nat.min k (k + 100)) := hl.out.trans (Nat.min_eq_left (by omega)).symm
  go_wp2_with (first
    | (at_make; refine wpList_make_full _ rfl (.tmp 7) (.tmp 7) 31 rfl w.heap.size 5 i0 (.int .u8 0) 1 Tryz.underlying31 hi hz0 hz1 .i64 .i64 ((k : Int) + 100) ((k : Int) + 100) (k + 100) rfl rfl (by omega) (by omega) b2.out b3.out (Nat.le_refl _) ?_; intro w1 hown hgrow; obtain ⟨cur, hcur, hcs⟩ := ownBlk hown; have hb1 : Hid (Below w.heap.size w w1) := (Below.refl _ w).grown hgrow (Nat.le_refl _) (fun _ e => by cases e); replace hcur := Lib.hid hcur; replace hcs := Lib.hid hcs; clear hown hgrow; have s2 : Hid (0 < (cells8 q).length → (some (⟨w.heap.size, 0, none⟩ : Addr) = some ⟨w.heap.size, 0, none⟩ ∧ ∃ ad, A = some ad ∧ ∀ j v, (cells8 q)[j]? = some v → w1.cell? (ad.add j) = some v)) := srcAll (ha.out.below hb1.out) hk.out; have s3 : Hid (0 + (cells8 q).length ≤ cur.size) := (show 0 + (cells8 q).length ≤ cur.size by have := hcs.out; have := hl.out; omega))
    | ((with_reducible change wpList _ _ _ ({ dst := some 11, op := _, type := _, pos := _, after := _, guard := _ } :: _) _ _); refine wpList_copy_into (o := ⟨some 11, _, _, _, _, _⟩) rfl (.tmp 9) (.tmp 10) 31 31 rfl 5 Tryz.underlying31 size8 (some ⟨w.heap.size, 0, none⟩) A (k + 100) (k + 100) k c rfl rfl w.heap.size 0 cur 5 hcur.out (cells8 q) s1.out s2.out s3.out (cells8_one q) w1 (Kept.refl _ _) k hl.out ?_; intro w2 hb2 hk2; obtain ⟨z, hT⟩ := roomSplice q (k + 100) hcs.out (by rw [hk.out]; omega) hb2.out; rw [hk.out] at hT; replace hT := Lib.hid hT; replace hk2 := Lib.hid hk2; clear hb2))
  go_loopw [4] (fun v wr => ∃ i : Nat, v = .int .i64 (i : Int) ∧ Hid (k ≤ i ∧ i ≤ k + 100) ∧ Hid (Tab wr w.heap.size 5 (k + 100) (roomTab q z i)) ∧ Hid (Kept (· = w.heap.size) w1 wr)) (fun v _ => k + 100 - (intOf v).toNat)
  case atStart => exact ⟨k, rfl, ⟨Nat.le_refl _, by omega⟩, hT.out, hk2.out⟩
  case round =>
    clear hT hk2
    obtain ⟨i, rfl, hi2, ht, hkr⟩ := hrel
    have hil : (i : Int) < 9223372036854775807 := by have := hk47.out; have := hi2.out; omega
    by_cases hlt : i < k + 100
    · have hz : (i : Int) < (k : Int) + 100 := by omega
      have hzn : Hid (i < k + 100) := hlt
      have s4 : wr.cell? ⟨w.heap.size, i, none⟩ = some (roomTab q z i i) := ht.out.cell hlt
      have s5 : wr.frozen? ⟨w.heap.size, i, none⟩ = false := ht.out.frozen _
      go_wp2_with fail
      go_roundw
      case rel =>
        exact ⟨i + 1, by go_num, by have := hi2.out; have := hzn.out; show _ ∧ _; omega, ht.out.set_ i _ (fun j _ => roomTab_succ q z i j (by rw [hk.out]; exact hi2.out.1)), hkr.out.setCell (.inl rfl) _⟩
      case measure => have := hzn.out; simp [intOf]; omega
    · have hie : i = k + 100 := by have := hi2.out; omega
      have hz : (k : Int) + 100 ≤ (i : Int) := by omega
      have hie2 := Lib.hid hie
      clear hie hlt hil
      have X : ∀ w', (Instr.sliceAt 31 (.slice (some ⟨w.heap.size, 0, none⟩) (k + 100) (k + 100)) none (some (.int .i64 (k : Int))) none).run Tryz.prog w' = .ok (.slice (some ⟨w.heap.size, 0, none⟩) k (k + 100)) w' := run_headOf (m := k) Tryz.underlying31 (fun _ => rfl) (by omega) _ rfl
      go_wp2_with fail
      go_ret
      refine ⟨w.heap.size, rfl, Nat.le_refl _, ?_, hb1.out.trans (Kept.below_of hkr.out (Nat.le_refl _) hb1.out.size)⟩
      unfold Roomy
      rw [hk.out]
      refine ht.out.congr (fun j hj => ?_)
      unfold roomTab
      rw [hk.out, hie2.out, if_pos hj]

set_option maxRecDepth 100000 in
set_option maxHeartbeats 600000 in
theorem left_any (q : Text) (k : Nat) (hk : q.length = k) (hk47 : k < 140737488355328) (g : Nat) (A : Option Addr) (c : Nat) (w : World) (hg : Roomy w g q) (ha : Reads w 1 A k (cells8 q)) :
    Calls Tryz.prog 9 #[.slice (some ⟨g, 0, none⟩) k (k + 100), .slice A k c] w fun e w' => e = .returned (.bool true) ∧ ∃ n, w' = w.drewN n := by
  have hr : Hid (Reads w 1 (some ⟨g, 0, none⟩) k (cells8 q)) := by have := hg.reads; rw [hk] at this; exact this
  replace ha := Lib.hid ha
  replace hg := Lib.hid hg
  replace hk := Lib.hid hk
  replace hk47 := Lib.hid hk47
  have x0 : IntKind.i64.wrap ((k : Int) + 100) = (k : Int) + 100 := by have := hk47.out; exact IntWalk.i64_in _ (by omega)
  have X : ∀ w', (Instr.sliceAt 31 (.slice (some ⟨g, 0, none⟩) k (k + 100)) none (some (.int .i64 ((k : Int) + 100))) none).run Tryz.prog w' = .ok (.slice (some ⟨g, 0, none⟩) (k + 100) (k + 100)) w' := run_headOf (m := k + 100) Tryz.underlying31 (fun _ => rfl) (Nat.le_refl _) _ (by omega)
  go_enter Tryz.func9, Tryz.ntmps9
  go_wp2_with (go_at_call 18; refine (same_any q k hk.out (by have := hk47.out; omega) (some ⟨g, 0, none⟩) A (k + 100) c w hr.out ha.out).mono ?_; rintro e w1 ⟨rfl, n1, rfl⟩)
  clear X
  go_loopw [6] (fun v wr => ∃ i n : Nat, v = .int .i64 (i : Int) ∧ Hid (k ≤ i ∧ i ≤ k + 100) ∧ wr = w.drewN n) (fun v _ => k + 100 - (intOf v).toNat)
  case atStart => exact ⟨k, n1, rfl, ⟨Nat.le_refl _, by omega⟩, rfl⟩
  case round =>
    obtain ⟨i, n, rfl, hi, rfl⟩ := hrel
    by_cases hlt : i < k + 100
    · have hil : (i : Int) < 9223372036854775807 := by have := hk47.out; have := hi.out; omega
      have hz : (i : Int) < (k : Int) + 100 := by omega
      have hzn : Hid (i < k + 100) := hlt
      have c0 : w.cell? ⟨g, i, none⟩ = some (.int .u8 165) := by
        have := hg.out.cell (j := i) (by rw [hk.out]; exact hlt)
        rw [this, if_neg (by rw [hk.out]; have := hi.out; omega)]
      clear hlt
      go_wp2_with fail
      go_roundw
      case rel => exact ⟨i + 1, n, by go_num, by have := hi.out; have := hzn.out; show _ ∧ _; omega, rfl⟩
      case measure => have := hzn.out; simp [intOf]; omega
    · have hz : (k : Int) + 100 ≤ (i : Int) := by omega
      clear hlt
      go_wp2_with fail
      go_ret
      exact ⟨rfl, n, rfl⟩

end Go.Proofs.YtfbhjoejffagjaaGreatDoor.Law16
