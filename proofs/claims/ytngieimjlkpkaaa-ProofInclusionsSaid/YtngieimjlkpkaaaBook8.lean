/-
  docketbook.Roomy and Intact of bytes, walked.
-/
import Derived.Test.YtngieimjlkpkaaaSame8
namespace Go.Proofs.Ytngieimjlkpkaaa.Book8
open Go Go.RowKit Go.Proofs.Ytngieimjlkpkaaa Go.Proofs.Ytngieimjlkpkaaa.Mem Go.Proofs.Ytngieimjlkpkaaa.Sha Go.Proofs.Ytngieimjlkpkaaa.Bytes Go.Proofs.Ytngieimjlkpkaaa.Law16 Go.Proofs.Ytngieimjlkpkaaa.Same8

def roomT (q : Text) (mk : BitVec 8) (z : Nat → Value) (i j : Nat) : Value := if j < q.length then cell8 (q.getD j 0) else if j < i then cell8 mk else z j
theorem roomT_succ (q : Text) (mk : BitVec 8) (z : Nat → Value) (i j : Nat) (h : q.length ≤ i) : roomT q mk z (i + 1) j = if j = i then cell8 mk else roomT q mk z i j := by
  unfold roomT
  by_cases e : j = i
  · subst e
    rw [if_pos rfl, if_neg (by omega), if_pos (by omega)]
  · rw [if_neg e]
    by_cases h1 : j < q.length
    · rw [if_pos h1, if_pos h1]
    · rw [if_neg h1, if_neg h1]
      by_cases h2 : j < i
      · rw [if_pos h2, if_pos (by omega)]
      · rw [if_neg h2, if_neg (by omega)]
/-- A text with 80 marks behind it. -/
def RoomB (w : World) (g : Nat) (q : Text) (mk : BitVec 8) : Prop := Tab w g 5 (q.length + 80) (fun j => if j < q.length then cell8 (q.getD j 0) else cell8 mk)
theorem roomSplice' {w : World} {g : Nat} {t : TypeId} {cur : Array Value} (q : Text) (mk : BitVec 8) (n : Nat) (hs : cur.size = n) (hn : q.length ≤ n) (h : Blk w g t (splice cur.toList 0 (cells8 q)).toArray) : ∃ z, Tab w g t n (roomT q mk z q.length) := by
  refine ⟨fun j => cur.toList.getD j undef, _, h, by simp [length_splice _ _ _ (show 0 + (cells8 q).length ≤ cur.toList.length by simp [cells8_len]; omega), hs], fun j hj => ?_⟩
  rw [List.getElem?_toArray, splice_get _ _ _ (by simp [cells8_len]; omega), cells8_len, if_neg (by omega)]
  unfold roomT
  by_cases h1 : j < q.length
  · rw [if_pos (by omega), if_pos h1, Nat.sub_zero, cells8_at q j h1]
  · rw [if_neg (by omega), if_neg h1, if_neg h1]
    have hj2 : j < cur.toList.length := by simp; omega
    simp [List.getD, hs, hj]

set_option maxRecDepth 100000 in
set_option maxHeartbeats 600000 in
theorem roomy8_any (q : Text) (k : Nat) (hk : q.length = k) (hk47 : k < 140737488355328) (mk : BitVec 8) (m : Int) (hm : b8 mk = m) (A : Option Addr) (c : Nat) (w : World) (ha : Reads w 1 A k (cells8 q)) :
    Calls Try.prog 42 #[.slice A k c, .int .u8 m] w fun e w' => ∃ g, e = .returned (.slice (some ⟨g, 0, none⟩) (k + 80) (k + 80)) ∧ w.heap.size ≤ g ∧ RoomB w' g q mk ∧ Below w.heap.size w w' := by
  obtain ⟨i0, hi, hz0, hz1, hz2⟩ := info_parts8 info8
  replace ha := Lib.hid ha
  replace hk := Lib.hid hk
  replace hk47 := Lib.hid hk47
  replace hm := Lib.hid hm
  have x0 : IntKind.i64.wrap ((k : Int) + 80) = (k : Int) + 80 := by have := hk47.out; exact IntWalk.i64_in _ (by omega)
  have b2 : Hid (i0.bytes * (k + 80) ≤ 281474976710656) := by have := hk47.out; show _ ≤ _; rw [hz2]; omega
  have b3 : Hid (k + 80 ≤ maxLen) := by have := hk47.out; show _ ≤ _; unfold maxLen; omega
  go_enter Try.func42, Try.ntmps42
  have hl : Hid ((cells8 q).length = k) := by show _ = _; rw [cells8_len, hk.out]
  have s1 : Hid ((cells8 q).length = Nat.min k (k + 80)) := hl.out.trans (Nat.min_eq_left (by omega)).symm
  go_wp2_with (first
    | (at_make; refine wpList_make_full _ rfl (.tmp 9) (.tmp 9) 23 rfl w.heap.size 5 i0 (.int .u8 0) 1 Try.underlying23 hi hz0 hz1 .i64 .i64 ((k : Int) + 80) ((k : Int) + 80) (k + 80) rfl rfl (by omega) (by omega) b2.out b3.out (Nat.le_refl _) ?_; intro w1 hown hgrow; obtain ⟨cur, hcur, hcs⟩ := ownBlk hown; have hb1 : Hid (Below w.heap.size w w1) := (Below.refl _ w).grown hgrow (Nat.le_refl _) (fun _ e => by cases e); replace hcur := Lib.hid hcur; replace hcs := Lib.hid hcs; clear hown hgrow; have s2 : Hid (0 < (cells8 q).length → (some (⟨w.heap.size, 0, none⟩ : Addr) = some ⟨w.heap.size, 0, none⟩ ∧ ∃ ad, A = some ad ∧ ∀ j v, (cells8 q)[j]? = some v → w1.cell? (ad.add j) = some v)) := srcAll (ha.out.below hb1.out) hk.out; have s3 : Hid (0 + (cells8 q).length ≤ cur.size) := (show 0 + (cells8 q).length ≤ cur.size by have := hcs.out; have := hl.out; omega))
    | ((with_reducible change wpList _ _ _ ({ dst := some 13, op := _, type := _, pos := _, after := _, guard := _ } :: _) _ _); refine wpList_copy_into (o := ⟨some 13, _, _, _, _, _⟩) rfl (.tmp 11) (.tmp 12) 23 23 rfl 5 Try.underlying23 size8 (some ⟨w.heap.size, 0, none⟩) A (k + 80) (k + 80) k c rfl rfl w.heap.size 0 cur 5 hcur.out (cells8 q) s1.out s2.out s3.out (cells8_one q) w1 (Kept.refl _ _) k hl.out ?_; intro w2 hb2 hk2; obtain ⟨z, hT⟩ := roomSplice' q mk (k + 80) hcs.out (by rw [hk.out]; omega) hb2.out; rw [hk.out] at hT; replace hT := Lib.hid hT; replace hk2 := Lib.hid hk2; clear hb2))
  go_loopw [6] (fun v wr => ∃ i : Nat, v = .int .i64 (i : Int) ∧ Hid (k ≤ i ∧ i ≤ k + 80) ∧ Hid (Tab wr w.heap.size 5 (k + 80) (roomT q mk z i)) ∧ Hid (Kept (· = w.heap.size) w1 wr)) (fun v _ => k + 80 - (intOf v).toNat)
  case atStart => exact ⟨k, rfl, ⟨Nat.le_refl _, by omega⟩, hT.out, hk2.out⟩
  case round =>
    clear hT hk2
    obtain ⟨i, rfl, hi2, ht, hkr⟩ := hrel
    have hil : (i : Int) < 9223372036854775807 := by have := hk47.out; have := hi2.out; omega
    by_cases hlt : i < k + 80
    · have hz : (i : Int) < (k : Int) + 80 := by omega
      have hzn : Hid (i < k + 80) := hlt
      have s4 : wr.cell? ⟨w.heap.size, i, none⟩ = some (roomT q mk z i i) := ht.out.cell hlt
      have s5 : wr.frozen? ⟨w.heap.size, i, none⟩ = false := ht.out.frozen _
      go_wp2_with fail
      go_roundw
      case rel =>
        exact ⟨i + 1, by go_num, by have := hi2.out; have := hzn.out; show _ ∧ _; omega, ht.out.set_ i _ (fun j _ => by rw [roomT_succ q mk z i j (by rw [hk.out]; exact hi2.out.1)]; unfold cell8; rw [hm.out]), hkr.out.setCell (.inl rfl) _⟩
      case measure => have := hzn.out; simp [intOf]; omega
    · have hie : i = k + 80 := by have := hi2.out; omega
      have hz : (k : Int) + 80 ≤ (i : Int) := by omega
      have hie2 := Lib.hid hie
      clear hie hlt hil
      go_wp2_with fail
      go_ret
      refine ⟨w.heap.size, rfl, Nat.le_refl _, ?_, hb1.out.trans (Kept.below_of hkr.out (Nat.le_refl _) hb1.out.size)⟩
      unfold RoomB
      rw [hk.out]
      refine ht.out.congr (fun j hj => ?_)
      unfold roomT
      rw [hk.out, hie2.out, if_pos hj]

theorem RoomB.reads {w : World} {g : Nat} {q : Text} {mk : BitVec 8} (h : RoomB w g q mk) : Reads w 1 (some ⟨g, 0, none⟩) q.length (cells8 q) :=
  ⟨by rw [cells8_len, Nat.mul_one], fun _ => ⟨g, 0, rfl, h.lt, fun j u hu => by
    have hj : j < q.length := by
      have := (List.getElem?_eq_some_iff.1 hu).1
      rwa [cells8_len] at this
    rw [Nat.zero_add, h.cell (by omega), if_pos hj, ← hu, cells8_at q j hj]⟩⟩
theorem RoomB.below {B : Nat} {w w' : World} {g : Nat} {q : Text} {mk : BitVec 8} (h : RoomB w g q mk) (hb : Below B w w') (hB : g < B) : RoomB w' g q mk := Tab.below' h hb hB
theorem RoomB.drewN {w : World} {g : Nat} {q : Text} {mk : BitVec 8} (h : RoomB w g q mk) (n : Nat) : RoomB (w.drewN n) g q mk := h

set_option maxRecDepth 100000 in
set_option maxHeartbeats 600000 in
theorem intact8_any (q : Text) (k : Nat) (hk : q.length = k) (hk47 : k < 140737488355328) (mk : BitVec 8) (m : Int) (hm : b8 mk = m) (g : Nat) (A : Option Addr) (c : Nat) (w : World) (hg : RoomB w g q mk) (ha : Reads w 1 A k (cells8 q)) :
    Calls Try.prog 46 #[.slice (some ⟨g, 0, none⟩) (k + 80) (k + 80), .slice A k c, .int .u8 m] w fun e w' => e = .returned (.bool true) ∧ ∃ n, w' = w.drewN n := by
  have hr : Hid (Reads w 1 (some ⟨g, 0, none⟩) k (cells8 q)) := by have := hg.reads; rw [hk] at this; exact this
  replace ha := Lib.hid ha
  replace hg := Lib.hid hg
  replace hk := Lib.hid hk
  replace hk47 := Lib.hid hk47
  replace hm := Lib.hid hm
  have x0 : IntKind.i64.wrap ((k : Int) + 80) = (k : Int) + 80 := by have := hk47.out; exact IntWalk.i64_in _ (by omega)
  have x1 : ((k : Int) + 80 == (k : Int) + 80) = true := beq_self_eq_true _
  have hS : Hid (Calls Try.prog 40 #[.slice (some ⟨g, 0, none⟩) k (k + 80), .slice A k c] w fun e w' => e = .returned (.bool true) ∧ ∃ n, w' = w.drewN n) := by
    have := same8_any q q k k hk.out hk.out (by have := hk47.out; omega) (some ⟨g, 0, none⟩) A (k + 80) c w hr.out ha.out
    rw [decide_eq_true rfl] at this
    exact this
  have X : ∀ w', (Instr.sliceAt 23 (.slice (some ⟨g, 0, none⟩) (k + 80) (k + 80)) none (some (.int .i64 (k : Int))) none).run Try.prog w' = .ok (.slice (some ⟨g, 0, none⟩) k (k + 80)) w' := run_headOf (m := k) Try.underlying23 (fun _ => rfl) (by omega) _ rfl
  go_enter Try.func46, Try.ntmps46
  go_wp2_with (go_at_call 40; refine hS.out.mono ?_; rintro e w1 ⟨rfl, n1, rfl⟩)
  clear X x1
  go_loopw [7] (fun v wr => ∃ i n : Nat, v = .int .i64 (i : Int) ∧ Hid (k ≤ i ∧ i ≤ k + 80) ∧ wr = w.drewN n) (fun v _ => k + 80 - (intOf v).toNat)
  case atStart => exact ⟨k, n1, rfl, ⟨Nat.le_refl _, by omega⟩, rfl⟩
  case round =>
    obtain ⟨i, n, rfl, hi, rfl⟩ := hrel
    by_cases hlt : i < k + 80
    · have hil : (i : Int) < 9223372036854775807 := by have := hk47.out; have := hi.out; omega
      have hz : (i : Int) < (k : Int) + 80 := by omega
      have hzn : Hid (i < k + 80) := hlt
      have c0 : w.cell? ⟨g, i, none⟩ = some (.int .u8 m) := by
        have := hg.out.cell (j := i) (by rw [hk.out]; exact hlt)
        rw [this, if_neg (by rw [hk.out]; have := hi.out; omega)]
        unfold cell8
        rw [hm.out]
      have c1 : (m == m) = true := beq_self_eq_true _
      clear hlt
      go_wp2_with fail
      go_roundw
      case rel => exact ⟨i + 1, n, by go_num, by have := hi.out; have := hzn.out; show _ ∧ _; omega, rfl⟩
      case measure => have := hzn.out; simp [intOf]; omega
    · have hz : (k : Int) + 80 ≤ (i : Int) := by omega
      clear hlt
      go_wp2_with fail
      go_ret
      exact ⟨rfl, n, rfl⟩
end Go.Proofs.Ytngieimjlkpkaaa.Book8
