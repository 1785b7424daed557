/-
  Texts of the claim, put into one file: Law16m, Law16, Same17, Same8, Book8.
-/
import Derived.Test.YthkdlaohaekilaaDoorZ3
import Derived.Lib.Hide
import Derived.Outline
import Derived.WalkLawsBesides
import Derived.Deep.QuietTactic
import Derived.BigQuiet
import Derived.StillTailTactics
import Derived.OwnWalk
import Derived.IntWalk

namespace Go.Proofs.YthkdlaohaekilaaDoor.Law16
open Go Go.RowKit Go.Proofs.YthkdlaohaekilaaDoor Go.Proofs.YthkdlaohaekilaaDoor.Mem Go.Proofs.YthkdlaohaekilaaDoor.Sha Go.Proofs.YthkdlaohaekilaaDoor.Bytes

def Roomy (w : World) (g : Nat) (q : Text) : Prop := Tab w g 5 (q.length + 100) (fun j => if j < q.length then cell8 (q.getD j 0) else .int .u8 165)
theorem ownBlk {w : World} {base e g n : Nat} {xs : List Value} (h : w.ownsRow base e 1 (.slice (some ⟨g, 0, none⟩) n n) n xs) : ∃ cur : Array Value, Blk w g e cur ∧ cur.size = n := by
  rcases h.2 with ⟨h1, _⟩ | ⟨g', cap, cur, hv, _, hg, _, _, hs, _⟩
  · cases h1
  · injection hv with h1 h2 h3
    injection h1 with h1
    injection h1 with h1
    subst h1
    subst h3
    exact ⟨cur, hg, by omega⟩

theorem srcAll {w1 : World} {A : Option Addr} {k : Nat} {q : Text} {a0 : Option Addr} (ha : Reads w1 1 A k (cells8 q)) (hk : q.length = k) : 0 < (cells8 q).length → (a0 = a0 ∧ ∃ ad, A = some ad ∧ ∀ j v, (cells8 q)[j]? = some v → w1.cell? (ad.add j) = some v) := fun h => ⟨rfl, by
  rw [cells8_len] at h
  have h2 := Reads.src ha k (Nat.le_refl _) (by omega)
  rw [List.take_of_length_le (by rw [hk]; exact Nat.le_refl _)] at h2
  exact h2⟩

theorem Roomy.reads {w : World} {g : Nat} {q : Text} (h : Roomy w g q) : Reads w 1 (some ⟨g, 0, none⟩) q.length (cells8 q) :=
  ⟨by rw [cells8_len, Nat.mul_one], fun _ => ⟨g, 0, rfl, h.lt, fun j u hu => by
    have hj : j < q.length := by
      have := (List.getElem?_eq_some_iff.1 hu).1
      rwa [cells8_len] at this
    rw [Nat.zero_add, h.cell (by omega), if_pos hj, ← hu, cells8_at q j hj]⟩⟩
theorem Roomy.kept {S : Nat → Prop} {w w' : World} {g : Nat} {q : Text} (h : Roomy w g q) (hk : Kept S w w') (hS : ¬ S g) : Roomy w' g q := Tab.kept h hk hS
theorem Roomy.below {B : Nat} {w w' : World} {g : Nat} {q : Text} (h : Roomy w g q) (hb : Below B w w') (hB : g < B) : Roomy w' g q := Tab.below' h hb hB
theorem Roomy.drewN {w : World} {g : Nat} {q : Text} (h : Roomy w g q) (n : Nat) : Roomy (w.drewN n) g q := h

end Go.Proofs.YthkdlaohaekilaaDoor.Law16

namespace Go.Proofs.YthkdlaohaekilaaDoor.Law16
open Go Go.RowKit Go.Proofs.YthkdlaohaekilaaDoor Go.Proofs.YthkdlaohaekilaaDoor.Mem Go.Proofs.YthkdlaohaekilaaDoor.Sha Go.Proofs.YthkdlaohaekilaaDoor.Bytes
end Go.Proofs.YthkdlaohaekilaaDoor.Law16

namespace Go.Proofs.YthkdlaohaekilaaDoor.Same17
open Go Go.RowKit Go.Proofs.YthkdlaohaekilaaDoor Go.Proofs.YthkdlaohaekilaaDoor.Mem Go.Proofs.YthkdlaohaekilaaDoor.Sha Go.Proofs.YthkdlaohaekilaaDoor.Bytes

theorem b8_inj {x y : BitVec 8} (h : b8 x = b8 y) : x = y := by
  unfold b8 at h
  exact BitVec.eq_of_toNat_eq (by omega)
theorem take_next {p q : Text} {i : Nat} (hp : i < p.length) (hq : i < q.length) (h : p.take i = q.take i) : (p.take (i + 1) = q.take (i + 1)) ↔ p.getD i 0 = q.getD i 0 := by
  have e1 : p[i]? = some (p.getD i 0) := by simp [List.getD, hp]
  have e2 : q[i]? = some (q.getD i 0) := by simp [List.getD, hq]
  rw [List.take_add_one, List.take_add_one, h, e1, e2]
  simp only [Option.toList_some, List.append_cancel_left_eq, List.cons.injEq, and_true]

end Go.Proofs.YthkdlaohaekilaaDoor.Same17

namespace Go.Proofs.YthkdlaohaekilaaDoor.Same8
open Go Go.RowKit Go.Proofs.YthkdlaohaekilaaDoor Go.Proofs.YthkdlaohaekilaaDoor.Mem Go.Proofs.YthkdlaohaekilaaDoor.Sha Go.Proofs.YthkdlaohaekilaaDoor.Bytes

theorem b8_inj {x y : BitVec 8} (h : b8 x = b8 y) : x = y := by
  unfold b8 at h
  exact BitVec.eq_of_toNat_eq (by omega)
theorem take_next {p q : Text} {i : Nat} (hp : i < p.length) (hq : i < q.length) (h : p.take i = q.take i) : (p.take (i + 1) = q.take (i + 1)) ↔ p.getD i 0 = q.getD i 0 := by
  have e1 : p[i]? = some (p.getD i 0) := by simp [List.getD, hp]
  have e2 : q[i]? = some (q.getD i 0) := by simp [List.getD, hq]
  rw [List.take_add_one, List.take_add_one, h, e1, e2]
  simp only [Option.toList_some, List.append_cancel_left_eq, List.cons.injEq, and_true]

set_option maxRecDepth 100000 in
set_option maxHeartbeats 600000 in
theorem same8_len (n m : Nat) (h : n ≠ m) (A B : Option Addr) (c d : Nat) (w : World) :
    Calls Tryd.prog 18 #[.slice A n c, .slice B m d] w fun e w' => e = .returned (.bool false) ∧ w = w' := by
  have y1 : ((n : Int) == (m : Int)) = false := beq_eq_false_iff_ne.2 (by omega)
  have y2 : ¬ ((n : Int) = (m : Int)) := by omega
  clear h
  go_enter Tryd.func18, Tryd.ntmps18
  go_wp2_with fail
  go_ret
  exact ⟨rfl, rfl⟩

set_option maxRecDepth 100000 in
set_option maxHeartbeats 600000 in
theorem same8_eqlen (p q : Text) (k : Nat) (hp : p.length = k) (hq : q.length = k) (hk63 : k < 9223372036854775807) (A B : Option Addr) (c d : Nat) (w : World) (ha : Reads w 1 A k (cells8 p)) (hb : Reads w 1 B k (cells8 q)) :
    Calls Tryd.prog 18 #[.slice A k c, .slice B k d] w fun e w' => e = .returned (.bool (decide (p = q))) ∧ ∃ n, w' = w.drewN n := by
  replace ha := Lib.hid ha
  replace hb := Lib.hid hb
  replace hp := Lib.hid hp
  replace hq := Lib.hid hq
  replace hk63 := Lib.hid hk63
  obtain ⟨R, hR⟩ : ∃ R, Hid (decide (p = q) = R) := ⟨_, Lib.hid rfl⟩
  rw [hR.out]
  have y1 : ((k : Int) == (k : Int)) = true := beq_self_eq_true _
  go_enter Tryd.func18, Tryd.ntmps18
  go_wp2_with fail
  clear y1
  go_loopw [5] (fun v wr => ∃ i n : Nat, v = .int .i64 (i : Int) ∧ i ≤ k ∧ Hid (p.take i = q.take i) ∧ wr = w.drewN n) (fun v _ => k - (intOf v).toNat)
  case atStart => exact ⟨0, 0, rfl, by omega, rfl, rfl⟩
  case round =>
    obtain ⟨i, n, rfl, hi, ht, rfl⟩ := hrel
    have hil : (i : Int) < 9223372036854775807 := by have := hk63.out; omega
    by_cases hlt : i < k
    · have hz : (i : Int) < (k : Int) := by omega
      have hz0 : (0 : Int) ≤ (i : Int) := by omega
      obtain ⟨b1, o1, rfl, _, h1⟩ := ha.out.2 (by omega)
      obtain ⟨b2, o2, rfl, _, h2⟩ := hb.out.2 (by omega)
      have hcp := cells8_at p i (by rw [hp.out]; exact hlt)
      have hcq := cells8_at q i (by rw [hq.out]; exact hlt)
      unfold cell8 at hcp hcq
      have htn := take_next (p := p) (q := q) (i := i) (by rw [hp.out]; exact hlt) (by rw [hq.out]; exact hlt) ht.out
      generalize p.getD i 0 = x at *
      generalize q.getD i 0 = y at *
      have c1 : w.cell? ⟨b1, o1 + i, none⟩ = some (.int .u8 (b8 x)) := h1 i _ hcp
      have c2 : w.cell? ⟨b2, o2 + i, none⟩ = some (.int .u8 (b8 y)) := h2 i _ hcq
      clear h1 h2 hcp hcq
      by_cases hxy : x = y
      · subst hxy
        have ht2 : Hid (p.take (i + 1) = q.take (i + 1)) := htn.2 rfl
        clear htn ht
        go_wp2_with fail
        go_quiet (fail)
        go_wp2_with fail
        go_roundw
        case rel => exact ⟨i + 1, _, by go_num, by omega, ht2.out, rfl⟩
        case measure => simp [intOf]; omega
      · have z1 : (b8 x == b8 y) = false := beq_eq_false_iff_ne.2 (fun e => hxy (b8_inj e))
        have z2 : (b8 x != b8 y) = true := by rw [bne, z1]; rfl
        have z3 : ¬ b8 x = b8 y := fun e => hxy (b8_inj e)
        have hne : Hid (R = false) := by
          show R = false
          rw [← hR.out]
          exact decide_eq_false (fun e => hxy (htn.1 (by rw [e])))
        clear htn ht hxy
        go_wp2_with fail
        go_quiet (fail)
        go_wp2_with fail
        go_ret
        exact ⟨by rw [hne.out]; rfl, n + nq, World.drewN_drewN _ _ _⟩
    · have hz : (k : Int) ≤ (i : Int) := by omega
      have hye : Hid (R = true) := by
        show R = true
        rw [← hR.out]
        have h := ht.out
        rw [List.take_of_length_le (by rw [hp.out]; omega), List.take_of_length_le (by rw [hq.out]; omega)] at h
        exact decide_eq_true h
      clear ht
      go_wp2_with fail
      go_ret
      exact ⟨by rw [hye.out]; rfl, n, rfl⟩

theorem same8_any (p q : Text) (n m : Nat) (hp : p.length = n) (hq : q.length = m) (hk63 : n < 9223372036854775807) (A B : Option Addr) (c d : Nat) (w : World) (ha : Reads w 1 A n (cells8 p)) (hb : Reads w 1 B m (cells8 q)) :
    Calls Tryd.prog 18 #[.slice A n c, .slice B m d] w fun e w' => e = .returned (.bool (decide (p = q))) ∧ ∃ n, w' = w.drewN n := by
  by_cases h : n = m
  · subst h
    exact same8_eqlen p q n hp hq hk63 A B c d w ha hb
  · refine (same8_len n m h A B c d w).mono ?_
    rintro e w' ⟨rfl, rfl⟩
    exact ⟨by rw [decide_eq_false (fun e => h (by rw [← hp, ← hq, e]))], 0, rfl⟩
end Go.Proofs.YthkdlaohaekilaaDoor.Same8

namespace Go.Proofs.YthkdlaohaekilaaDoor.Book8
open Go Go.RowKit Go.Proofs.YthkdlaohaekilaaDoor Go.Proofs.YthkdlaohaekilaaDoor.Mem Go.Proofs.YthkdlaohaekilaaDoor.Sha Go.Proofs.YthkdlaohaekilaaDoor.Bytes Go.Proofs.YthkdlaohaekilaaDoor.Law16 Go.Proofs.YthkdlaohaekilaaDoor.Same8

def roomT (q : Text) (mk : BitVec 8) (z : Nat → Value) (i j : Nat) : Value := if j < q.length then cell8 (q.getD j 0) else if j < i then cell8 mk else z j
theorem roomT_succ (q : Text) (mk : BitVec 8) (z : Nat → Value) (i j : Nat) (h : q.length ≤ i) : roomT q mk z (i + 1) j = if j = i then cell8 mk else roomT q mk z i j := by
  unfold roomT
  by_cases e : j = i
  · subst e
    rw [if_pos rfl, if_neg (by omega), if_pos (by omega)]
  · rw [if_neg e]
    by_cases h1 : j < q.length
    · rw [if_pos h1, if_pos h1]
    · rw [if_neg h1, if_neg h1]
      by_cases h2 : j < i
      · rw [if_pos h2, if_pos (by omega)]
      · rw [if_neg h2, if_neg (by omega)]
/-- A text with 80 marks behind it. -/
def RoomB (w : World) (g : Nat) (q : Text) (mk : BitVec 8) : Prop := Tab w g 5 (q.length + 80) (fun j => if j < q.length then cell8 (q.getD j 0) else cell8 mk)
theorem roomSplice' {w : World} {g : Nat} {t : TypeId} {cur : Array Value} (q : Text) (mk : BitVec 8) (n : Nat) (hs : cur.size = n) (hn : q.length ≤ n) (h : Blk w g t (splice cur.toList 0 (cells8 q)).toArray) : ∃ z, Tab w g t n (roomT q mk z q.length) := by
  refine ⟨fun j => cur.toList.getD j undef, _, h, by simp [length_splice _ _ _ (show 0 + (cells8 q).length ≤ cur.toList.length by simp [cells8_len]; omega), hs], fun j hj => ?_⟩
  rw [List.getElem?_toArray, splice_get _ _ _ (by simp [cells8_len]; omega), cells8_len, if_neg (by omega)]
  unfold roomT
  by_cases h1 : j < q.length
  · rw [if_pos (by omega), if_pos h1, Nat.sub_zero, cells8_at q j h1]
  · rw [if_neg (by omega), if_neg h1, if_neg h1]
    have hj2 : j < cur.toList.length := by simp; omega
    simp [List.getD, hs, hj]

set_option maxRecDepth 100000 in
set_option maxHeartbeats 600000 in
theorem roomy8_any (q : Text) (k : Nat) (hk : q.length = k) (hk47 : k < 140737488355328) (mk : BitVec 8) (m : Int) (hm : b8 mk = m) (A : Option Addr) (c : Nat) (w : World) (ha : Reads w 1 A k (cells8 q)) :
    Calls Tryd.prog 49 #[.slice A k c, .int .u8 m] w fun e w' => ∃ g, e = .returned (.slice (some ⟨g, 0, none⟩) (k + 80) (k + 80)) ∧ w.heap.size ≤ g ∧ RoomB w' g q mk ∧ Below w.heap.size w w' := by
  obtain ⟨i0, hi, hz0, hz1, hz2⟩ := info_parts8 info8
  replace ha := Lib.hid ha
  replace hk := Lib.hid hk
  replace hk47 := Lib.hid hk47
  replace hm := Lib.hid hm
  have x0 : IntKind.i64.wrap ((k : Int) + 80) = (k : Int) + 80 := by have := hk47.out; exact IntWalk.i64_in _ (by omega)
  have b2 : Hid (i0.bytes * (k + 80) ≤ 281474976710656) := by have := hk47.out; show _ ≤ _; rw [hz2]; omega
  have b3 : Hid (k + 80 ≤ maxLen) := by have := hk47.out; show _ ≤ _; unfold maxLen; omega
  go_enter Tryd.func49, Tryd.ntmps49
  have hl : Hid ((cells8 q).length = k) := by show _ = _; rw [cells8_len, hk.out]
  have s1 : Hid ((cells8 q).length = Nat.min k (k + 80)) := hl.out.trans (Nat.min_eq_left (by omega)).symm
  go_wp2_with (first
    | (at_make; refine wpList_make_full _ rfl (.tmp 9) (.tmp 9) 27 rfl w.heap.size 5 i0 (.int .u8 0) 1 Tryd.underlying27 hi hz0 hz1 .i64 .i64 ((k : Int) + 80) ((k : Int) + 80) (k + 80) rfl rfl (by omega) (by omega) b2.out b3.out (Nat.le_refl _) ?_; intro w1 hown hgrow; obtain ⟨cur, hcur, hcs⟩ := ownBlk hown; have hb1 : Hid (Below w.heap.size w w1) := (Below.refl _ w).grown hgrow (Nat.le_refl _) (fun _ e => by cases e); replace hcur := Lib.hid hcur; replace hcs := Lib.hid hcs; clear hown hgrow; have s2 : Hid (0 < (cells8 q).length → (some (⟨w.heap.size, 0, none⟩ : Addr) = some ⟨w.heap.size, 0, none⟩ ∧ ∃ ad, A = some ad ∧ ∀ j v, (cells8 q)[j]? = some v → w1.cell? (ad.add j) = some v)) := srcAll (ha.out.below hb1.out) hk.out; have s3 : Hid (0 + (cells8 q).length ≤ cur.size) := (show 0 + (cells8 q).length ≤ cur.size by have := hcs.out; have := hl.out; omega))
    | ((with_reducible change wpList _ _ _ ({ dst := some 13, op := _, type := _, pos := _, after := _, guard := _ } :: _) _ _); refine wpList_copy_into (o := ⟨some 13, _, _, _, _, _⟩) rfl (.tmp 11) (.tmp 12) 27 27 rfl 5 Tryd.underlying27 size8 (some ⟨w.heap.size, 0, none⟩) A (k + 80) (k + 80) k c rfl rfl w.heap.size 0 cur 5 hcur.out (cells8 q) s1.out s2.out s3.out (cells8_one q) w1 (Kept.refl _ _) k hl.out ?_; intro w2 hb2 hk2; obtain ⟨z, hT⟩ := roomSplice' q mk (k + 80) hcs.out (by rw [hk.out]; omega) hb2.out; rw [hk.out] at hT; replace hT := Lib.hid hT; replace hk2 := Lib.hid hk2; clear hb2))
  go_loopw [6] (fun v wr => ∃ i : Nat, v = .int .i64 (i : Int) ∧ Hid (k ≤ i ∧ i ≤ k + 80) ∧ Hid (Tab wr w.heap.size 5 (k + 80) (roomT q mk z i)) ∧ Hid (Kept (· = w.heap.size) w1 wr)) (fun v _ => k + 80 - (intOf v).toNat)
  case atStart => exact ⟨k, rfl, ⟨Nat.le_refl _, by omega⟩, hT.out, hk2.out⟩
  case round =>
    clear hT hk2
    obtain ⟨i, rfl, hi2, ht, hkr⟩ := hrel
    have hil : (i : Int) < 9223372036854775807 := by have := hk47.out; have := hi2.out; omega
    by_cases hlt : i < k + 80
    · have hz : (i : Int) < (k : Int) + 80 := by omega
      have hzn : Hid (i < k + 80) := hlt
      have s4 : wr.cell? ⟨w.heap.size, i, none⟩ = some (roomT q mk z i i) := ht.out.cell hlt
      have s5 : wr.frozen? ⟨w.heap.size, i, none⟩ = false := ht.out.frozen _
      go_wp2_with fail
      go_roundw
      case rel =>
        exact ⟨i + 1, by go_num, by have := hi2.out; have := hzn.out; show _ ∧ _; omega, ht.out.set_ i _ (fun j _ => by rw [roomT_succ q mk z i j (by rw [hk.out]; exact hi2.out.1)]; unfold cell8; rw [hm.out]), hkr.out.setCell (.inl rfl) _⟩
      case measure => have := hzn.out; simp [intOf]; omega
    · have hie : i = k + 80 := by have := hi2.out; omega
      have hz : (k : Int) + 80 ≤ (i : Int) := by omega
      have hie2 := Lib.hid hie
      clear hie hlt hil
      go_wp2_with fail
      go_ret
      refine ⟨w.heap.size, rfl, Nat.le_refl _, ?_, hb1.out.trans (Kept.below_of hkr.out (Nat.le_refl _) hb1.out.size)⟩
      unfold RoomB
      rw [hk.out]
      refine ht.out.congr (fun j hj => ?_)
      unfold roomT
      rw [hk.out, hie2.out, if_pos hj]

theorem RoomB.reads {w : World} {g : Nat} {q : Text} {mk : BitVec 8} (h : RoomB w g q mk) : Reads w 1 (some ⟨g, 0, none⟩) q.length (cells8 q) :=
  ⟨by rw [cells8_len, Nat.mul_one], fun _ => ⟨g, 0, rfl, h.lt, fun j u hu => by
    have hj : j < q.length := by
      have := (List.getElem?_eq_some_iff.1 hu).1
      rwa [cells8_len] at this
    rw [Nat.zero_add, h.cell (by omega), if_pos hj, ← hu, cells8_at q j hj]⟩⟩
theorem RoomB.below {B : Nat} {w w' : World} {g : Nat} {q : Text} {mk : BitVec 8} (h : RoomB w g q mk) (hb : Below B w w') (hB : g < B) : RoomB w' g q mk := Tab.below' h hb hB
theorem RoomB.drewN {w : World} {g : Nat} {q : Text} {mk : BitVec 8} (h : RoomB w g q mk) (n : Nat) : RoomB (w.drewN n) g q mk := h

set_option maxRecDepth 100000 in
set_option maxHeartbeats 600000 in
theorem intact8_any (q : Text) (k : Nat) (hk : q.length = k) (hk47 : k < 140737488355328) (mk : BitVec 8) (m : Int) (hm : b8 mk = m) (g : Nat) (A : Option Addr) (c : Nat) (w : World) (hg : RoomB w g q mk) (ha : Reads w 1 A k (cells8 q)) :
    Calls Tryd.prog 59 #[.slice (some ⟨g, 0, none⟩) (k + 80) (k + 80), .slice A k c, .int .u8 m] w fun e w' => e = .returned (.bool true) ∧ ∃ n, w' = w.drewN n := by
  have hr : Hid (Reads w 1 (some ⟨g, 0, none⟩) k (cells8 q)) := by have := hg.reads; rw [hk] at this; exact this
  replace ha := Lib.hid ha
  replace hg := Lib.hid hg
  replace hk := Lib.hid hk
  replace hk47 := Lib.hid hk47
  replace hm := Lib.hid hm
  have x0 : IntKind.i64.wrap ((k : Int) + 80) = (k : Int) + 80 := by have := hk47.out; exact IntWalk.i64_in _ (by omega)
  have x1 : ((k : Int) + 80 == (k : Int) + 80) = true := beq_self_eq_true _
  have hS : Hid (Calls Tryd.prog 18 #[.slice (some ⟨g, 0, none⟩) k (k + 80), .slice A k c] w fun e w' => e = .returned (.bool true) ∧ ∃ n, w' = w.drewN n) := by
    have := same8_any q q k k hk.out hk.out (by have := hk47.out; omega) (some ⟨g, 0, none⟩) A (k + 80) c w hr.out ha.out
    rw [decide_eq_true rfl] at this
    exact this
  have X : ∀ w', (Instr.sliceAt 27 (.slice (some ⟨g, 0, none⟩) (k + 80) (k + 80)) none (some (.int .i64 (k : Int))) none).run Tryd.prog w' = .ok (.slice (some ⟨g, 0, none⟩) k (k + 80)) w' := run_headOf (m := k) Tryd.underlying27 (fun _ => rfl) (by omega) _ rfl
  go_enter Tryd.func59, Tryd.ntmps59
  go_wp2_with (go_at_call 18; refine hS.out.mono ?_; rintro e w1 ⟨rfl, n1, rfl⟩)
  clear X x1
  go_loopw [7] (fun v wr => ∃ i n : Nat, v = .int .i64 (i : Int) ∧ Hid (k ≤ i ∧ i ≤ k + 80) ∧ wr = w.drewN n) (fun v _ => k + 80 - (intOf v).toNat)
  case atStart => exact ⟨k, n1, rfl, ⟨Nat.le_refl _, by omega⟩, rfl⟩
  case round =>
    obtain ⟨i, n, rfl, hi, rfl⟩ := hrel
    by_cases hlt : i < k + 80
    · have hil : (i : Int) < 9223372036854775807 := by have := hk47.out; have := hi.out; omega
      have hz : (i : Int) < (k : Int) + 80 := by omega
      have hzn : Hid (i < k + 80) := hlt
      have c0 : w.cell? ⟨g, i, none⟩ = some (.int .u8 m) := by
        have := hg.out.cell (j := i) (by rw [hk.out]; exact hlt)
        rw [this, if_neg (by rw [hk.out]; have := hi.out; omega)]
        unfold cell8
        rw [hm.out]
      have c1 : (m == m) = true := beq_self_eq_true _
      clear hlt
      go_wp2_with fail
      go_roundw
      case rel => exact ⟨i + 1, n, by go_num, by have := hi.out; have := hzn.out; show _ ∧ _; omega, rfl⟩
      case measure => have := hzn.out; simp [intOf]; omega
    · have hz : (k : Int) + 80 ≤ (i : Int) := by omega
      clear hlt
      go_wp2_with fail
      go_ret
      exact ⟨rfl, n, rfl⟩
end Go.Proofs.YthkdlaohaekilaaDoor.Book8
