/-
  Texts of the claim, put into one file: Law16m, Law16, Same17, Same8, Book8.
-/
import Derived.Test.YtgldkfaiofkhbaaDoorZ3
import Derived.Lib.Hide
import Derived.Outline
import Derived.WalkLawsBesides
import Derived.Deep.QuietTactic
import Derived.BigQuiet
import Derived.StillTailTactics
import Derived.OwnWalk
import Derived.IntWalk

namespace Go.Proofs.YtgldkfaiofkhbaaDoor.Law16
open Go Go.RowKit Go.Proofs.YtgldkfaiofkhbaaDoor Go.Proofs.YtgldkfaiofkhbaaDoor.Mem Go.Proofs.YtgldkfaiofkhbaaDoor.Sha Go.Proofs.YtgldkfaiofkhbaaDoor.Bytes

def Roomy (w : World) (g : Nat) (q : Text) : Prop := Tab w g 5 (q.length + 100) (fun j => if j < q.length then cell8 (q.getD j 0) else .int .u8 165)
theorem Roomy.reads {w : World} {g : Nat} {q : Text} (h : Roomy w g q) : Reads w 1 (some ⟨g, 0, none⟩) q.length (cells8 q) :=
  ⟨by rw [cells8_len, Nat.mul_one], fun _ => ⟨g, 0, rfl, h.lt, fun j u hu => by
    have hj : j < q.length := by
      have := (List.getElem?_eq_some_iff.1 hu).1
      rwa [cells8_len] at this
    rw [Nat.zero_add, h.cell (by omega), if_pos hj, ← hu, cells8_at q j hj]⟩⟩
theorem Roomy.kept {S : Nat → Prop} {w w' : World} {g : Nat} {q : Text} (h : Roomy w g q) (hk : Kept S w w') (hS : ¬ S g) : Roomy w' g q := Tab.kept h hk hS
theorem Roomy.below {B : Nat} {w w' : World} {g : Nat} {q : Text} (h : Roomy w g q) (hb : Below B w w') (hB : g < B) : Roomy w' g q := Tab.below' h hb hB
theorem Roomy.drewN {w : World} {g : Nat} {q : Text} (h : Roomy w g q) (n : Nat) : Roomy (w.drewN n) g q := h

end Go.Proofs.YtgldkfaiofkhbaaDoor.Law16

namespace Go.Proofs.YtgldkfaiofkhbaaDoor.Law16
open Go Go.RowKit Go.Proofs.YtgldkfaiofkhbaaDoor Go.Proofs.YtgldkfaiofkhbaaDoor.Mem Go.Proofs.YtgldkfaiofkhbaaDoor.Sha Go.Proofs.YtgldkfaiofkhbaaDoor.Bytes
end Go.Proofs.YtgldkfaiofkhbaaDoor.Law16

namespace Go.Proofs.YtgldkfaiofkhbaaDoor.Same17
open Go Go.RowKit Go.Proofs.YtgldkfaiofkhbaaDoor Go.Proofs.YtgldkfaiofkhbaaDoor.Mem Go.Proofs.YtgldkfaiofkhbaaDoor.Sha Go.Proofs.YtgldkfaiofkhbaaDoor.Bytes

theorem b8_inj {x y : BitVec 8} (h : b8 x = b8 y) : x = y := by
  unfold b8 at h
  exact BitVec.eq_of_toNat_eq (by omega)
theorem take_next {p q : Text} {i : Nat} (hp : i < p.length) (hq : i < q.length) (h : p.take i = q.take i) : (p.take (i + 1) = q.take (i + 1)) ↔ p.getD i 0 = q.getD i 0 := by
  have e1 : p[i]? = some (p.getD i 0) := by simp [List.getD, hp]
  have e2 : q[i]? = some (q.getD i 0) := by simp [List.getD, hq]
  rw [List.take_add_one, List.take_add_one, h, e1, e2]
  simp only [Option.toList_some, List.append_cancel_left_eq, List.cons.injEq, and_true]

end Go.Proofs.YtgldkfaiofkhbaaDoor.Same17

namespace Go.Proofs.YtgldkfaiofkhbaaDoor.Same8
open Go Go.RowKit Go.Proofs.YtgldkfaiofkhbaaDoor Go.Proofs.YtgldkfaiofkhbaaDoor.Mem Go.Proofs.YtgldkfaiofkhbaaDoor.Sha Go.Proofs.YtgldkfaiofkhbaaDoor.Bytes

theorem b8_inj {x y : BitVec 8} (h : b8 x = b8 y) : x = y := by
  unfold b8 at h
  exact BitVec.eq_of_toNat_eq (by omega)
theorem take_next {p q : Text} {i : Nat} (hp : i < p.length) (hq : i < q.length) (h : p.take i = q.take i) : (p.take (i + 1) = q.take (i + 1)) ↔ p.getD i 0 = q.getD i 0 := by
  have e1 : p[i]? = some (p.getD i 0) := by simp [List.getD, hp]
  have e2 : q[i]? = some (q.getD i 0) := by simp [List.getD, hq]
  rw [List.take_add_one, List.take_add_one, h, e1, e2]
  simp only [Option.toList_some, List.append_cancel_left_eq, List.cons.injEq, and_true]

set_option maxRecDepth 100000 in
set_option maxHeartbeats 600000 in
theorem same8_len (n m : Nat) (h : n ≠ m) (A B : Option Addr) (c d : Nat) (w : World) :
    Calls Tryd.prog 36 #[.slice A n c, .slice B m d] w fun e w' => e = .returned (.bool false) ∧ w = w' := by
  have y1 : ((n : Int) == (m : Int)) = false := beq_eq_false_iff_ne.2 (by omega)
  have y2 : ¬ ((n : Int) = (m : Int)) := by omega
  clear h
  go_enter Tryd.func36, Tryd.ntmps36
  go_wp2_with fail
  go_ret
  exact ⟨rfl, rfl⟩

set_option maxRecDepth 100000 in
set_option maxHeartbeats 600000 in
theorem same8_eqlen (p q : Text) (k : Nat) (hp : p.length = k) (hq : q.length = k) (hk63 : k < 9223372036854775807) (A B : Option Addr) (c d : Nat) (w : World) (ha : Reads w 1 A k (cells8 p)) (hb : Reads w 1 B k (cells8 q)) :
    Calls Tryd.prog 36 #[.slice A k c, .slice B k d] w fun e w' => e = .returned (.bool (decide (p = q))) ∧ ∃ n, w' = w.drewN n := by
  replace ha := Lib.hid ha
  replace hb := Lib.hid hb
  replace hp := Lib.hid hp
  replace hq := Lib.hid hq
  replace hk63 := Lib.hid hk63
  obtain ⟨R, hR⟩ : ∃ R, Hid (decide (p = q) = R) := ⟨_, Lib.hid rfl⟩
  rw [hR.out]
  have y1 : ((k : Int) == (k : Int)) = true := beq_self_eq_true _
  go_enter Tryd.func36, Tryd.ntmps36
  go_wp2_with fail
  clear y1
  go_loopw [5] (fun v wr => ∃ i n : Nat, v = .int .i64 (i : Int) ∧ i ≤ k ∧ Hid (p.take i = q.take i) ∧ wr = w.drewN n) (fun v _ => k - (intOf v).toNat)
  case atStart => exact ⟨0, 0, rfl, by omega, rfl, rfl⟩
  case round =>
    obtain ⟨i, n, rfl, hi, ht, rfl⟩ := hrel
    have hil : (i : Int) < 9223372036854775807 := by have := hk63.out; omega
    by_cases hlt : i < k
    · have hz : (i : Int) < (k : Int) := by omega
      have hz0 : (0 : Int) ≤ (i : Int) := by omega
      obtain ⟨b1, o1, rfl, _, h1⟩ := ha.out.2 (by omega)
      obtain ⟨b2, o2, rfl, _, h2⟩ := hb.out.2 (by omega)
      have hcp := cells8_at p i (by rw [hp.out]; exact hlt)
      have hcq := cells8_at q i (by rw [hq.out]; exact hlt)
      unfold cell8 at hcp hcq
      have htn := take_next (p := p) (q := q) (i := i) (by rw [hp.out]; exact hlt) (by rw [hq.out]; exact hlt) ht.out
      generalize p.getD i 0 = x at *
      generalize q.getD i 0 = y at *
      have c1 : w.cell? ⟨b1, o1 + i, none⟩ = some (.int .u8 (b8 x)) := h1 i _ hcp
      have c2 : w.cell? ⟨b2, o2 + i, none⟩ = some (.int .u8 (b8 y)) := h2 i _ hcq
      clear h1 h2 hcp hcq
      by_cases hxy : x = y
      · subst hxy
        have ht2 : Hid (p.take (i + 1) = q.take (i + 1)) := htn.2 rfl
        clear htn ht
        go_wp2_with fail
        go_quiet (fail)
        go_wp2_with fail
        go_roundw
        case rel => exact ⟨i + 1, _, by go_num, by omega, ht2.out, rfl⟩
        case measure => simp [intOf]; omega
      · have z1 : (b8 x == b8 y) = false := beq_eq_false_iff_ne.2 (fun e => hxy (b8_inj e))
        have z2 : (b8 x != b8 y) = true := by rw [bne, z1]; rfl
        have z3 : ¬ b8 x = b8 y := fun e => hxy (b8_inj e)
        have hne : Hid (R = false) := by
          show R = false
          rw [← hR.out]
          exact decide_eq_false (fun e => hxy (htn.1 (by rw [e])))
        clear htn ht hxy
        go_wp2_with fail
        go_quiet (fail)
        go_wp2_with fail
        go_ret
        exact ⟨by rw [hne.out]; rfl, n + nq, World.drewN_drewN _ _ _⟩
    · have hz : (k : Int) ≤ (i : Int) := by omega
      have hye : Hid (R = true) := by
        show R = true
        rw [← hR.out]
        have h := ht.out
        rw [List.take_of_length_le (by rw [hp.out]; omega), List.take_of_length_le (by rw [hq.out]; omega)] at h
        exact decide_eq_true h
      clear ht
      go_wp2_with fail
      go_ret
      exact ⟨by rw [hye.out]; rfl, n, rfl⟩

theorem same8_any (p q : Text) (n m : Nat) (hp : p.length = n) (hq : q.length = m) (hk63 : n < 9223372036854775807) (A B : Option Addr) (c d : Nat) (w : World) (ha : Reads w 1 A n (cells8 p)) (hb : Reads w 1 B m (cells8 q)) :
    Calls Tryd.prog 36 #[.slice A n c, .slice B m d] w fun e w' => e = .returned (.bool (decide (p = q))) ∧ ∃ n, w' = w.drewN n := by
  by_cases h : n = m
  · subst h
    exact same8_eqlen p q n hp hq hk63 A B c d w ha hb
  · refine (same8_len n m h A B c d w).mono ?_
    rintro e w' ⟨rfl, rfl⟩
    exact ⟨by rw [decide_eq_false (fun e => h (by rw [← hp, ← hq, e]))], 0, rfl⟩
end Go.Proofs.YtgldkfaiofkhbaaDoor.Same8

namespace Go.Proofs.YtgldkfaiofkhbaaDoor.Book8
open Go Go.RowKit Go.Proofs.YtgldkfaiofkhbaaDoor Go.Proofs.YtgldkfaiofkhbaaDoor.Mem Go.Proofs.YtgldkfaiofkhbaaDoor.Sha Go.Proofs.YtgldkfaiofkhbaaDoor.Bytes Go.Proofs.YtgldkfaiofkhbaaDoor.Law16 Go.Proofs.YtgldkfaiofkhbaaDoor.Same8

/-- A text with 80 marks behind it. -/
def RoomB (w : World) (g : Nat) (q : Text) (mk : BitVec 8) : Prop := Tab w g 5 (q.length + 80) (fun j => if j < q.length then cell8 (q.getD j 0) else cell8 mk)
theorem RoomB.reads {w : World} {g : Nat} {q : Text} {mk : BitVec 8} (h : RoomB w g q mk) : Reads w 1 (some ⟨g, 0, none⟩) q.length (cells8 q) :=
  ⟨by rw [cells8_len, Nat.mul_one], fun _ => ⟨g, 0, rfl, h.lt, fun j u hu => by
    have hj : j < q.length := by
      have := (List.getElem?_eq_some_iff.1 hu).1
      rwa [cells8_len] at this
    rw [Nat.zero_add, h.cell (by omega), if_pos hj, ← hu, cells8_at q j hj]⟩⟩
theorem RoomB.below {B : Nat} {w w' : World} {g : Nat} {q : Text} {mk : BitVec 8} (h : RoomB w g q mk) (hb : Below B w w') (hB : g < B) : RoomB w' g q mk := Tab.below' h hb hB
theorem RoomB.drewN {w : World} {g : Nat} {q : Text} {mk : BitVec 8} (h : RoomB w g q mk) (n : Nat) : RoomB (w.drewN n) g q mk := h

end Go.Proofs.YtgldkfaiofkhbaaDoor.Book8
