/-
  Texts of the claim, put into one file: RefLess, Law16m, Law16.
-/
import Derived.Test.YtfbhjoejffagjaaGreatDoorZ0
import Derived.Test.YtfbhjoejffagjaaGreatDoorZ4
import Derived.Lib.Hide
import Derived.Outline
import Derived.WalkLawsBesides
import Derived.Deep.QuietTactic
import Derived.BigQuiet
import Derived.StillTailTactics
import Derived.OwnWalk
import Derived.IntWalk

namespace Go.Proofs.YtfbhjoejffagjaaGreatDoor.RefLess
open Go Go.RowKit Go.Proofs.YtfbhjoejffagjaaGreatDoor Mem Sha Bytes SortP

theorem b8_lt (x y : BitVec 8) : (b8 x < b8 y) ↔ x.toNat < y.toNat := by unfold b8; omega
theorem b8_inj {x y : BitVec 8} (h : b8 x = b8 y) : x = y := BitVec.eq_of_toNat_eq (by unfold b8 at h; omega)
set_option maxRecDepth 100000 in
set_option maxHeartbeats 1000000 in
theorem less_any (a b : Text) (ha : a.length = 32) (hb : b.length = 32) (W : World) :
  Calls Tryz.prog 77 #[.agg (cells8 a).toArray, .agg (cells8 b).toArray] W fun e w' => e = .returned (.bool (lex a b)) ∧ Below W.heap.size W w' := by
 have hB1 : Blk ((W.alloc (.cells (cells8 a).toArray 34)).alloc (.cells (cells8 b).toArray 34)) W.heap.size 34 (cells8 a).toArray := (Blk.new W _ _).alloc _
 have hB2 : Blk ((W.alloc (.cells (cells8 a).toArray 34)).alloc (.cells (cells8 b).toArray 34)) (W.heap.size + 1) 34 (cells8 b).toArray := by
  have := Blk.new (W.alloc (.cells (cells8 a).toArray 34)) 34 (cells8 b).toArray
  rwa [show (W.alloc (.cells (cells8 a).toArray 34)).heap.size = W.heap.size + 1 by simp] at this
 have hbw : Hid (Below W.heap.size W ((W.alloc (.cells (cells8 a).toArray 34)).alloc (.cells (cells8 b).toArray 34))) := ((Below.refl _ W).alloc (Nat.le_refl _) _).alloc (by simp) _
 have hC1 : Hid (∀ i, i < 32 → ((W.alloc (.cells (cells8 a).toArray 34)).alloc (.cells (cells8 b).toArray 34)).cell? ⟨W.heap.size, i, none⟩ = some (.int .u8 (b8 (a.getD i 0)))) := fun i hi => by
  rw [hB1.cell i, List.getElem?_toArray]; exact cells8_at a i (by omega)
 have hC2 : Hid (∀ i, i < 32 → ((W.alloc (.cells (cells8 a).toArray 34)).alloc (.cells (cells8 b).toArray 34)).cell? ⟨W.heap.size + 1, i, none⟩ = some (.int .u8 (b8 (b.getD i 0)))) := fun i hi => by
  rw [hB2.cell i, List.getElem?_toArray]; exact cells8_at b i (by omega)
 obtain ⟨ans, hans⟩ : ∃ x, Hid (lex a b = x) := ⟨_, Lib.hid rfl⟩
 rw [hans.out]
 replace ha := Lib.hid ha
 replace hb := Lib.hid hb
 clear hB1 hB2
 go_enter Tryz.func77, Tryz.ntmps77
 go_wp2_with fail
 obtain ⟨w1, hw1⟩ : ∃ w1, Hid ((W.alloc (.cells (cells8 a).toArray 34)).alloc (.cells (cells8 b).toArray 34) = w1) := ⟨_, Lib.hid rfl⟩
 rw [hw1.out] at hC1 hC2 hbw
 simp only [hw1.out]
 go_loopw [5] (fun v wr => ∃ i n : Nat, v = .int .i64 (i : Int) ∧ i ≤ 32 ∧ wr = w1.drewN n ∧ Hid (a.take i = b.take i)) (fun v _ => 32 - (intOf v).toNat)
 case atStart => exact ⟨0, 0, rfl, by omega, rfl, rfl⟩
 case round =>
  obtain ⟨i, n, rfl, hi, rfl, hpre⟩ := hrel
  by_cases hlt : i < 32
  ·have hz : (i : Int) < 32 := by omega
   have hz0 : (0 : Int) ≤ (i : Int) := by omega
   have c1 := hC1.out i hlt
   have c2 := hC2.out i hlt
   have ea : Hid (a[i]? = some (a.getD i 0)) := by show _ = _; simp [List.getD, ha.out, hlt]
   have eb : Hid (b[i]? = some (b.getD i 0)) := by show _ = _; simp [List.getD, hb.out, hlt]
   generalize a.getD i 0 = x at *
   generalize b.getD i 0 = y at *
   by_cases hxy : x = y
   ·subst hxy
    have hnx : Hid (a.take (i + 1) = b.take (i + 1)) := by show _ = _; rw [List.take_add_one, List.take_add_one, hpre.out, ea.out, eb.out]
    clear hpre
    go_wp2_with fail
    go_quiet (fail)
    go_wp2_with fail
    go_roundw
    case rel => exact ⟨i + 1, _, by go_num, by omega, rfl, hnx.out⟩
    case measure => simp [intOf]; omega
   ·have hne : ¬ (b8 x = b8 y) := fun h => hxy (b8_inj h)
    have hres : Hid (ans = decide (b8 x < b8 y)) := by
     show _ = _
     rw [← hans.out, lex_at a b i x y hpre.out ea.out eb.out hxy]
     exact decide_eq_decide.2 (b8_lt x y).symm
    generalize b8 x = x' at *
    generalize b8 y = y' at *
    clear hpre ea eb hxy
    go_wp2_with fail
    go_quiet (fail)
    go_wp2_with fail
    go_quiet (fail)
    go_wp2_with fail
    go_ret
    exact ⟨by rw [hres.out]; rfl, below_drawn (below_drawn (below_drawn hbw.out _) _) _⟩
  ·have hz : ¬ ((i : Int) < 32) := by omega
   have hres : Hid (ans = false) := by
    show _ = _
    have e : a = b := by
     have h := hpre.out
     rw [List.take_of_length_le (by rw [ha.out]; omega), List.take_of_length_le (by rw [hb.out]; omega)] at h
     exact h
    rw [← hans.out, e, lex_irrefl]
   clear hpre
   go_wp2_with fail
   go_ret
   exact ⟨by rw [hres.out]; rfl, below_drawn hbw.out _⟩
end Go.Proofs.YtfbhjoejffagjaaGreatDoor.RefLess

namespace Go.Proofs.YtfbhjoejffagjaaGreatDoor.Law16
open Go Go.RowKit Go.Proofs.YtfbhjoejffagjaaGreatDoor Mem Sha Bytes

def Roomy (w : World) (g : Nat) (q : Text) : Prop := Tab w g 5 (q.length + 100) (fun j => if j < q.length then cell8 (q.getD j 0) else .int .u8 165)
theorem Roomy.reads {w : World} {g : Nat} {q : Text} (h : Roomy w g q) : Reads w 1 (some ⟨g, 0, none⟩) q.length (cells8 q) :=
 ⟨by rw [cells8_len, Nat.mul_one], fun _ => ⟨g, 0, rfl, h.lt, fun j u hu => by
  have hj : j < q.length := by
   have := (List.getElem?_eq_some_iff.1 hu).1
   rwa [cells8_len] at this
  rw [Nat.zero_add, h.cell (by omega), if_pos hj, ← hu, cells8_at q j hj]⟩⟩
theorem Roomy.kept {S : Nat → Prop} {w w' : World} {g : Nat} {q : Text} (h : Roomy w g q) (hk : Kept S w w') (hS : ¬ S g) : Roomy w' g q := Tab.kept h hk hS
theorem Roomy.below {B : Nat} {w w' : World} {g : Nat} {q : Text} (h : Roomy w g q) (hb : Below B w w') (hB : g < B) : Roomy w' g q := Tab.below' h hb hB
theorem Roomy.drewN {w : World} {g : Nat} {q : Text} (h : Roomy w g q) (n : Nat) : Roomy (w.drewN n) g q := h

end Go.Proofs.YtfbhjoejffagjaaGreatDoor.Law16

namespace Go.Proofs.YtfbhjoejffagjaaGreatDoor.Law16
open Go Go.RowKit Go.Proofs.YtfbhjoejffagjaaGreatDoor Mem Sha Bytes
set_option maxRecDepth 100000 in
set_option maxHeartbeats 600000 in
theorem same_any (q : Text) (k : Nat) (hk : q.length = k) (hk63 : k < 140737488355428) (A B : Option Addr) (c d : Nat) (w : World) (ha : Reads w 1 A k (cells8 q)) (hb : Reads w 1 B k (cells8 q)) :
  Calls Tryz.prog 18 #[.slice A k c, .slice B k d] w fun e w' => e = .returned (.bool true) ∧ ∃ n, w' = w.drewN n := by
 replace ha := Lib.hid ha
 replace hb := Lib.hid hb
 replace hk := Lib.hid hk
 replace hk63 := Lib.hid hk63
 go_enter Tryz.func18, Tryz.ntmps18
 go_wp2_with fail
 go_loopw [5] (fun v wr => ∃ i n : Nat, v = .int .i64 (i : Int) ∧ i ≤ k ∧ wr = w.drewN n) (fun v _ => k - (intOf v).toNat)
 case atStart => exact ⟨0, 0, rfl, by omega, rfl⟩
 case round =>
  obtain ⟨i, n, rfl, hi, rfl⟩ := hrel
  have hil : (i : Int) < 9223372036854775807 := by have := hk63.out; omega
  by_cases hlt : i < k
  ·have hz : (i : Int) < (k : Int) := by omega
   have hz0 : (0 : Int) ≤ (i : Int) := by omega
   obtain ⟨b1, o1, rfl, _, h1⟩ := ha.out.2 (by omega)
   obtain ⟨b2, o2, rfl, _, h2⟩ := hb.out.2 (by omega)
   have hci := cells8_at q i (by rw [hk.out]; exact hlt)
   unfold cell8 at hci
   generalize q.getD i 0 = y at *
   have c1 : w.cell? ⟨b1, o1 + i, none⟩ = some (.int .u8 (b8 y)) := h1 i _ hci
   have c2 : w.cell? ⟨b2, o2 + i, none⟩ = some (.int .u8 (b8 y)) := h2 i _ hci
   clear h1 h2 hci
   go_wp2_with fail
   go_quiet (fail)
   go_wp2_with fail
   go_roundw
   case rel => exact ⟨i + 1, _, by go_num, by omega, rfl⟩
   case measure => simp [intOf]; omega
  ·have hz : (k : Int) ≤ (i : Int) := by omega
   go_wp2_with fail
   go_ret
   exact ⟨rfl, n, rfl⟩

set_option maxRecDepth 100000 in
set_option maxHeartbeats 600000 in
theorem left_any (q : Text) (k : Nat) (hk : q.length = k) (hk47 : k < 140737488355328) (g : Nat) (A : Option Addr) (c : Nat) (w : World) (hg : Roomy w g q) (ha : Reads w 1 A k (cells8 q)) :
  Calls Tryz.prog 9 #[.slice (some ⟨g, 0, none⟩) k (k + 100), .slice A k c] w fun e w' => e = .returned (.bool true) ∧ ∃ n, w' = w.drewN n := by
 have hr : Hid (Reads w 1 (some ⟨g, 0, none⟩) k (cells8 q)) := by have := hg.reads; rw [hk] at this; exact this
 replace ha := Lib.hid ha
 replace hg := Lib.hid hg
 replace hk := Lib.hid hk
 replace hk47 := Lib.hid hk47
 have x0 : IntKind.i64.wrap ((k : Int) + 100) = (k : Int) + 100 := by have := hk47.out; exact IntWalk.i64_in _ (by omega)
 have X : ∀ w', (Instr.sliceAt 31 (.slice (some ⟨g, 0, none⟩) k (k + 100)) none (some (.int .i64 ((k : Int) + 100))) none).run Tryz.prog w' = .ok (.slice (some ⟨g, 0, none⟩) (k + 100) (k + 100)) w' := run_headOf (m := k + 100) Tryz.underlying31 (fun _ => rfl) (Nat.le_refl _) _ (by omega)
 go_enter Tryz.func9, Tryz.ntmps9
 go_wp2_with (go_at_call 18; refine (same_any q k hk.out (by have := hk47.out; omega) (some ⟨g, 0, none⟩) A (k + 100) c w hr.out ha.out).mono ?_; rintro e w1 ⟨rfl, n1, rfl⟩)
 clear X
 go_loopw [6] (fun v wr => ∃ i n : Nat, v = .int .i64 (i : Int) ∧ Hid (k ≤ i ∧ i ≤ k + 100) ∧ wr = w.drewN n) (fun v _ => k + 100 - (intOf v).toNat)
 case atStart => exact ⟨k, n1, rfl, ⟨Nat.le_refl _, by omega⟩, rfl⟩
 case round =>
  obtain ⟨i, n, rfl, hi, rfl⟩ := hrel
  by_cases hlt : i < k + 100
  ·have hil : (i : Int) < 9223372036854775807 := by have := hk47.out; have := hi.out; omega
   have hz : (i : Int) < (k : Int) + 100 := by omega
   have hzn : Hid (i < k + 100) := hlt
   have c0 : w.cell? ⟨g, i, none⟩ = some (.int .u8 165) := by
    have := hg.out.cell (j := i) (by rw [hk.out]; exact hlt)
    rw [this, if_neg (by rw [hk.out]; have := hi.out; omega)]
   clear hlt
   go_wp2_with fail
   go_roundw
   case rel => exact ⟨i + 1, n, by go_num, by have := hi.out; have := hzn.out; show _ ∧ _; omega, rfl⟩
   case measure => have := hzn.out; simp [intOf]; omega
  ·have hz : (k : Int) + 100 ≤ (i : Int) := by omega
   clear hlt
   go_wp2_with fail
   go_ret
   exact ⟨rfl, n, rfl⟩

end Go.Proofs.YtfbhjoejffagjaaGreatDoor.Law16
