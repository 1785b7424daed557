/-
  The helpers of docketlaw17: few, stranger, sameInclusions, right; proof.EncodeInclusion at any numbers.
-/
import Derived.Test.YtngieimjlkpkaaaReadIncl2
import Derived.Test.YtngieimjlkpkaaaBook2
import Derived.Test.YtngieimjlkpkaaaBook8
import Derived.WalkSpells
namespace Go.Proofs.Ytngieimjlkpkaaa.Law17a
open Go Go.RowKit Go.Proofs.Ytngieimjlkpkaaa Go.Proofs.Ytngieimjlkpkaaa.Mem Go.Proofs.Ytngieimjlkpkaaa.Sha Go.Proofs.Ytngieimjlkpkaaa.Bytes Go.Proofs.Ytngieimjlkpkaaa.TreeMath Go.Proofs.Ytngieimjlkpkaaa.Sides Go.Proofs.Ytngieimjlkpkaaa.TreeMem Go.Proofs.Ytngieimjlkpkaaa.TreeRoot Go.Proofs.Ytngieimjlkpkaaa.Held Go.Proofs.Ytngieimjlkpkaaa.Own Go.Proofs.Ytngieimjlkpkaaa.ProofBeside Go.Proofs.Ytngieimjlkpkaaa.ProofEnc Go.Proofs.Ytngieimjlkpkaaa.Beside17 Go.Proofs.Ytngieimjlkpkaaa.Ref17 Go.Proofs.Ytngieimjlkpkaaa.Ref17b Go.Proofs.Ytngieimjlkpkaaa.DecIncl Go.Proofs.Ytngieimjlkpkaaa.DecIncl2 Go.Proofs.Ytngieimjlkpkaaa.ReadIncl Go.Proofs.Ytngieimjlkpkaaa.ReadIncl2 Go.Proofs.Ytngieimjlkpkaaa.Book Go.Proofs.Ytngieimjlkpkaaa.Book2 Go.Proofs.Ytngieimjlkpkaaa.Same8 Go.Proofs.Ytngieimjlkpkaaa.Book8

def mk0 : Text := [165, 90, 165] ++ List.replicate 29 0
theorem mk0_len : mk0.length = 32 := rfl
set_option maxRecDepth 100000 in
set_option maxHeartbeats 1000000 in
theorem stranger17_any (w : World) : Calls Try.prog 15 #[] w fun e w' => e = .returned (.agg (cells8 mk0).toArray) ∧ Below w.heap.size w w' := by
  have hB0 : Hid (Blk (w.alloc (.cells Z32 28)) w.heap.size 28 Z32) := Blk.new w _ _
  have hb0 : Hid (Below w.heap.size w (w.alloc (.cells Z32 28))) := Below.heap_below w _
  have F := Lib.hid (fit (x := mk0) mk0_len)
  go_enter Try.func15, Try.ntmps15
  go_wp2_with ((with_reducible change wpList _ _ _ ({ dst := none, op := Op.store 28 _ _, type := _, pos := _, after := _, guard := _ } :: _) _ _); refine wpList_store_row (o := ⟨none, _, _, _, _, _⟩) rfl 28 (.tmp 0) (.tmp 1) rfl w.heap.size (cells8 mk0).toArray rfl rfl 28 Z32 hB0.out F.out.size F.out.zero F.out.one ?_)
  refine bodyPost_ret (results_cell_row rfl _ _ w.heap.size 28 (cells8 mk0).toArray (0, 0) _ rfl (setRow_heap _ _ _ _ _ _ hB0.out) Try.underlying28 rfl F.out.size) rfl ?_
  exact ⟨rfl, below_setRow hb0.out (Nat.le_refl _) _⟩
set_option maxRecDepth 100000 in
theorem few17_yes (A : Option Addr) (n c : Nat) (hn : n ≤ 300) (w : World) :
    Calls Try.prog 13 #[.slice A n c, .int .i64 300] w fun e w' => e = .returned (.slice A n c) ∧ w = w' := by
  have h1 : (n : Int) ≤ 300 := by omega
  go_enter Try.func13, Try.ntmps13
  go_wp2_with fail
  go_ret
  exact ⟨rfl, rfl⟩
set_option maxRecDepth 100000 in
theorem few17_no (A : Option Addr) (n c : Nat) (hn : 300 < n) (hc : n ≤ c) (w : World) :
    Calls Try.prog 13 #[.slice A n c, .int .i64 300] w fun e w' => e = .returned (.slice A 300 c) ∧ w = w' := by
  have h1 : (300 : Int) < (n : Int) := by omega
  have X := run_headD (A := A) (n := n) (c := c) (k := 300) (by omega) 300 rfl
  go_enter Try.func13, Try.ntmps13
  go_wp2_with fail
  go_ret
  exact ⟨rfl, rfl⟩
theorem few17_any (A : Option Addr) (n c : Nat) (hc : n ≤ c) (w : World) :
    Calls Try.prog 13 #[.slice A n c, .int .i64 300] w fun e w' => e = .returned (.slice A (min n 300) c) ∧ w = w' := by
  by_cases h : n ≤ 300
  · rw [Nat.min_eq_left h]
    exact few17_yes A n c h w
  · rw [Nat.min_eq_right (by omega)]
    exact few17_no A n c (by omega) hc w

set_option maxRecDepth 100000 in
set_option maxHeartbeats 1000000 in
theorem sameIncl_yes (x y : Int) (l : List Text) (n : Nat) (hn : n < 140737488355328) (A B : Option Addr) (c d : Nat) (w : World) (ha : RdD w A n l) (hb : RdD w B n l) :
    Calls Try.prog 45 #[.agg (inclCells x y A n c), .agg (inclCells x y B n d)] w fun e w' => e = .returned (.bool true) ∧ Below w.heap.size w w' := by
  unfold inclCells
  have hb2 : Hid (Below w.heap.size w ((w.alloc (.cells #[.int .i64 x, .int .i64 y, .slice A n c] 34)).alloc (.cells #[.int .i64 x, .int .i64 y, .slice B n d] 34))) := (Below.heap_below w _).alloc (by simp) _
  have hS : Hid (∀ w', Below w.heap.size w w' → Calls Try.prog 41 #[.slice A n c, .slice B n d] w' fun e w'' => e = .returned (.bool true) ∧ Below w'.heap.size w' w'') := fun w' h => by
    have := sameD_any n n hn l l A B c d w' (ha.below h) (hb.below h)
    rw [decide_eq_true rfl] at this
    exact this
  have y1 : (x == x) = true := beq_self_eq_true _
  have y2 : (y == y) = true := beq_self_eq_true _
  clear ha hb hn
  go_enter Try.func45, Try.ntmps45
  go_wp2_with (go_at_call 41; refine (hS.out _ hb2.out).mono ?_; rintro e w3 ⟨rfl, hk⟩; have hb3 : Hid (Below w.heap.size w w3) := hb2.out.trans (hk.mono hb2.out.size); clear hk)
  go_ret
  exact ⟨rfl, hb3.out⟩

theorem encIncl_any (x1 x2 : Int) (l : List Text) (A : Option Addr) (n c : Nat) (w : World) (hr : RdD w A n l) :
    Calls Try.prog 9 #[.agg (inclCells x1 x2 A n c)] w fun e w' => ∃ A4 c4 b err, e = .returned (.tuple #[.slice A4 b.length c4, .int .i64 err]) ∧ Reads w' 1 A4 b.length (cells8 b) ∧ ((inclWant x1 x2 l = some b ∧ err = 0) ∨ (inclWant x1 x2 l = none ∧ b = [] ∧ err = 170)) ∧ Below w.heap.size w w' := by
  have hno : ∀ w', Below w.heap.size w w' → inclWant x1 x2 l = none → ∃ (A4 : Option Addr) (c4 : Nat) (b : Text) (err : Int), Ending.returned (.tuple #[.slice none 0 0, .int .i64 170]) = Ending.returned (.tuple #[.slice A4 b.length c4, .int .i64 err]) ∧ Reads w' 1 A4 b.length (cells8 b) ∧ ((inclWant x1 x2 l = some b ∧ err = 0) ∨ (inclWant x1 x2 l = none ∧ b = [] ∧ err = 170)) ∧ Below w.heap.size w w' := fun w' hb h => ⟨none, 0, [], 170, rfl, Reads.nil_ _ _ _, .inr ⟨h, rfl, rfl⟩, hb⟩
  cases hin : insideB x1 x2 with
  | false =>
    refine (encodeInclusion_out x1 x2 A n c w hin).mono ?_
    rintro e w' ⟨rfl, hb⟩
    refine hno w' hb ?_
    unfold inclWant
    rw [if_neg (fun h => by rw [hin] at h; exact absurd h.1 (by decide))]
  | true =>
    have hin2 := hin
    simp only [insideB, Bool.and_eq_true, decide_eq_true_eq] at hin2
    obtain ⟨sz, rfl⟩ := Int.eq_ofNat_of_zero_le (show 0 ≤ x1 by omega)
    obtain ⟨j, rfl⟩ := Int.eq_ofNat_of_zero_le hin2.1.2
    by_cases hs : besideOf sz j = n
    · refine (encodeInclusion_yes sz j (by omega) (by omega) l n hr.1 hr.2.1 A c w hr.2.2 (fun a h0 e => ?_) hs).mono ?_
      · obtain ⟨b, o, e', hlt, -⟩ := hr.2.2.2 (by omega)
        rw [e] at e'
        obtain rfl := Option.some.inj e'
        exact hlt
      rintro e w' ⟨v, rfl, hb, ho⟩
      obtain ⟨A4, c4, rfl, hc4, hn4, hr4, -⟩ := own_reads ho
      have hbl : (inclBytes sz j l).length = 17 + 32 * n := by rw [inclBytes_len _ _ _ hr.2.1, hr.1]
      refine ⟨A4, c4, inclBytes sz j l, 0, by rw [hbl], by rw [hbl]; exact hr4, .inl ⟨?_, rfl⟩, hb⟩
      unfold inclWant
      rw [Int.toNat_natCast, Int.toNat_natCast, if_pos ⟨hin, by rw [← beside_sides (by omega), hs, hr.1]⟩]
    · refine (encodeInclusion_no sz j (by omega) (by omega) A n c w hs).mono ?_
      rintro e w' ⟨rfl, hb⟩
      refine hno w' hb ?_
      unfold inclWant
      rw [Int.toNat_natCast, Int.toNat_natCast, if_neg (fun h => hs (by rw [beside_sides (by omega), h.2, hr.1]))]

set_option maxRecDepth 100000 in
theorem right_none (A : Option Addr) (c : Nat) (w : World) :
    Calls Try.prog 17 #[.slice A 0 c, .int .i64 170, .slice none 0 0] w fun e w' => e = .returned (.bool true) ∧ Below w.heap.size w w' := by
  have X := fun w' => Lib.run_eql_slice_nil (P := Try.prog) w' 23 5 none 0 0 0 0 Try.underlying23
  go_enter Try.func17, Try.ntmps17
  go_wp2_with fail
  go_ret
  exact ⟨rfl, Below.refl _ _⟩
set_option maxRecDepth 100000 in
theorem right_some (b : Text) (n : Nat) (hn : b.length = n) (hb : n < 9223372036854775807) (A : Option Addr) (c : Nat) (a : Addr) (d : Nat) (w : World) (h1 : Reads w 1 A n (cells8 b)) (h2 : Reads w 1 (some a) n (cells8 b)) :
    Calls Try.prog 17 #[.slice A n c, .int .i64 0, .slice (some a) n d] w fun e w' => e = .returned (.bool true) ∧ Below w.heap.size w w' := by
  have X := fun w' => Lib.run_eql_slice_nil (P := Try.prog) w' 23 5 (some a) n d 0 0 Try.underlying23
  have hS : Hid (Calls Try.prog 40 #[.slice A n c, .slice (some a) n d] w fun e w' => e = .returned (.bool true) ∧ ∃ k, w' = w.drewN k) := by
    have := same8_any b b n n hn hn hb A (some a) c d w h1 h2
    rw [decide_eq_true rfl] at this
    exact this
  clear hn hb h1 h2
  go_enter Try.func17, Try.ntmps17
  go_wp2_with (go_at_call 40; refine hS.out.mono ?_; rintro e w3 ⟨rfl, k, rfl⟩)
  go_ret
  exact ⟨rfl, below_drawn (Below.refl _ _) k⟩
end Go.Proofs.Ytngieimjlkpkaaa.Law17a
