/-
  docketref17.ReadInclusion, the walk (printed by wip/gen_readincl2.py).
-/
import Derived.Test.YtngieimjlkpkaaaReadIncl
namespace Go.Proofs.Ytngieimjlkpkaaa.ReadIncl2
open Go Go.RowKit Go.Proofs.Ytngieimjlkpkaaa Go.Proofs.Ytngieimjlkpkaaa.Mem Go.Proofs.Ytngieimjlkpkaaa.Sha Go.Proofs.Ytngieimjlkpkaaa.Bytes Go.Proofs.Ytngieimjlkpkaaa.Append Go.Proofs.Ytngieimjlkpkaaa.Octet Go.Proofs.Ytngieimjlkpkaaa.TreeMath Go.Proofs.Ytngieimjlkpkaaa.Sides Go.Proofs.Ytngieimjlkpkaaa.TreeMem Go.Proofs.Ytngieimjlkpkaaa.TreeRoot Go.Proofs.Ytngieimjlkpkaaa.Held Go.Proofs.Ytngieimjlkpkaaa.Own Go.Proofs.Ytngieimjlkpkaaa.Reader Go.Proofs.Ytngieimjlkpkaaa.Reader4 Go.Proofs.Ytngieimjlkpkaaa.ProofBeside Go.Proofs.Ytngieimjlkpkaaa.ProofEnc Go.Proofs.Ytngieimjlkpkaaa.Beside17 Go.Proofs.Ytngieimjlkpkaaa.Ref17 Go.Proofs.Ytngieimjlkpkaaa.Ref17b Go.Proofs.Ytngieimjlkpkaaa.DecIncl Go.Proofs.Ytngieimjlkpkaaa.DecIncl2 Go.Proofs.Ytngieimjlkpkaaa.Bytes17 Go.Proofs.Ytngieimjlkpkaaa.Way17 Go.Proofs.Ytngieimjlkpkaaa.Same17 Go.Proofs.Ytngieimjlkpkaaa.Guard Go.Proofs.Ytngieimjlkpkaaa.ReadIncl

/-- The document's Inclusion at any numbers and any digests. -/
theorem refincl17_any (x1 x2 : Int) (l : List Text) (A : Option Addr) (n c : Nat) (w : World) (hr : RdD w A n l) :
    Calls Try.prog 16 #[.agg (inclCells x1 x2 A n c)] w fun e w' => ∃ A4 c4 b, e = .returned (.slice A4 b.length c4) ∧ Reads w' 1 A4 b.length (cells8 b) ∧ (A4 = none → b.length = 0 ∧ c4 = 0) ∧ b.length ≤ c4 ∧ (inclWant x1 x2 l = some b ∨ (inclWant x1 x2 l = none ∧ A4 = none ∧ b = [])) ∧ Below w.heap.size w w' := by
  by_cases h : bsOf x1 x2 = (n : Int)
  · have hin : insideB x1 x2 = true := by
      unfold bsOf at h
      split at h
      · assumption
      · omega
    have hin2 := hin
    simp only [insideB, Bool.and_eq_true, decide_eq_true_eq] at hin2
    obtain ⟨sz, rfl⟩ := Int.eq_ofNat_of_zero_le (show 0 ≤ x1 by omega)
    obtain ⟨j, rfl⟩ := Int.eq_ofNat_of_zero_le hin2.1.2
    rw [bsOf_in hin, Int.toNat_natCast, Int.toNat_natCast] at h
    refine (refincl17_yes sz j (by omega) (by omega) l A n c w hr (by omega)).mono ?_
    rintro e w' ⟨v, rfl, ho, hb⟩
    obtain ⟨A4, c4, rfl, hc4, hn4, hr4, -⟩ := own_reads ho
    have hbl : (inclBytes sz j l).length = 17 + 32 * n := by rw [inclBytes_len _ _ _ hr.2.1, hr.1]
    refine ⟨A4, c4, inclBytes sz j l, by rw [hbl], by rw [hbl]; exact hr4, by rw [hbl]; exact hn4, by rw [hbl]; exact hc4, .inl ?_, hb⟩
    unfold inclWant
    rw [Int.toNat_natCast, Int.toNat_natCast, if_pos ⟨hin, by rw [hr.1]; omega⟩]
  · refine (refincl17_no x1 x2 A n c w h).mono ?_
    rintro e w' ⟨rfl, hb⟩
    refine ⟨none, 0, [], rfl, Reads.nil_ _ _ _, fun _ => ⟨rfl, rfl⟩, Nat.le_refl _, .inr ⟨?_, rfl, rfl⟩, hb⟩
    unfold inclWant
    rw [if_neg]
    rintro ⟨hin, hl⟩
    exact h (by rw [bsOf_in hin, hl, hr.1])

set_option maxRecDepth 100000 in
set_option maxHeartbeats 1000000 in
theorem read_long (q : Text) (k : Nat) (hk : q.length = k) (h9 : 9000 < k) (A : Option Addr) (c : Nat) (w : World) :
    Calls Try.prog 44 #[.slice A k c] w (APost w (decAns q)) := by
  rw [decAns_long (by omega)]
  have y1 : (9000 : Int) < (k : Int) := by omega
  have hB1 : Hid (Blk (w.alloc (.cells #[Value.int .i64 0, Value.int .i64 0, Value.slice none 0 0] 34)) w.heap.size 34 #[Value.int .i64 0, Value.int .i64 0, Value.slice none 0 0]) := Blk.new w _ _
  have hb1 : Hid (Below w.heap.size w (w.alloc (.cells #[Value.int .i64 0, Value.int .i64 0, Value.slice none 0 0] 34))) := Below.heap_below w _
  clear hk h9
  go_enter Try.func44, Try.ntmps44
  go_wp2_with ((with_reducible change wpList _ _ _ ({ dst := none, op := Op.store 34 _ _, type := _, pos := _, after := _, guard := _ } :: _) _ _); refine wpList_store_row (o := ⟨none, _, _, _, _, _⟩) rfl 34 (.tmp 2) (.tmp 9) rfl (w.heap.size) (#[Value.int .i64 0, Value.int .i64 0, Value.slice none 0 0]) rfl rfl 34 (#[Value.int .i64 0, Value.int .i64 0, Value.slice none 0 0]) hB1.out sizeI rfl (oneI _ _ _ _ _) ?_)
  refine bodyPost_ret (results_cell_row2 rfl _ _ w.heap.size 34 #[Value.int .i64 0, Value.int .i64 0, Value.slice none 0 0] (0, 0) _ rfl (setRow_heap _ _ _ _ _ _ hB1.out) Try.underlying34 rfl sizeI) rfl ?_
  exact ⟨none, 0, 0, rfl, RdD.nil_ _ _, fun _ => ⟨rfl, rfl⟩, Nat.le_refl _, by omega, below_setRow hb1.out (Nat.le_refl _) _⟩

set_option maxRecDepth 100000 in
set_option maxHeartbeats 4000000 in
theorem read_main (q : Text) (k : Nat) (hk : q.length = k) (h9 : ¬ 9000 < k) (A : Option Addr) (c : Nat) (hkc : k ≤ c) (w : World) (hr : Reads w 1 A k (cells8 q)) (hnil : A = none → k = 0 ∧ c = 0) :
    Calls Try.prog 44 #[.slice A k c] w (APost w (decAns q)) := by
  obtain ⟨X, hX⟩ : ∃ X, Hid (decAns q = X) := ⟨_, Lib.hid rfl⟩
  rw [hX.out]
  have y1 : decide ((9000 : Int) < (k : Int)) = false := decide_eq_false (by omega)
  have y2 : ¬ ((9000 : Int) < (k : Int)) := by omega
  have hz1 : (w.alloc (.cells #[Value.int .i64 0, Value.int .i64 0, Value.slice none 0 0] 34)).heap.size = w.heap.size + 1 := by simp
  have hRes2 : Hid (Blk ((w.alloc (.cells #[Value.int .i64 0, Value.int .i64 0, Value.slice none 0 0] 34)).alloc (.cells #[.slice A k c, .bool false] 103)) w.heap.size 34 #[Value.int .i64 0, Value.int .i64 0, Value.slice none 0 0]) := (Blk.new w _ _).alloc _
  have hb2 : Hid (Below w.heap.size w ((w.alloc (.cells #[Value.int .i64 0, Value.int .i64 0, Value.slice none 0 0] 34)).alloc (.cells #[.slice A k c, .bool false] 103))) := (Below.heap_below w _).alloc (by simp) _
  have hz2 : Hid (((w.alloc (.cells #[Value.int .i64 0, Value.int .i64 0, Value.slice none 0 0] 34)).alloc (.cells #[.slice A k c, .bool false] 103)).heap.size = w.heap.size + 2) := by show _ = _; simp
  have hQ2 : Hid (RB ((w.alloc (.cells #[Value.int .i64 0, Value.int .i64 0, Value.slice none 0 0] 34)).alloc (.cells #[.slice A k c, .bool false] 103)) (w.heap.size + 1) w.heap.size q false) := by
    refine ⟨Nat.le_succ _, A, c, ?_, by rw [hk]; exact (hr.alloc _).alloc _, by rw [hk]; exact hnil, fun h0 a e => ?_, by rw [hk]; exact hkc⟩
    · rw [hk, ← hz1]; exact Blk.new _ _ _
    · obtain ⟨b, o, e', hlt, -⟩ := hr.2 (by omega)
      rw [e] at e'
      obtain rfl := Option.some.inj e'
      exact hlt
  have hq47 : Hid (q.length < 140737488355328) := by show _ < _; omega
  have hqk : Hid (¬ 9000 < q.length) := by show ¬ _; omega
  have hkk := Lib.hid hk
  have hrr := Lib.hid hr
  clear hk h9 hkc hr hnil hz1
  go_enter Try.func44, Try.ntmps44
  go_wp2_with fail
  refine (next_any q hq47.out (w.heap.size + 1) w.heap.size 1 (by decide) false _ hQ2.out).mono ?_
  rintro e w3 ⟨A1, c1, r1, rfl, -, -, -, -, o5, o6, hk3, hz3⟩
  have hRQ3 : Hid (RQ w3 (w.heap.size + 1) w.heap.size q 1) := by
    show RQ _ _ _ _ _
    by_cases hle : 1 ≤ q.length
    · exact ⟨_, _, (o5 hle).2, fun _ => ⟨rfl, rfl⟩, fun h => absurd h (by omega), by rw [List.length_drop]; omega⟩
    · exact ⟨_, _, (o6 (by omega)).2, fun h => absurd h hle, fun _ => rfl, Nat.le_refl _⟩
  have hRes3 : Hid (Blk w3 w.heap.size 34 #[Value.int .i64 0, Value.int .i64 0, Value.slice none 0 0]) := hRes2.out.kept hk3 (by omega)
  have hb3 : Hid (Below w.heap.size w w3) := hb2.out.trans (Kept.below_of hk3 (by omega) (by have := hz2.out; omega))
  have hgp : Hid (w3.heap.size = w.heap.size + 2) := hz3.trans hz2.out
  have hRQ4 : Hid (RQ (w3.alloc (.cells #[Value.int .i64 0, Value.int .i64 0, Value.slice none 0 0] 34)) (w.heap.size + 1) w.heap.size q 1) := hRQ3.out.kept (S := fun _ => False) ((Kept.refl _ w3).alloc _) (fun h => h) (fun _ _ h => h)
  have hRes4 : Hid (Blk (w3.alloc (.cells #[Value.int .i64 0, Value.int .i64 0, Value.slice none 0 0] 34)) w.heap.size 34 #[Value.int .i64 0, Value.int .i64 0, Value.slice none 0 0]) := hRes3.out.alloc _
  have hP4 : Hid (Blk (w3.alloc (.cells #[Value.int .i64 0, Value.int .i64 0, Value.slice none 0 0] 34)) w3.heap.size 34 #[Value.int .i64 0, Value.int .i64 0, Value.slice none 0 0]) := Blk.new w3 _ _
  have hb4 : Hid (Below w.heap.size w (w3.alloc (.cells #[Value.int .i64 0, Value.int .i64 0, Value.slice none 0 0] 34))) := hb3.out.alloc hb3.out.size _
  clear o5 o6 hk3 hz3 hRQ3 hRes3 hb3 hRes2 hb2 hz2 hQ2
  go_wp2_with fail
  obtain ⟨p1, s1, n1, n2, n3, n4⟩ := hRQ4.out
  refine (number_any p1 (by have := hq47.out; omega) (w.heap.size + 1) w.heap.size 8 (by decide) s1 _ n1).mono ?_
  rintro e w5 ⟨x1, rfl, hN⟩
  obtain ⟨hRQ5, hx1⟩ := RQ.num n2 n3 n4 hN
  have hk5 := hN.2.2.1
  have hP5 : Hid (Blk w5 w3.heap.size 34 #[Value.int .i64 0, Value.int .i64 0, Value.slice none 0 0]) := hP4.out.kept hk5 (by have := hgp.out; omega)
  have hRes5 : Hid (Blk w5 w.heap.size 34 #[Value.int .i64 0, Value.int .i64 0, Value.slice none 0 0]) := hRes4.out.kept hk5 (by omega)
  have hb5 : Hid (Below w.heap.size w w5) := hb4.out.trans (Kept.below_of hk5 (by omega) hb4.out.size)
  have c5 : w5.cell? ⟨w3.heap.size, 0, none⟩ = some (.int .i64 0) := hP5.out.cell 0
  have f5 := hP5.out.frozen 0
  have hk6 : Kept (· = w3.heap.size) w5 (w5.setCell ⟨w3.heap.size, 0, none⟩ (.int .i64 x1)) := (Kept.refl (· = w3.heap.size) w5).setCell (.inl rfl) _
  have hP6 : Hid (Blk (w5.setCell ⟨w3.heap.size, 0, none⟩ (.int .i64 x1)) w3.heap.size 34 #[Value.int .i64 x1, Value.int .i64 0, Value.slice none 0 0]) := hP5.out.set_ 0 _
  have hRes6 : Hid (Blk (w5.setCell ⟨w3.heap.size, 0, none⟩ (.int .i64 x1)) w.heap.size 34 #[Value.int .i64 0, Value.int .i64 0, Value.slice none 0 0]) := hRes5.out.far (by have := hgp.out; show _ ≠ w3.heap.size; omega) _
  have hb6 : Hid (Below w.heap.size w (w5.setCell ⟨w3.heap.size, 0, none⟩ (.int .i64 x1))) := hb5.out.trans (Kept.below_of hk6 (by have := hgp.out; omega) hb5.out.size)
  have hRQ6 : Hid (RQ (w5.setCell ⟨w3.heap.size, 0, none⟩ (.int .i64 x1)) (w.heap.size + 1) w.heap.size q 9) := hRQ5.kept hk6 (by have := hgp.out; omega) (fun a ha h => by have := hgp.out; omega)
  clear hk6
  replace hx1 := Lib.hid hx1
  clear n1 n2 n3 n4 hN hk5 hRQ4 hP4 hRes4 hb4 hRQ5 hP5 hRes5 hb5
  go_wp2_with fail
  generalize w5.setCell ⟨w3.heap.size, 0, none⟩ (.int .i64 x1) = w6 at *
  clear c5 f5
  obtain ⟨p1, s1, n1, n2, n3, n4⟩ := hRQ6.out
  refine (number_any p1 (by have := hq47.out; omega) (w.heap.size + 1) w.heap.size 8 (by decide) s1 _ n1).mono ?_
  rintro e w7 ⟨x2, rfl, hN⟩
  obtain ⟨hRQ7, hx2⟩ := RQ.num n2 n3 n4 hN
  have hk7 := hN.2.2.1
  have hP7 : Hid (Blk w7 w3.heap.size 34 #[Value.int .i64 x1, Value.int .i64 0, Value.slice none 0 0]) := hP6.out.kept hk7 (by have := hgp.out; omega)
  have hRes7 : Hid (Blk w7 w.heap.size 34 #[Value.int .i64 0, Value.int .i64 0, Value.slice none 0 0]) := hRes6.out.kept hk7 (by omega)
  have hb7 : Hid (Below w.heap.size w w7) := hb6.out.trans (Kept.below_of hk7 (by omega) hb6.out.size)
  have c7 : w7.cell? ⟨w3.heap.size, 1, none⟩ = some (.int .i64 0) := hP7.out.cell 1
  have f7 := hP7.out.frozen 1
  have hk8 : Kept (· = w3.heap.size) w7 (w7.setCell ⟨w3.heap.size, 1, none⟩ (.int .i64 x2)) := (Kept.refl (· = w3.heap.size) w7).setCell (.inl rfl) _
  have hP8 : Hid (Blk (w7.setCell ⟨w3.heap.size, 1, none⟩ (.int .i64 x2)) w3.heap.size 34 #[Value.int .i64 x1, Value.int .i64 x2, Value.slice none 0 0]) := hP7.out.set_ 1 _
  have hRes8 : Hid (Blk (w7.setCell ⟨w3.heap.size, 1, none⟩ (.int .i64 x2)) w.heap.size 34 #[Value.int .i64 0, Value.int .i64 0, Value.slice none 0 0]) := hRes7.out.far (by have := hgp.out; show _ ≠ w3.heap.size; omega) _
  have hb8 : Hid (Below w.heap.size w (w7.setCell ⟨w3.heap.size, 1, none⟩ (.int .i64 x2))) := hb7.out.trans (Kept.below_of hk8 (by have := hgp.out; omega) hb7.out.size)
  have hRQ8 : Hid (RQ (w7.setCell ⟨w3.heap.size, 1, none⟩ (.int .i64 x2)) (w.heap.size + 1) w.heap.size q 17) := hRQ7.kept hk8 (by have := hgp.out; omega) (fun a ha h => by have := hgp.out; omega)
  clear hk8
  have c70 : w7.cell? ⟨w3.heap.size, 0, none⟩ = some (.int .i64 x1) := hP7.out.cell 0
  replace hx2 := Lib.hid hx2
  clear n1 n2 n3 n4 hN hk7 hRQ6 hP6 hRes6 hb6 hRQ7 hP7 hRes7 hb7
  have hWay : Hid (Calls Try.prog 64 #[.pointer (some ⟨w.heap.size + 1, 0, none⟩), .int .i64 (bsOf x1 x2)] (w7.setCell ⟨w3.heap.size, 1, none⟩ (.int .i64 x2)) fun e w' => ∃ l A3 c3, e = .returned (.slice A3 (l : List Text).length c3) ∧ RdD w' A3 l.length l ∧ (A3 = none → l.length = 0 ∧ c3 = 0) ∧ l.length ≤ c3 ∧ l.length ≤ 40 ∧ Got q x1 x2 l ∧ (∀ a, A3 = some a → (w7.setCell ⟨w3.heap.size, 1, none⟩ (.int .i64 x2)).heap.size ≤ a.block) ∧ Kept (· = w.heap.size + 1) (w7.setCell ⟨w3.heap.size, 1, none⟩ (.int .i64 x2)) w') := by
    have hbs := bsOf_le x1 x2
    obtain ⟨p1, s1, n1, n2, n3, n4⟩ := hRQ8.out
    by_cases h17 : 17 ≤ q.length
    · obtain ⟨rfl, rfl⟩ := n2 (by omega)
      refine (way_any _ _ _ (by have := hq47.out; omega) _ (by omega) _ n1).mono ?_
      rintro e w' ⟨l, A3, c3, rfl, hrd, hn3, hc3, hlN, hfull, hnew, hkk3⟩
      exact ⟨l, A3, c3, rfl, hrd, hn3, hc3, by omega, ⟨fun _ => ⟨hx1.out (by omega), hx2.out (by omega), hlN, hfull⟩, fun h => absurd h (by omega), hrd.2.1⟩, hnew, hkk3⟩
    · obtain rfl := n3 (by omega)
      refine (way_short _ _ _ _ _ n1).mono ?_
      rintro e w' ⟨rfl, rfl⟩
      exact ⟨[], none, 0, rfl, RdD.nil_ _ _, fun _ => ⟨rfl, rfl⟩, Nat.le_refl _, Nat.zero_le _, ⟨fun h => absurd h h17, fun _ => rfl, fun d h => by cases h⟩, (fun a h => by cases h), Kept.refl _ _⟩
  have hBe := Lib.hid (fun w' => beside17_any x1 x2 w')
  clear hx1 hx2 hRQ8
  go_wp2_with (go_at_call 37; refine (hBe.out _).mono ?_; rintro e w' ⟨rfl, rfl⟩)
  generalize w7.setCell ⟨w3.heap.size, 1, none⟩ (.int .i64 x2) = w8 at *
  clear c7 f7 c70
  refine hWay.out.mono ?_
  rintro e w9 ⟨l, A3, c3, rfl, hl9, hn9, hc9, hl40, hGot, hnew, hk9⟩
  have hz8 : Hid (w3.heap.size < w8.heap.size) := hP8.out.lt
  have hP9 : Hid (Blk w9 w3.heap.size 34 #[Value.int .i64 x1, Value.int .i64 x2, Value.slice none 0 0]) := hP8.out.kept hk9 (by have := hgp.out; omega)
  have hRes9 : Hid (Blk w9 w.heap.size 34 #[Value.int .i64 0, Value.int .i64 0, Value.slice none 0 0]) := hRes8.out.kept hk9 (by omega)
  have hb9 : Hid (Below w.heap.size w w9) := hb8.out.trans (Kept.below_of hk9 (by omega) hb8.out.size)
  have c9 : w9.cell? ⟨w3.heap.size, 2, none⟩ = some (.slice none 0 0) := hP9.out.cell 2
  have f9 := hP9.out.frozen 2
  have hP10 : Hid (Blk (w9.setCell ⟨w3.heap.size, 2, none⟩ (.slice A3 l.length c3)) w3.heap.size 34 #[Value.int .i64 x1, Value.int .i64 x2, Value.slice A3 l.length c3]) := hP9.out.set_ 2 _
  have hRes10 : Hid (Blk (w9.setCell ⟨w3.heap.size, 2, none⟩ (.slice A3 l.length c3)) w.heap.size 34 #[Value.int .i64 0, Value.int .i64 0, Value.slice none 0 0]) := hRes9.out.far (by have := hgp.out; show _ ≠ w3.heap.size; omega) _
  have hk10 : Kept (· = w3.heap.size) w9 (w9.setCell ⟨w3.heap.size, 2, none⟩ (.slice A3 l.length c3)) := (Kept.refl (· = w3.heap.size) w9).setCell (.inl rfl) _
  have hb10 : Hid (Below w.heap.size w (w9.setCell ⟨w3.heap.size, 2, none⟩ (.slice A3 l.length c3))) := hb9.out.trans (Kept.below_of hk10 (by have := hgp.out; omega) hb9.out.size)
  have hl10 : Hid (RdD (w9.setCell ⟨w3.heap.size, 2, none⟩ (.slice A3 l.length c3)) A3 l.length l) := ⟨rfl, hl9.2.1, hl9.2.2.kept hk10 (fun b o e h => by have h3 := hnew _ e; have := hz8.out; have h : b = w3.heap.size := h; have h2 : w8.heap.size ≤ b := h3; omega)⟩
  have hnew' : Hid (∀ a, A3 = some a → a.block ≠ w.heap.size) := fun a e h => by have := hnew a e; have := hz8.out; have := hgp.out; omega
  replace hn9 := Lib.hid hn9
  replace hc9 := Lib.hid hc9
  replace hl40 := Lib.hid hl40
  replace hGot := Lib.hid hGot
  clear hl9 hnew hk9 hk10 hP9 hRes9 hb9 hP8 hRes8 hb8 hWay hBe
  by_cases hk0 : k = 0
  · have hXX : Hid (X = (0, 0, [], 8)) := by
      show X = _
      rw [← hX.out]
      exact decAns_fail hqk.out (fun h => by have := hkk.out; omega)
    have y3 : ((k : Int) == 0) = true := by rw [hk0]; rfl
    clear hk0
    go_wp2_with ((with_reducible change wpList _ _ _ ({ dst := none, op := Op.store 34 _ _, type := _, pos := _, after := _, guard := _ } :: _) _ _); refine wpList_store_row (o := ⟨none, _, _, _, _, _⟩) rfl 34 (.tmp 2) (.tmp 39) rfl (w.heap.size) (#[Value.int .i64 0, Value.int .i64 0, Value.slice none 0 0]) rfl rfl 34 (#[Value.int .i64 0, Value.int .i64 0, Value.slice none 0 0]) hRes10.out sizeI rfl (oneI _ _ _ _ _) ?_)
    refine bodyPost_ret (results_cell_row2 rfl _ _ w.heap.size 34 #[Value.int .i64 0, Value.int .i64 0, Value.slice none 0 0] (0, 0) _ rfl (setRow_heap _ _ _ _ _ _ hRes10.out) Try.underlying34 rfl sizeI) rfl ?_
    rw [hXX.out]
    exact ⟨none, 0, 0, rfl, RdD.nil_ _ _, fun _ => ⟨rfl, rfl⟩, Nat.le_refl _, by omega, below_setRow hb10.out (Nat.le_refl _) _⟩
  · have y3 : ((k : Int) == 0) = false := beq_eq_false_iff_ne.2 (by omega)
    have hkn : Hid (k ≠ 0) := hk0
    clear hk0
    have hI : Hid (∀ w', RdD w' A3 l.length l → Calls Try.prog 16 #[.agg #[Value.int .i64 x1, Value.int .i64 x2, Value.slice A3 l.length c3]] w' fun e w'' => ∃ A4 c4 b, e = .returned (.slice A4 b.length c4) ∧ Reads w'' 1 A4 b.length (cells8 b) ∧ (A4 = none → b.length = 0 ∧ c4 = 0) ∧ b.length ≤ c4 ∧ (inclWant x1 x2 l = some b ∨ (inclWant x1 x2 l = none ∧ A4 = none ∧ b = [])) ∧ Below w'.heap.size w' w'') := fun w' h => refincl17_any x1 x2 l A3 l.length c3 w' h
    go_wp2_with ((with_reducible change wpList _ _ _ ({ dst := some 33, op := _, type := _, pos := _, after := _, guard := _ } :: _) _ _); refine wpList_load_rowG (o := ⟨some 33, _, _, _, _, _⟩) rfl 34 (.tmp 5) rfl (w3.heap.size) rfl 34 (#[Value.int .i64 x1, Value.int .i64 x2, Value.slice A3 l.length c3]) (0, 0) _ hP10.out Try.underlying34 rfl sizeI ?_)
    generalize w9.setCell ⟨w3.heap.size, 2, none⟩ (.slice A3 l.length c3) = w10 at *
    refine (hI.out _ hl10.out).mono ?_
    rintro e w11 ⟨A4, c4, b, rfl, hb11, -, -, hwant, hbl11⟩
    have hP11 : Hid (Blk w11 w3.heap.size 34 #[Value.int .i64 x1, Value.int .i64 x2, Value.slice A3 l.length c3]) := (hbl11.block _ hP10.out.lt).trans hP10.out
    have hRes11 : Hid (Blk w11 w.heap.size 34 #[Value.int .i64 0, Value.int .i64 0, Value.slice none 0 0]) := (hbl11.block _ hRes10.out.lt).trans hRes10.out
    have hl11 : Hid (RdD w11 A3 l.length l) := hl10.out.below hbl11
    have hbb11 : Hid (Below w.heap.size w w11) := hb10.out.trans (hbl11.mono hb10.out.size)
    have hb47 : b.length < 9223372036854775807 := by
      rcases hwant with h | ⟨-, -, rfl⟩
      · rw [want_len hGot.out.2.2 h]; have := hl40.out; omega
      · simp
    have hS := Lib.hid (same17_any b q b.length k rfl hkk.out hb47 A4 A c4 c w11 hb11 (hrr.out.below hbb11.out))
    replace hwant := Lib.hid hwant
    clear hb11 hbl11 hb47 hP10 hRes10 hl10 hb10 hI
    by_cases hbq : b = q
    · have hwq : inclWant x1 x2 l = some q := by
        rcases hwant.out with h | ⟨-, -, h⟩
        · rw [h, hbq]
        · have hq0 : q = [] := by rw [← hbq, h]
          have h1 := hkk.out
          rw [hq0] at h1
          exact absurd h1.symm hkn.out
      have hXX : Hid (X = (x1, x2, l, 0)) := by
        show X = _
        rw [← hX.out]
        exact read_ok hqk.out hGot.out hwq
      rw [decide_eq_true hbq] at hS
      clear hbq hwq
      go_wp2_with fail
      refine hS.out.mono ?_
      rintro e w12 ⟨rfl, m, rfl⟩
      have hP12 : Hid (Blk (w11.drewN m) w3.heap.size 34 #[Value.int .i64 x1, Value.int .i64 x2, Value.slice A3 l.length c3]) := hP11.out.drewN m
      have hRes12 : Hid (Blk (w11.drewN m) w.heap.size 34 #[Value.int .i64 0, Value.int .i64 0, Value.slice none 0 0]) := hRes11.out.drewN m
      have hb12 : Hid (Below w.heap.size w (w11.drewN m)) := below_drawn hbb11.out m
      have hl12 : Hid (RdD (w11.drewN m) A3 l.length l) := hl11.out.drewN m
      clear hP11 hRes11 hbb11 hl11 hS
      go_wp2_with (first
        | ((with_reducible change wpList _ _ _ ({ dst := some 40, op := _, type := _, pos := _, after := _, guard := _ } :: _) _ _); refine wpList_load_row (o := ⟨some 40, _, _, _, _, _⟩) rfl 34 (.tmp 5) rfl (w3.heap.size) rfl 34 (#[Value.int .i64 x1, Value.int .i64 x2, Value.slice A3 l.length c3]) (0, 0) _ hP12.out Try.underlying34 rfl sizeI ?_)
        | ((with_reducible change wpList _ _ _ ({ dst := none, op := Op.store 34 _ _, type := _, pos := _, after := _, guard := _ } :: _) _ _); refine wpList_store_row (o := ⟨none, _, _, _, _, _⟩) rfl 34 (.tmp 2) (.tmp 40) rfl (w.heap.size) (#[Value.int .i64 x1, Value.int .i64 x2, Value.slice A3 l.length c3]) rfl rfl 34 (#[Value.int .i64 0, Value.int .i64 0, Value.slice none 0 0]) hRes12.out sizeI rfl (oneI _ _ _ _ _) ?_))
      refine bodyPost_ret (results_cell_row2 rfl _ _ w.heap.size 34 #[Value.int .i64 x1, Value.int .i64 x2, Value.slice A3 l.length c3] (0, 0) _ rfl (setRow_heap _ _ _ _ _ _ hRes12.out) Try.underlying34 rfl sizeI) rfl ?_
      rw [hXX.out]
      exact ⟨A3, l.length, c3, rfl, ⟨rfl, hl12.out.2.1, hl12.out.2.2.kept (Bytes.Kept.setRow (S := (· = w.heap.size)) (Kept.refl _ _) rfl _) (fun b o e h => hnew'.out _ e h)⟩, hn9.out, hc9.out, hl40.out, below_setRow hb12.out (Nat.le_refl _) _⟩
    · have hwq : inclWant x1 x2 l ≠ some q := fun e => by
        rcases hwant.out with h | ⟨h, -, -⟩
        · rw [h] at e; exact hbq (Option.some.inj e)
        · rw [h] at e; cases e
      have hXX : Hid (X = (0, 0, [], 8)) := by
        show X = _
        rw [← hX.out]
        exact read_no hqk.out hGot.out hwq
      rw [decide_eq_false hbq] at hS
      clear hbq hwq
      go_wp2_with fail
      refine hS.out.mono ?_
      rintro e w12 ⟨rfl, m, rfl⟩
      have hRes12 : Hid (Blk (w11.drewN m) w.heap.size 34 #[Value.int .i64 0, Value.int .i64 0, Value.slice none 0 0]) := hRes11.out.drewN m
      have hb12 : Hid (Below w.heap.size w (w11.drewN m)) := below_drawn hbb11.out m
      clear hP11 hRes11 hbb11 hl11 hS
      go_wp2_with ((with_reducible change wpList _ _ _ ({ dst := none, op := Op.store 34 _ _, type := _, pos := _, after := _, guard := _ } :: _) _ _); refine wpList_store_row (o := ⟨none, _, _, _, _, _⟩) rfl 34 (.tmp 2) (.tmp 39) rfl (w.heap.size) (#[Value.int .i64 0, Value.int .i64 0, Value.slice none 0 0]) rfl rfl 34 (#[Value.int .i64 0, Value.int .i64 0, Value.slice none 0 0]) hRes12.out sizeI rfl (oneI _ _ _ _ _) ?_)
      refine bodyPost_ret (results_cell_row2 rfl _ _ w.heap.size 34 #[Value.int .i64 0, Value.int .i64 0, Value.slice none 0 0] (0, 0) _ rfl (setRow_heap _ _ _ _ _ _ hRes12.out) Try.underlying34 rfl sizeI) rfl ?_
      rw [hXX.out]
      exact ⟨none, 0, 0, rfl, RdD.nil_ _ _, fun _ => ⟨rfl, rfl⟩, Nat.le_refl _, by omega, below_setRow hb12.out (Nat.le_refl _) _⟩
theorem readInclusion_any (q : Text) (k : Nat) (hk : q.length = k) (A : Option Addr) (c : Nat) (hkc : k ≤ c) (w : World) (hr : Reads w 1 A k (cells8 q)) (hnil : A = none → k = 0 ∧ c = 0) :
    Calls Try.prog 44 #[.slice A k c] w (APost w (decAns q)) := by
  by_cases h9 : 9000 < k
  · exact read_long q k hk h9 A c w
  · exact read_main q k hk h9 A c hkc w hr hnil
end Go.Proofs.Ytngieimjlkpkaaa.ReadIncl2
