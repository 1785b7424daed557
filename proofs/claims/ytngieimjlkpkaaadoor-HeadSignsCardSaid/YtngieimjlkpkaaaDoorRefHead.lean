/-
  The reference's Low and Head (docketref16), walked.
-/
import Derived.Test.YtngieimjlkpkaaaDoorHeadMem
namespace Go.Proofs.YtngieimjlkpkaaaDoor.RefHead
open Go Go.RowKit Go.Proofs.YtngieimjlkpkaaaDoor Go.Proofs.YtngieimjlkpkaaaDoor.Mem Go.Proofs.YtngieimjlkpkaaaDoor.Sha Go.Proofs.YtngieimjlkpkaaaDoor.Bytes Go.Proofs.YtngieimjlkpkaaaDoor.Append Go.Proofs.YtngieimjlkpkaaaDoor.Octet Go.Proofs.YtngieimjlkpkaaaDoor.Octet2 Go.Proofs.YtngieimjlkpkaaaDoor.HeadMem

/-- A slice that was laid just now owns its row. -/
theorem own_new (w : World) (B : Nat) (hB : B ≤ w.heap.size) (e : TypeId) (cs : Array Value) (n : Nat) (hn : cs.size = n) (hm : n ≤ maxLen) : (w.alloc (.cells cs e)).ownsRow B e 1 (.slice (some ⟨w.heap.size, 0, none⟩) n n) n cs.toList :=
  ⟨by simp [hn], .inr ⟨w.heap.size, n, cs, rfl, hB, heap_alloc_new w _, Nat.le_refl _, hm, by omega, by rw [List.take_of_length_le (by simp [hn])]⟩⟩

set_option maxRecDepth 100000 in
set_option maxHeartbeats 1000000 in
theorem low_any (N : Nat) (hN : N < 9223372036854775808) (w : World) :
    Calls Tryd.prog 78 #[.int .i64 (N : Int)] w fun e w' => ∃ v, e = .returned v ∧ Below w.heap.size w w' ∧ w'.ownsRow w.heap.size 5 1 v 8 (cells8 (be8 N)) := by
  obtain ⟨i0, hi, hz0, hz1, hz2⟩ := info_parts8 info8
  have H0 : Hid (w.ownsRow w.heap.size 5 1 (.slice none 0 0) 0 (cells8 ((be8 N).take 0))) := World.ownsRow_nil _ _ _ _
  have HN : Hid ((N : Int) < 9223372036854775808) := by show _ < _; omega
  clear hN
  go_enter Tryd.func78, Tryd.ntmps78
  go_wp2_with fail
  go_loopw [3, 4] (fun b v wr => ∃ (j : Nat) (A : Option Addr) (c : Nat), b = .slice A j c ∧ v = .int .i64 (7 - (j : Int)) ∧ Hid (j ≤ 8) ∧ Hid (wr.ownsRow w.heap.size 5 1 (.slice A j c) j (cells8 ((be8 N).take j))) ∧ Hid (Below w.heap.size w wr)) (fun _ v _ => (1 + intOf v).toNat)
  case atStart => exact ⟨0, none, 0, rfl, rfl, (show 0 ≤ 8 by omega), H0.out, Below.refl _ _⟩
  case round =>
    clear H0
    obtain ⟨j, A, c, rfl, rfl, hj, hO, hW⟩ := hrel
    by_cases hlt : j < 8
    · have hz : (0 : Int) ≤ 7 - (j : Int) := by omega
      have hz7 : (j : Int) ≤ 7 := by omega
      have hzj : (0 : Int) ≤ (j : Int) := by omega
      obtain ⟨x, hx⟩ : ∃ x, Hid (x = byteAt N (56 - 8 * j)) := ⟨_, rfl⟩
      have y4 : (8 * (7 - (j : Int))).toNat = 56 - 8 * j := by omega
      have y3 : (N : Int) / 2 ^ (56 - 8 * j) % 256 = b8 x := by rw [hx.out]; exact b8_at N _
      have y5 : (8 * (7 - (j : Int))) < 64 := by omega
      have y6 : 0 ≤ (8 * (7 - (j : Int))) := by omega
      have y7 : (0 : Int) ≤ (N : Int) / 2 ^ (56 - 8 * j) := Int.ediv_nonneg (by omega) (by exact Int.le_of_lt (Int.pow_pos (by decide)))
      have hts : Hid ((be8 N).take (j + 1) = (be8 N).take j ++ [x]) := by show _ = _; rw [List.take_add_one, be8_at N j hlt, hx.out]; rfl
      have hsz : Hid (w.heap.size ≤ wr.heap.size) := hW.out.size
      have hnew : Hid (Reads (wr.alloc (.cells #[.int .u8 (b8 x)] 5)) 1 (some ⟨wr.heap.size, 0, none⟩) 1 (cells8 [x])) := (Blk.new wr 5 _).reads 0 _ rfl (fun j u hu => by rw [Nat.zero_add]; exact by simpa [cells8, cell8] using hu)
      have hO1 : Hid ((wr.alloc (.cells #[.int .u8 (b8 x)] 5)).ownsRow w.heap.size 5 1 (.slice A j c) j (cells8 ((be8 N).take j))) := World.ownsRow.alloc (w := wr) hO.out _
      have hW1 : Hid (Below w.heap.size w (wr.alloc (.cells #[.int .u8 (b8 x)] 5))) := hW.out.alloc hsz.out _
      have hs1 : Hid (w.heap.size ≤ (wr.alloc (.cells #[.int .u8 (b8 x)] 5)).heap.size) := hW1.out.size
      go_wp2_with (at_builtin; refine wpList_append_src _ rfl (.tmp 9) (.tmp 15) 28 rfl w.heap.size 5 i0 (.int .u8 0) 1 1 Tryd.underlying28 hi hz0 hz1 hz2 rfl (by decide) (.slice A j c) j (cells8 ((be8 N).take j)) rfl hO1.out (some ⟨wr.heap.size, 0, none⟩) 1 1 (cells8 [x]) rfl hnew.out (fun e => by cases e) (cells8_one [x]) (by unfold maxLen; omega) (by omega) hs1.out ?_; intro v1 W hG; obtain ⟨A1, c1, rfl, -⟩ := Own.reads hG.own; have hb1 : Hid (Below w.heap.size w W) := hG.below hW1.out hs1.out (fun k hk => by
          obtain ⟨A2, c2, e2, _, _, _, _, h2⟩ := Own.reads hO1.out
          injection e2 with e2 _ e3
          subst e2
          cases A with
          | none => cases hk
          | some a => injection hk with hk; subst hk; exact (h2 a rfl).1); replace hG := Lib.hid hG.own)
      go_roundw
      case rel => exact ⟨j + 1, A1, c1, rfl, by go_num, (show j + 1 ≤ 8 by omega), (by show World.ownsRow _ _ _ _ _ _ _; rw [hts.out]; have := hG.out; simpa [cells8] using this), hb1.out⟩
      case measure => simp [intOf]; omega
    · obtain rfl : j = 8 := by have := hj.out; omega
      have hT : Hid ((be8 N).take 8 = be8 N) := List.take_of_length_le (by rw [be8_len]; omega)
      go_wp2_with fail
      go_ret
      exact ⟨_, rfl, hW.out, by have := hO.out; rw [hT.out] at this; exact this⟩

theorem low_lit (n : Int) (N : Nat) (hn : (N : Int) = n) (hN : N < 9223372036854775808) (w : World) :
    Calls Tryd.prog 78 #[.int .i64 n] w fun e w' => ∃ v, e = .returned v ∧ Below w.heap.size w w' ∧ w'.ownsRow w.heap.size 5 1 v 8 (cells8 (be8 N)) := by
  subst hn
  exact low_any N hN w
/-- An append onto a row of the call's own, in a row of appends: what is kept. -/
theorem own_block {w : World} {B e size n : Nat} {A : Option Addr} {c : Nat} {xs : List Value} (h : w.ownsRow B e size (.slice A n c) n xs) : ∀ k, Value.ownBlock (.slice A n c) = some k → B ≤ k := by
  intro k hk
  obtain ⟨A2, c2, e2, _, _, _, _, h2⟩ := Own.reads h
  injection e2 with e2 _ e3
  subst e2
  cases A with
  | none => cases hk
  | some a => injection hk with hk; subst hk; exact (h2 a rfl).1
/-- What an append of a text onto a text leaves: the new text, owned. -/
theorem grew_text {w w' : World} {B n m : Nat} {A : Option Addr} {c : Nat} {q r : Text} {v' : Value} (h : Grew w B 5 1 (.slice A n c) n m (cells8 q) (cells8 r) v' w') {w0 : World} (hb : Below B w0 w) (hB : B ≤ w.heap.size) (hown : w.ownsRow B 5 1 (.slice A n c) n (cells8 q)) (s : Text) (hs : s = q ++ r) (k : Nat) (hk : k = n + m) :
    ∃ A' c', v' = .slice A' k c' ∧ Hid (w'.ownsRow B 5 1 (.slice A' k c') k (cells8 s)) ∧ Hid (Below B w0 w') := by
  subst hs
  subst hk
  have ho := h.own
  obtain ⟨A', c', rfl, -⟩ := Own.reads ho
  refine ⟨A', c', rfl, ?_, h.below hb hB (own_block hown)⟩
  show w'.ownsRow _ _ _ _ _ _
  simpa [cells8] using ho

theorem own_below {w w' : World} {B e size n : Nat} {v : Value} {xs : List Value} (h : w.ownsRow B e size v n xs) (hb : Below w.heap.size w w') : w'.ownsRow B e size v n xs :=
  ⟨h.1, h.2.imp id fun ⟨g, cap, cur, h1, h2, h3, h4⟩ => ⟨g, cap, cur, h1, h2, (hb.block g (Array.getElem?_eq_some_iff.1 h3).1).trans h3, h4⟩⟩

set_option maxRecDepth 100000 in
set_option maxHeartbeats 1000000 in
theorem refHead_yes (h : HeadD) (ok : h.Ok) (hr : rightB h = true) (w : World) :
    Calls Tryd.prog 58 #[.agg (headCells h).toArray] w fun e w' => ∃ v, e = .returned (.tuple #[v, .bool true]) ∧ Below w.heap.size w w' ∧ w'.ownsRow w.heap.size 5 1 v 113 (cells8 (headBytes h)) := by
  obtain ⟨i0, hi, hz0, hz1, hz2⟩ := info_parts8 info8
  have hrb : 0 ≤ h.size ∧ h.size ≤ 1099511627776 ∧ 0 ≤ h.clock ∧ h.clock ≤ 4611686018427387904 := by simpa [rightB, and_assoc] using hr
  obtain ⟨hs0, hs1, hm0, hm1⟩ := hrb
  have e1 : (headCells h).toArray[32]? = some (.int .i64 h.size) := by rw [List.getElem?_toArray]; exact headCells_size ok
  have e2 : (headCells h).toArray[97]? = some (.int .i64 h.clock) := by rw [List.getElem?_toArray]; exact headCells_clock ok
  have f1 := headCells_size ok
  have f2 := headCells_clock ok
  have n1 : Hid ((h.size.toNat : Int) = h.size ∧ h.size.toNat < 9223372036854775808) := by refine ⟨?_, ?_⟩ <;> omega
  have n2 : Hid ((h.clock.toNat : Int) = h.clock ∧ h.clock.toNat < 9223372036854775808) := by refine ⟨?_, ?_⟩ <;> omega
  have d1 : decide (h.size < 0) = false := by simp; omega
  have d2 : decide (1099511627776 < h.size) = false := by simp; omega
  have d3 : decide (h.clock < 0) = false := by simp; omega
  have d4 : decide (4611686018427387904 < h.clock) = false := by simp; omega
  have hb0 : Hid (Below w.heap.size w (w.alloc (.cells (headCells h).toArray 49))) := Below.heap_below w _
  have hz1' : Hid ((w.alloc (.cells (headCells h).toArray 49)).heap.size = w.heap.size + 1) := by show _ = _; simp
  have hB0 : Hid (Blk (w.alloc (.cells (headCells h).toArray 49)) w.heap.size 49 (headCells h).toArray) := Blk.new w _ _
  have hB1 : Hid (Blk ((w.alloc (.cells (headCells h).toArray 49)).alloc (.cells #[.int .u8 32] 5)) w.heap.size 49 (headCells h).toArray) := (Blk.new w _ _).alloc _
  have hO1 : Hid (((w.alloc (.cells (headCells h).toArray 49)).alloc (.cells #[.int .u8 32] 5)).ownsRow (w.heap.size + 1) 5 1 (.slice (some ⟨w.heap.size + 1, 0, none⟩) 1 1) 1 (cells8 [32])) := by
    have := own_new (w.alloc (.cells (headCells h).toArray 49)) (w.heap.size + 1) (Nat.le_of_eq hz1'.out.symm) 5 #[.int .u8 32] 1 rfl (by unfold maxLen; omega)
    rw [hz1'.out] at this
    exact this
  have hb1 : Hid (Below (w.heap.size + 1) (w.alloc (.cells (headCells h).toArray 49)) ((w.alloc (.cells (headCells h).toArray 49)).alloc (.cells #[.int .u8 32] 5))) := (Below.refl _ _).alloc (Nat.le_of_eq hz1'.out.symm) _
  have hs1 : Hid (w.heap.size + 1 ≤ ((w.alloc (.cells (headCells h).toArray 49)).alloc (.cells #[.int .u8 32] 5)).heap.size) := by have := hb1.out.size; have := hz1'.out; show _ ≤ _; omega
  have c1 := fun (w' : World) (hb : Blk w' w.heap.size 49 (headCells h).toArray) => hb.reads (size := 1) (n := 32) 0 (cells8 h.log) (by rw [cells8_len, ok.log]) (fun j u hu => by rw [List.getElem?_toArray]; exact headCells_log j u hu)
  have cr3 := fun (w' : World) (hb : Blk w' w.heap.size 49 (headCells h).toArray) => hb.reads (size := 1) (n := 32) 33 (cells8 h.root) (by rw [cells8_len, ok.root]) (fun j u hu => by rw [List.getElem?_toArray]; exact headCells_root ok j u hu)
  have cr4 := fun (w' : World) (hb : Blk w' w.heap.size 49 (headCells h).toArray) => hb.reads (size := 1) (n := 32) 65 (cells8 h.index) (by rw [cells8_len, ok.index]) (fun j u hu => by rw [List.getElem?_toArray]; exact headCells_index ok j u hu)
  have r1 := Lib.hid (c1 _ hB1.out)
  replace cr3 := Lib.hid cr3
  replace cr4 := Lib.hid cr4
  clear c1
  have hfin : Hid (headBytes h = ([32] ++ h.log ++ be8 h.size.toNat ++ h.root ++ h.index ++ be8 h.clock.toNat)) := by show _ = _; simp [headBytes]
  go_enter Tryd.func58, Tryd.ntmps58
  go_wp2_with (first
    | ((with_reducible change wpList _ _ _ ({ dst := some 26, op := _, type := _, pos := _, after := _, guard := _ } :: _) _ _); refine wpList_append_src _ (o := ⟨some 26, _, _, _, _, _⟩) rfl (.tmp 23) (.tmp 25) 28 rfl (w.heap.size + 1) 5 i0 (.int .u8 0) 1 1 Tryd.underlying28 hi hz0 hz1 hz2 rfl (by decide) (.slice (some ⟨w.heap.size + 1, 0, none⟩) 1 1) 1 (cells8 [32]) rfl hO1.out (some ⟨w.heap.size, 0, none⟩) 32 32 (cells8 h.log) rfl r1.out (fun e => by cases e) (cells8_one _) (by unfold maxLen; omega) (by omega) hs1.out ?_; intro v2 w2 hG; obtain ⟨A2, c2, rfl, hO2, hb2⟩ := grew_text hG hb1.out hs1.out hO1.out ([32] ++ h.log) rfl 33 rfl; clear hG; have hs2 : Hid (w.heap.size + 1 ≤ w2.heap.size) := (by have := hb2.out.size; have := hz1'.out; show _ ≤ _; omega); have hB2 := Lib.hid ((hb2.out.block w.heap.size (by omega)).trans hB0.out); have g2 : w2.cell? ⟨w.heap.size, 32, none⟩ = some (.int .i64 h.size) := (Blk.cell hB2.out 32).trans e1)
    | (go_at_call 78; refine (low_lit h.size h.size.toNat n1.out.1 n1.out.2 w2).mono ?_; rintro e w3 ⟨v3, rfl, hl3, ho3⟩; obtain ⟨Al, cl, rfl, -, -, hnl, hrl, -⟩ := Own.reads ho3; have hb3 : Hid (Below (w.heap.size + 1) (w.alloc (.cells (headCells h).toArray 49)) w3) := hb2.out.trans (hl3.mono hs2.out); have hO3 := Lib.hid (own_below hO2.out hl3); have hs3 : Hid (w.heap.size + 1 ≤ w3.heap.size) := Nat.le_trans hs2.out hl3.size; have hB3 := Lib.hid ((hl3.block w.heap.size (by have := hs2.out; omega)).trans hB2.out); replace hrl := Lib.hid hrl; replace hnl := Lib.hid hnl; clear hl3 ho3 n1)
    | ((with_reducible change wpList _ _ _ ({ dst := some 31, op := _, type := _, pos := _, after := _, guard := _ } :: _) _ _); refine wpList_append_src _ (o := ⟨some 31, _, _, _, _, _⟩) rfl (.tmp 27) (.tmp 30) 28 rfl (w.heap.size + 1) 5 i0 (.int .u8 0) 1 1 Tryd.underlying28 hi hz0 hz1 hz2 rfl (by decide) (.slice A2 33 c2) 33 (cells8 ([32] ++ h.log)) rfl hO3.out (Al) 8 cl (cells8 (be8 h.size.toNat)) rfl hrl.out hnl.out (cells8_one _) (by unfold maxLen; omega) (by omega) hs3.out ?_; intro v4 w4 hG; obtain ⟨A4, c4, rfl, hO4, hb4⟩ := grew_text hG hb3.out hs3.out hO3.out ([32] ++ h.log ++ be8 h.size.toNat) rfl 41 rfl; clear hG; have hs4 : Hid (w.heap.size + 1 ≤ w4.heap.size) := (by have := hb4.out.size; have := hz1'.out; show _ ≤ _; omega); have hB4 := Lib.hid ((hb4.out.block w.heap.size (by omega)).trans hB0.out); have r4 := Lib.hid (cr3.out w4 hB4.out))
    | ((with_reducible change wpList _ _ _ ({ dst := some 35, op := _, type := _, pos := _, after := _, guard := _ } :: _) _ _); refine wpList_append_src _ (o := ⟨some 35, _, _, _, _, _⟩) rfl (.tmp 32) (.tmp 34) 28 rfl (w.heap.size + 1) 5 i0 (.int .u8 0) 1 1 Tryd.underlying28 hi hz0 hz1 hz2 rfl (by decide) (.slice A4 41 c4) 41 (cells8 ([32] ++ h.log ++ be8 h.size.toNat)) rfl hO4.out (some ⟨w.heap.size, 33, none⟩) 32 32 (cells8 h.root) rfl r4.out (fun e => by cases e) (cells8_one _) (by unfold maxLen; omega) (by omega) hs4.out ?_; intro v5 w5 hG; obtain ⟨A5, c5, rfl, hO5, hb5⟩ := grew_text hG hb4.out hs4.out hO4.out ([32] ++ h.log ++ be8 h.size.toNat ++ h.root) rfl 73 rfl; clear hG; have hs5 : Hid (w.heap.size + 1 ≤ w5.heap.size) := (by have := hb5.out.size; have := hz1'.out; show _ ≤ _; omega); have hB5 := Lib.hid ((hb5.out.block w.heap.size (by omega)).trans hB0.out); have r5 := Lib.hid (cr4.out w5 hB5.out))
    | ((with_reducible change wpList _ _ _ ({ dst := some 39, op := _, type := _, pos := _, after := _, guard := _ } :: _) _ _); refine wpList_append_src _ (o := ⟨some 39, _, _, _, _, _⟩) rfl (.tmp 36) (.tmp 38) 28 rfl (w.heap.size + 1) 5 i0 (.int .u8 0) 1 1 Tryd.underlying28 hi hz0 hz1 hz2 rfl (by decide) (.slice A5 73 c5) 73 (cells8 ([32] ++ h.log ++ be8 h.size.toNat ++ h.root)) rfl hO5.out (some ⟨w.heap.size, 65, none⟩) 32 32 (cells8 h.index) rfl r5.out (fun e => by cases e) (cells8_one _) (by unfold maxLen; omega) (by omega) hs5.out ?_; intro v6 w6 hG; obtain ⟨A6, c6, rfl, hO6, hb6⟩ := grew_text hG hb5.out hs5.out hO5.out ([32] ++ h.log ++ be8 h.size.toNat ++ h.root ++ h.index) rfl 105 rfl; clear hG; have hs6 : Hid (w.heap.size + 1 ≤ w6.heap.size) := (by have := hb6.out.size; have := hz1'.out; show _ ≤ _; omega); have hB6 := Lib.hid ((hb6.out.block w.heap.size (by omega)).trans hB0.out); have g6 : w6.cell? ⟨w.heap.size, 97, none⟩ = some (.int .i64 h.clock) := (Blk.cell hB6.out 97).trans e2)
    | (go_at_call 78; refine (low_lit h.clock h.clock.toNat n2.out.1 n2.out.2 w6).mono ?_; rintro e w7 ⟨v7, rfl, hl7, ho7⟩; obtain ⟨Am, cm, rfl, -, -, hnm, hrm, -⟩ := Own.reads ho7; have hb7 : Hid (Below (w.heap.size + 1) (w.alloc (.cells (headCells h).toArray 49)) w7) := hb6.out.trans (hl7.mono hs6.out); have hO7 := Lib.hid (own_below hO6.out hl7); have hs7 : Hid (w.heap.size + 1 ≤ w7.heap.size) := Nat.le_trans hs6.out hl7.size; replace hrm := Lib.hid hrm; replace hnm := Lib.hid hnm; clear hl7 ho7)
    | ((with_reducible change wpList _ _ _ ({ dst := some 44, op := _, type := _, pos := _, after := _, guard := _ } :: _) _ _); refine wpList_append_src _ (o := ⟨some 44, _, _, _, _, _⟩) rfl (.tmp 40) (.tmp 43) 28 rfl (w.heap.size + 1) 5 i0 (.int .u8 0) 1 1 Tryd.underlying28 hi hz0 hz1 hz2 rfl (by decide) (.slice A6 105 c6) 105 (cells8 ([32] ++ h.log ++ be8 h.size.toNat ++ h.root ++ h.index)) rfl hO7.out (Am) 8 cm (cells8 (be8 h.clock.toNat)) rfl hrm.out hnm.out (cells8_one _) (by unfold maxLen; omega) (by omega) hs7.out ?_; intro v8 w8 hG; obtain ⟨A8, c8, rfl, hO8, hb8⟩ := grew_text hG hb7.out hs7.out hO7.out ([32] ++ h.log ++ be8 h.size.toNat ++ h.root ++ h.index ++ be8 h.clock.toNat) rfl 113 rfl; clear hG))
  go_ret2
  exact ⟨_, rfl, hb0.out.trans (hb8.out.mono (by omega)), by have := hO8.out; rw [← hfin.out] at this; exact ownsRow_base this (by omega)⟩

theorem not_le_ (a b : Int) : decide (b < a) = !decide (a ≤ b) := by
  by_cases h : a ≤ b
  · rw [decide_eq_true h, decide_eq_false (by omega)]; rfl
  · rw [decide_eq_false h, decide_eq_true (by omega)]; rfl

set_option maxRecDepth 100000 in
set_option maxHeartbeats 1000000 in
theorem refHead_no (h : HeadD) (ok : h.Ok) (hr : rightB h = false) (w : World) :
    Calls Tryd.prog 58 #[.agg (headCells h).toArray] w fun e w' => e = .returned (.tuple #[.slice none 0 0, .bool false]) ∧ Below w.heap.size w w' := by
  have e1 : (headCells h).toArray[32]? = some (.int .i64 h.size) := by rw [List.getElem?_toArray]; exact headCells_size ok
  have e2 : (headCells h).toArray[97]? = some (.int .i64 h.clock) := by rw [List.getElem?_toArray]; exact headCells_clock ok
  have f1 := headCells_size ok
  have f2 := headCells_clock ok
  have hb : Below w.heap.size w (w.alloc (.cells (headCells h).toArray 49)) := Below.heap_below w _
  replace hb := Lib.hid hb
  have hk : Hid ((decide (0 ≤ h.size) && decide (h.size ≤ 1099511627776) && decide (0 ≤ h.clock) && decide (h.clock ≤ 4611686018427387904)) = false) := hr
  clear hr
  generalize headCells h = cs at *
  generalize h.size = n at *
  generalize h.clock = m at *
  have d1 := not_le_ 0 n
  have d2 := not_le_ n 1099511627776
  have d3 := not_le_ 0 m
  have d4 := not_le_ m 4611686018427387904
  rcases Bool.eq_false_or_eq_true (decide (0 ≤ n)) with b1 | b1 <;> rcases Bool.eq_false_or_eq_true (decide (n ≤ 1099511627776)) with b2 | b2 <;> rcases Bool.eq_false_or_eq_true (decide (0 ≤ m)) with b3 | b3 <;> rcases Bool.eq_false_or_eq_true (decide (m ≤ 4611686018427387904)) with b4 | b4
  all_goals
    rw [b1] at d1
    rw [b2] at d2
    rw [b3] at d3
    rw [b4] at d4
    simp only [Bool.not_true, Bool.not_false] at d1 d2 d3 d4
    have k0 : Hid (Bool.and (Bool.and (Bool.and (decide (0 ≤ n)) (decide (n ≤ 1099511627776))) (decide (0 ≤ m))) (decide (m ≤ 4611686018427387904)) = false) := hk.out
    have k1 := k0.out
    rw [b1, b2, b3, b4] at k1
    first
    | exact absurd k1 (by decide)
    | (clear k1 k0
       go_enter Tryd.func58, Tryd.ntmps58
       go_wp2_with fail
       go_ret2
       exact ⟨rfl, hb.out⟩)
end Go.Proofs.YtngieimjlkpkaaaDoor.RefHead
