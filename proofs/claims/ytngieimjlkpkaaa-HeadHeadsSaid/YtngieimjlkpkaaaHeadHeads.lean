/-
  docketlaw16.HeadHeads, walked.
-/
import Derived.Test.YtngieimjlkpkaaaHeads
import Derived.Test.YtngieimjlkpkaaaHeads2
import Derived.Test.YtngieimjlkpkaaaHeads3
import Derived.Test.YtngieimjlkpkaaaHeads4
namespace Go.Proofs.Ytngieimjlkpkaaa.HeadHeads
open Go Go.RowKit Go.Proofs.Ytngieimjlkpkaaa Go.Proofs.Ytngieimjlkpkaaa.Mem Go.Proofs.Ytngieimjlkpkaaa.Sha Go.Proofs.Ytngieimjlkpkaaa.Bytes Go.Proofs.Ytngieimjlkpkaaa.Append Go.Proofs.Ytngieimjlkpkaaa.Octet Go.Proofs.Ytngieimjlkpkaaa.HeadMem Go.Proofs.Ytngieimjlkpkaaa.HeadTake Go.Proofs.Ytngieimjlkpkaaa.HeadTake2 Go.Proofs.Ytngieimjlkpkaaa.Decode Go.Proofs.Ytngieimjlkpkaaa.High Go.Proofs.Ytngieimjlkpkaaa.ReadHead Go.Proofs.Ytngieimjlkpkaaa.HeadEq Go.Proofs.Ytngieimjlkpkaaa.HeadEnc Go.Proofs.Ytngieimjlkpkaaa.RefHead Go.Proofs.Ytngieimjlkpkaaa.Law16 Go.Proofs.Ytngieimjlkpkaaa.Heads

theorem heads_any (h : HeadD) (ok : h.Ok) (q : Text) (k : Nat) (hk : q.length = k) (hk47 : k < 140737488355328) (A : Option Addr) (c : Nat) (hkc : k ≤ c) (w : World) (hq : Reads w 1 A k (cells8 q)) :
    Calls Try.prog 12 #[.agg (headCells h).toArray, .slice A k c] w fun e w' => e = .returned (.bool true) ∧ Below w.heap.size w w' := by
  cases hr : rightB h <;> cases hd : decOk q
  · exact heads_nn h ok hr q k hk hk47 hd A c hkc w hq
  · exact heads_ny h ok hr q k hk hk47 hd A c hkc w hq
  · exact heads_yn h ok hr q k hk hk47 hd A c hkc w hq
  · exact heads_yy h ok hr q k hk hk47 hd A c hkc w hq

/-- A row that was turned in one cell is a text again. -/
theorem cells8_set (q : Text) (i : Nat) (b : BitVec 8) : (cells8 q).set i (cell8 b) = cells8 (q.set i b) := by
  unfold cells8
  rw [List.map_set]
theorem range0_8 (i : Int) : (0:Int) ≤ i → i < 8 → i = 0 ∨ i = 1 ∨ i = 2 ∨ i = 3 ∨ i = 4 ∨ i = 5 ∨ i = 6 ∨ i = 7 := by omega

theorem xor_u8 (x : BitVec 8) (y : Int) : ∃ z : BitVec 8, bits .xor .u8 (b8 x) y = b8 z := by
  refine ⟨BitVec.ofInt 8 (b8 x) ^^^ BitVec.ofInt 8 y, ?_⟩
  show IntKind.u8.wrap (((BitVec.ofInt 8 (b8 x) ^^^ BitVec.ofInt 8 y).toNat : Nat) : Int) = _
  have hw : ∀ n : Int, IntKind.u8.wrap n = n % 256 := fun n => by simp [IntKind.wrap, IntKind.bits, IntKind.signed]
  rw [hw]
  unfold b8
  have := (BitVec.ofInt 8 (x.toNat : Int) ^^^ BitVec.ofInt 8 y).isLt
  omega
theorem cells8_at' {q : Text} {i : Nat} {x : BitVec 8} (h : q[i]? = some x) : (cells8 q)[i]? = some (.int .u8 (b8 x)) := by
  unfold cells8
  rw [List.getElem?_map, h]
  rfl

set_option maxRecDepth 100000 in
set_option maxHeartbeats 1000000 in
theorem headHeads_yes (h : HeadD) (ok : h.Ok) (hr : rightB h = true) (q : Text) (k : Nat) (hk : q.length = k) (hk47 : k < 140737488355328) (A : Option Addr) (c : Nat) (hkc : k ≤ c) (w : World) (hq : Reads w 1 A k (cells8 q)) :
    Calls Try.prog 6 #[.agg (headCells h).toArray, .slice A k c] w fun e w' => e = .returned (.bool true) ∧ Below w.heap.size w w' := by
  obtain ⟨i0, hi, hz0, hz1, hz2⟩ := info_parts8 info8
  obtain ⟨hz, ho, hs⟩ := head_sizes ok
  have hB0 : Hid (Blk (w.alloc (.cells (headCells h).toArray 30)) w.heap.size 30 (headCells h).toArray) := Blk.new w _ _
  have hb0 : Hid (Below w.heap.size w (w.alloc (.cells (headCells h).toArray 30))) := Below.heap_below w _
  have hz0' : Hid ((w.alloc (.cells (headCells h).toArray 30)).heap.size = w.heap.size + 1) := by show _ = _; simp
  have hl : Hid ((headBytes h).length = 113) := headBytes_len ok
  have hT := fun (w' : World) (q' : Text) (k' : Nat) (a1 : q'.length = k') (a2 : k' < 140737488355328) (A' : Option Addr) (c' : Nat) (a3 : k' ≤ c') (a4 : Reads w' 1 A' k' (cells8 q')) => heads_any h ok q' k' a1 a2 A' c' a3 w' a4
  replace hT := Lib.hid hT
  have hQ : Hid (∀ w', Below w.heap.size w w' → Reads w' 1 A k (cells8 q)) := fun w' hb => hq.below hb
  have hq0 := Lib.hid hk
  have hk0 := Lib.hid hk47
  have hkc0 := Lib.hid hkc
  clear hq hk hk47 hkc
  go_enter Try.func6, Try.ntmps6
  go_wp2_with (first
    | ((with_reducible change wpList _ _ _ ({ dst := some 11, op := _, type := _, pos := _, after := _, guard := _ } :: _) _ _); refine wpList_load_row (o := ⟨some 11, _, _, _, _, _⟩) rfl 30 (.tmp 2) rfl w.heap.size rfl 30 (headCells h).toArray (0, 0) _ hB0.out Try.underlying30 rfl hz.out ?_)
    | (go_at_call 11; refine (refHead_yes h ok hr _).mono ?_; rintro e w2 ⟨v2, rfl, hb2, ho2⟩; rw [hz0'.out] at hb2 ho2; obtain ⟨A2, c2, rfl, hc2, _, hn2, hr2, _⟩ := Own.reads ho2; replace hn2 := Lib.hid hn2; have hB2 : Hid (Blk w2 w.heap.size 30 (headCells h).toArray) := (hb2.block _ (by omega)).trans hB0.out; have bb2 : Hid (Below w.heap.size w w2) := hb0.out.trans (hb2.mono (by omega)); replace hr2 := Lib.hid hr2; replace hc2 := Lib.hid hc2; clear hb2 ho2 hB0 hb0))
  clear hz0'
  go_loopw [7] (fun v wr => ∃ i : Nat, v = .int .i64 (i : Int) ∧ Hid (i ≤ 113) ∧ Hid (Below w2.heap.size w2 wr)) (fun v _ => 113 - (intOf v).toNat)
  case atStart => exact ⟨0, rfl, (show 0 ≤ 113 by omega), Below.refl _ _⟩
  case round =>
    obtain ⟨i, rfl, hi2, hW⟩ := hrel
    have hBr : Hid (Blk wr w.heap.size 30 (headCells h).toArray) := (hW.out.block _ hB2.out.lt).trans hB2.out
    have hrr : Hid (Reads wr 1 A2 113 (cells8 (headBytes h))) := hr2.out.below hW.out
    have bbr : Hid (Below w.heap.size w wr) := bb2.out.trans (hW.out.mono bb2.out.size)
    by_cases hlt : i < 113
    · have hzi : (0 : Int) ≤ (i : Int) := by omega
      have hz113 : (i : Int) < 113 := by omega
      by_cases hin : i = 0 ∨ (33 ≤ i ∧ i < 41) ∨ 105 ≤ i
      · have y1 : decide (33 ≤ (i : Int)) = decide (33 ≤ i) := by rw [decide_eq_decide]; omega
        have y2 : decide ((i : Int) < 41) = decide (i < 41) := by rw [decide_eq_decide]; omega
        have y3 : decide (105 ≤ (i : Int)) = decide (105 ≤ i) := by rw [decide_eq_decide]; omega
        have y4 : ((i : Int) == 0) = decide (i = 0) := by rw [Bool.eq_iff_iff]; simp
        have hcase : (i = 0 ∧ ¬ 33 ≤ i ∧ ¬ 105 ≤ i) ∨ (33 ≤ i ∧ i < 41) ∨ (33 ≤ i ∧ ¬ i < 41 ∧ 105 ≤ i) := by omega
        clear hin
        obtain ⟨x0, hx0⟩ : ∃ x, (headBytes h)[i]? = some x := ⟨_, List.getElem?_eq_getElem (by rw [hl.out]; exact hlt)⟩
        replace hx0 := Lib.hid hx0
        rcases hcase with ⟨ha, hb, hc⟩ | ⟨ha, hb⟩ | ⟨ha, hb, hc⟩
        · rw [decide_eq_false hb] at y1
          rw [decide_eq_false hc] at y3
          rw [decide_eq_true ha] at y4
          clear y2
          replace ha := Lib.hid ha
          go_wp2_with fail
          obtain ⟨wo, rfl⟩ : ∃ wo : World, wo = wr := ⟨_, rfl⟩
          clear hBr hrr bbr
          go_loopw [8] (fun v wr => ∃ j : Nat, v = .int .i64 (j : Int) ∧ Hid (j ≤ 8) ∧ Hid (Below w2.heap.size w2 wr)) (fun v _ => 8 - (intOf v).toNat)
          case atStart => exact ⟨0, rfl, (show 0 ≤ 8 by omega), hW.out⟩
          case round =>
            clear hW
            obtain ⟨j, rfl, hj2, hW⟩ := hrel
            by_cases hlj : j < 8
            · have hzj : (0 : Int) ≤ (j : Int) := by omega
              have hz8 : (j : Int) < 8 := by omega
              have hBr : Hid (Blk wr w.heap.size 30 (headCells h).toArray) := (hW.out.block _ hB2.out.lt).trans hB2.out
              have hrr : Hid (Reads (wr.alloc (.cells #[] 5)) 1 A2 113 (cells8 (headBytes h))) := (hr2.out.below hW.out).alloc _
              have hO0 : Hid ((wr.alloc (.cells #[] 5)).ownsRow wr.heap.size 5 1 (.slice (some ⟨wr.heap.size, 0, none⟩) 0 0) 0 []) := own_new wr wr.heap.size (Nat.le_refl _) 5 #[] 0 rfl (by decide)
              have hn0 : Hid (A2 = none → 113 = 0 ∧ c2 = 0) := hn2.out
              have hc1 : Hid (0 + 113 ≤ maxLen) := by show _ ≤ _; decide
              have hc3 : Hid ((0 + 113) * 1 ≤ 140737488355328) := by show _ ≤ _; decide
              have hs3 : Hid (wr.heap.size ≤ (wr.alloc (.cells #[] 5)).heap.size) := by show _ ≤ _; simp
              go_wp2_with (at_builtin; refine wpList_append_src _ rfl (.tmp 39) (.tmp 40) 23 rfl wr.heap.size 5 i0 (.int .u8 0) 1 1 Try.underlying23 hi hz0 hz1 hz2 rfl (by decide) (.slice (some ⟨wr.heap.size, 0, none⟩) 0 0) 0 [] rfl hO0.out A2 113 c2 (cells8 (headBytes h)) rfl hrr.out hn0.out (cells8_one _) hc1.out hc3.out hs3.out ?_; intro v1 w1 hG; have hb1 : Hid (Below wr.heap.size wr w1) := hG.below ((Below.refl _ _).alloc (Nat.le_refl _) _) hs3.out (fun k e => Nat.le_of_eq (Option.some.inj (show some wr.heap.size = some k from e))); obtain ⟨g, cap, rfl, hg1, hg2⟩ := hG.own.form (by decide); have hO1 := hG.own; rw [Nat.zero_add, List.nil_append] at hO1; replace hO1 := Lib.hid hO1; clear hG hrr hO0 hn0 hc1 hc3 hs3)
              have hcell : w1.cell? ⟨g, i, none⟩ = some (.int .u8 (b8 x0)) := by rw [hO1.out.cellAt i (by omega)]; exact cells8_at' hx0.out
              have hfz : w1.frozen? ⟨g, i, none⟩ = false := hO1.out.frozenAt i
              go_region
              obtain ⟨x1, hx1⟩ := xor_u8 x0 (2 ^ j % 256)
              rw [hx1]
              have hR0 : Hid (Reads ((w1.setCell ⟨g, i, none⟩ (.int .u8 (b8 x1))).drew) 1 (some ⟨g, 0, none⟩) 113 (cells8 ((headBytes h).set i x1))) := by
                have hO2 := (hO1.out.stored i (.int .u8 (b8 x1))).1
                show Reads _ _ _ _ _
                obtain ⟨A9, c9, e9, _, _, _, h9, _⟩ := Own.reads hO2
                cases e9
                rw [show (cells8 (headBytes h)).set i (Value.int .u8 (b8 x1)) = cells8 ((headBytes h).set i x1) from cells8_set _ _ _] at h9
                exact h9.drew
              have hb2 : Hid (Below wr.heap.size wr ((w1.setCell ⟨g, i, none⟩ (.int .u8 (b8 x1))).drew)) := (hb1.out.setCell (by omega) _).drew
              have hcap : Hid (113 ≤ cap) := by
                obtain ⟨A9, c9, e9, h9, _⟩ := Own.reads hO1.out
                cases e9
                exact h9
              have hB9 : Hid (Blk ((w1.setCell ⟨g, i, none⟩ (.int .u8 (b8 x1))).drew) w.heap.size 30 (headCells h).toArray) := (hb2.out.block _ hBr.out.lt).trans hBr.out
              have hl9 : Hid (((headBytes h).set i x1).length = 113) := by show _ = _; rw [List.length_set]; exact hl.out
              clear hcell hfz hO1 hb1 hx1
              generalize (w1.setCell ⟨g, i, none⟩ (.int .u8 (b8 x1))).drew = w3 at *
              go_wp2_with (first
                | ((with_reducible change wpList _ _ _ ({ dst := some 52, op := _, type := _, pos := _, after := _, guard := _ } :: _) _ _); refine wpList_load_row (o := ⟨some 52, _, _, _, _, _⟩) rfl 30 (.tmp 2) rfl w.heap.size rfl 30 (headCells h).toArray (0, 0) _ hB9.out Try.underlying30 rfl hz.out ?_)
                | (go_at_call 12; refine (hT.out _ ((headBytes h).set i x1) 113 hl9.out (by decide) (some ⟨g, 0, none⟩) cap hcap.out hR0.out).mono ?_; rintro e w4 ⟨rfl, hb4⟩; have bb4 : Hid (Below w2.heap.size w2 w4) := hW.out.trans ((hb2.out.trans (hb4.mono hb2.out.size)).mono hW.out.size); clear hR0 hb2 hB9 hb4 hT))
              go_roundw
              case rel => exact ⟨j + 1, by go_num, (show j + 1 ≤ 8 by omega), bb4.out⟩
              case measure => simp [intOf]; omega
            · have hz8 : 8 ≤ (j : Int) := by omega
              go_wp2_with fail
              go_roundw
              case rel => exact ⟨i + 1, by go_num, (show i + 1 ≤ 113 by omega), hW.out⟩
              case measure => simp [intOf]; omega
        · rw [decide_eq_true ha] at y1
          rw [decide_eq_true hb] at y2
          clear y3 y4
          go_wp2_with fail
          obtain ⟨wo, rfl⟩ : ∃ wo : World, wo = wr := ⟨_, rfl⟩
          clear hBr hrr bbr
          go_loopw [8] (fun v wr => ∃ j : Nat, v = .int .i64 (j : Int) ∧ Hid (j ≤ 8) ∧ Hid (Below w2.heap.size w2 wr)) (fun v _ => 8 - (intOf v).toNat)
          case atStart => exact ⟨0, rfl, (show 0 ≤ 8 by omega), hW.out⟩
          case round =>
            clear hW
            obtain ⟨j, rfl, hj2, hW⟩ := hrel
            by_cases hlj : j < 8
            · have hzj : (0 : Int) ≤ (j : Int) := by omega
              have hz8 : (j : Int) < 8 := by omega
              have hBr : Hid (Blk wr w.heap.size 30 (headCells h).toArray) := (hW.out.block _ hB2.out.lt).trans hB2.out
              have hrr : Hid (Reads (wr.alloc (.cells #[] 5)) 1 A2 113 (cells8 (headBytes h))) := (hr2.out.below hW.out).alloc _
              have hO0 : Hid ((wr.alloc (.cells #[] 5)).ownsRow wr.heap.size 5 1 (.slice (some ⟨wr.heap.size, 0, none⟩) 0 0) 0 []) := own_new wr wr.heap.size (Nat.le_refl _) 5 #[] 0 rfl (by decide)
              have hn0 : Hid (A2 = none → 113 = 0 ∧ c2 = 0) := hn2.out
              have hc1 : Hid (0 + 113 ≤ maxLen) := by show _ ≤ _; decide
              have hc3 : Hid ((0 + 113) * 1 ≤ 140737488355328) := by show _ ≤ _; decide
              have hs3 : Hid (wr.heap.size ≤ (wr.alloc (.cells #[] 5)).heap.size) := by show _ ≤ _; simp
              go_wp2_with (at_builtin; refine wpList_append_src _ rfl (.tmp 39) (.tmp 40) 23 rfl wr.heap.size 5 i0 (.int .u8 0) 1 1 Try.underlying23 hi hz0 hz1 hz2 rfl (by decide) (.slice (some ⟨wr.heap.size, 0, none⟩) 0 0) 0 [] rfl hO0.out A2 113 c2 (cells8 (headBytes h)) rfl hrr.out hn0.out (cells8_one _) hc1.out hc3.out hs3.out ?_; intro v1 w1 hG; have hb1 : Hid (Below wr.heap.size wr w1) := hG.below ((Below.refl _ _).alloc (Nat.le_refl _) _) hs3.out (fun k e => Nat.le_of_eq (Option.some.inj (show some wr.heap.size = some k from e))); obtain ⟨g, cap, rfl, hg1, hg2⟩ := hG.own.form (by decide); have hO1 := hG.own; rw [Nat.zero_add, List.nil_append] at hO1; replace hO1 := Lib.hid hO1; clear hG hrr hO0 hn0 hc1 hc3 hs3)
              have hcell : w1.cell? ⟨g, i, none⟩ = some (.int .u8 (b8 x0)) := by rw [hO1.out.cellAt i (by omega)]; exact cells8_at' hx0.out
              have hfz : w1.frozen? ⟨g, i, none⟩ = false := hO1.out.frozenAt i
              go_region
              obtain ⟨x1, hx1⟩ := xor_u8 x0 (2 ^ j % 256)
              rw [hx1]
              have hR0 : Hid (Reads ((w1.setCell ⟨g, i, none⟩ (.int .u8 (b8 x1))).drew) 1 (some ⟨g, 0, none⟩) 113 (cells8 ((headBytes h).set i x1))) := by
                have hO2 := (hO1.out.stored i (.int .u8 (b8 x1))).1
                show Reads _ _ _ _ _
                obtain ⟨A9, c9, e9, _, _, _, h9, _⟩ := Own.reads hO2
                cases e9
                rw [show (cells8 (headBytes h)).set i (Value.int .u8 (b8 x1)) = cells8 ((headBytes h).set i x1) from cells8_set _ _ _] at h9
                exact h9.drew
              have hb2 : Hid (Below wr.heap.size wr ((w1.setCell ⟨g, i, none⟩ (.int .u8 (b8 x1))).drew)) := (hb1.out.setCell (by omega) _).drew
              have hcap : Hid (113 ≤ cap) := by
                obtain ⟨A9, c9, e9, h9, _⟩ := Own.reads hO1.out
                cases e9
                exact h9
              have hB9 : Hid (Blk ((w1.setCell ⟨g, i, none⟩ (.int .u8 (b8 x1))).drew) w.heap.size 30 (headCells h).toArray) := (hb2.out.block _ hBr.out.lt).trans hBr.out
              have hl9 : Hid (((headBytes h).set i x1).length = 113) := by show _ = _; rw [List.length_set]; exact hl.out
              clear hcell hfz hO1 hb1 hx1
              generalize (w1.setCell ⟨g, i, none⟩ (.int .u8 (b8 x1))).drew = w3 at *
              go_wp2_with (first
                | ((with_reducible change wpList _ _ _ ({ dst := some 52, op := _, type := _, pos := _, after := _, guard := _ } :: _) _ _); refine wpList_load_row (o := ⟨some 52, _, _, _, _, _⟩) rfl 30 (.tmp 2) rfl w.heap.size rfl 30 (headCells h).toArray (0, 0) _ hB9.out Try.underlying30 rfl hz.out ?_)
                | (go_at_call 12; refine (hT.out _ ((headBytes h).set i x1) 113 hl9.out (by decide) (some ⟨g, 0, none⟩) cap hcap.out hR0.out).mono ?_; rintro e w4 ⟨rfl, hb4⟩; have bb4 : Hid (Below w2.heap.size w2 w4) := hW.out.trans ((hb2.out.trans (hb4.mono hb2.out.size)).mono hW.out.size); clear hR0 hb2 hB9 hb4 hT))
              go_roundw
              case rel => exact ⟨j + 1, by go_num, (show j + 1 ≤ 8 by omega), bb4.out⟩
              case measure => simp [intOf]; omega
            · have hz8 : 8 ≤ (j : Int) := by omega
              go_wp2_with fail
              go_roundw
              case rel => exact ⟨i + 1, by go_num, (show i + 1 ≤ 113 by omega), hW.out⟩
              case measure => simp [intOf]; omega
        · rw [decide_eq_true ha] at y1
          rw [decide_eq_false hb] at y2
          rw [decide_eq_true hc] at y3
          clear y4
          go_wp2_with fail
          obtain ⟨wo, rfl⟩ : ∃ wo : World, wo = wr := ⟨_, rfl⟩
          clear hBr hrr bbr
          go_loopw [8] (fun v wr => ∃ j : Nat, v = .int .i64 (j : Int) ∧ Hid (j ≤ 8) ∧ Hid (Below w2.heap.size w2 wr)) (fun v _ => 8 - (intOf v).toNat)
          case atStart => exact ⟨0, rfl, (show 0 ≤ 8 by omega), hW.out⟩
          case round =>
            clear hW
            obtain ⟨j, rfl, hj2, hW⟩ := hrel
            by_cases hlj : j < 8
            · have hzj : (0 : Int) ≤ (j : Int) := by omega
              have hz8 : (j : Int) < 8 := by omega
              have hBr : Hid (Blk wr w.heap.size 30 (headCells h).toArray) := (hW.out.block _ hB2.out.lt).trans hB2.out
              have hrr : Hid (Reads (wr.alloc (.cells #[] 5)) 1 A2 113 (cells8 (headBytes h))) := (hr2.out.below hW.out).alloc _
              have hO0 : Hid ((wr.alloc (.cells #[] 5)).ownsRow wr.heap.size 5 1 (.slice (some ⟨wr.heap.size, 0, none⟩) 0 0) 0 []) := own_new wr wr.heap.size (Nat.le_refl _) 5 #[] 0 rfl (by decide)
              have hn0 : Hid (A2 = none → 113 = 0 ∧ c2 = 0) := hn2.out
              have hc1 : Hid (0 + 113 ≤ maxLen) := by show _ ≤ _; decide
              have hc3 : Hid ((0 + 113) * 1 ≤ 140737488355328) := by show _ ≤ _; decide
              have hs3 : Hid (wr.heap.size ≤ (wr.alloc (.cells #[] 5)).heap.size) := by show _ ≤ _; simp
              go_wp2_with (at_builtin; refine wpList_append_src _ rfl (.tmp 39) (.tmp 40) 23 rfl wr.heap.size 5 i0 (.int .u8 0) 1 1 Try.underlying23 hi hz0 hz1 hz2 rfl (by decide) (.slice (some ⟨wr.heap.size, 0, none⟩) 0 0) 0 [] rfl hO0.out A2 113 c2 (cells8 (headBytes h)) rfl hrr.out hn0.out (cells8_one _) hc1.out hc3.out hs3.out ?_; intro v1 w1 hG; have hb1 : Hid (Below wr.heap.size wr w1) := hG.below ((Below.refl _ _).alloc (Nat.le_refl _) _) hs3.out (fun k e => Nat.le_of_eq (Option.some.inj (show some wr.heap.size = some k from e))); obtain ⟨g, cap, rfl, hg1, hg2⟩ := hG.own.form (by decide); have hO1 := hG.own; rw [Nat.zero_add, List.nil_append] at hO1; replace hO1 := Lib.hid hO1; clear hG hrr hO0 hn0 hc1 hc3 hs3)
              have hcell : w1.cell? ⟨g, i, none⟩ = some (.int .u8 (b8 x0)) := by rw [hO1.out.cellAt i (by omega)]; exact cells8_at' hx0.out
              have hfz : w1.frozen? ⟨g, i, none⟩ = false := hO1.out.frozenAt i
              go_region
              obtain ⟨x1, hx1⟩ := xor_u8 x0 (2 ^ j % 256)
              rw [hx1]
              have hR0 : Hid (Reads ((w1.setCell ⟨g, i, none⟩ (.int .u8 (b8 x1))).drew) 1 (some ⟨g, 0, none⟩) 113 (cells8 ((headBytes h).set i x1))) := by
                have hO2 := (hO1.out.stored i (.int .u8 (b8 x1))).1
                show Reads _ _ _ _ _
                obtain ⟨A9, c9, e9, _, _, _, h9, _⟩ := Own.reads hO2
                cases e9
                rw [show (cells8 (headBytes h)).set i (Value.int .u8 (b8 x1)) = cells8 ((headBytes h).set i x1) from cells8_set _ _ _] at h9
                exact h9.drew
              have hb2 : Hid (Below wr.heap.size wr ((w1.setCell ⟨g, i, none⟩ (.int .u8 (b8 x1))).drew)) := (hb1.out.setCell (by omega) _).drew
              have hcap : Hid (113 ≤ cap) := by
                obtain ⟨A9, c9, e9, h9, _⟩ := Own.reads hO1.out
                cases e9
                exact h9
              have hB9 : Hid (Blk ((w1.setCell ⟨g, i, none⟩ (.int .u8 (b8 x1))).drew) w.heap.size 30 (headCells h).toArray) := (hb2.out.block _ hBr.out.lt).trans hBr.out
              have hl9 : Hid (((headBytes h).set i x1).length = 113) := by show _ = _; rw [List.length_set]; exact hl.out
              clear hcell hfz hO1 hb1 hx1
              generalize (w1.setCell ⟨g, i, none⟩ (.int .u8 (b8 x1))).drew = w3 at *
              go_wp2_with (first
                | ((with_reducible change wpList _ _ _ ({ dst := some 52, op := _, type := _, pos := _, after := _, guard := _ } :: _) _ _); refine wpList_load_row (o := ⟨some 52, _, _, _, _, _⟩) rfl 30 (.tmp 2) rfl w.heap.size rfl 30 (headCells h).toArray (0, 0) _ hB9.out Try.underlying30 rfl hz.out ?_)
                | (go_at_call 12; refine (hT.out _ ((headBytes h).set i x1) 113 hl9.out (by decide) (some ⟨g, 0, none⟩) cap hcap.out hR0.out).mono ?_; rintro e w4 ⟨rfl, hb4⟩; have bb4 : Hid (Below w2.heap.size w2 w4) := hW.out.trans ((hb2.out.trans (hb4.mono hb2.out.size)).mono hW.out.size); clear hR0 hb2 hB9 hb4 hT))
              go_roundw
              case rel => exact ⟨j + 1, by go_num, (show j + 1 ≤ 8 by omega), bb4.out⟩
              case measure => simp [intOf]; omega
            · have hz8 : 8 ≤ (j : Int) := by omega
              go_wp2_with fail
              go_roundw
              case rel => exact ⟨i + 1, by go_num, (show i + 1 ≤ 113 by omega), hW.out⟩
              case measure => simp [intOf]; omega
      · have hcase : (0 < i ∧ i < 33) ∨ (41 ≤ i ∧ i < 105) := by omega
        clear hin
        rcases hcase with ⟨ha, hb⟩ | ⟨ha, hb⟩
        · have y1 : (i : Int) < 33 := by omega
          have y2 : ((i : Int) == 0) = false := by simp; omega
          have y3 : decide (105 ≤ (i : Int)) = false := by simp; omega
          go_wp2_with fail
          go_roundw
          case rel => exact ⟨i + 1, by go_num, (show i + 1 ≤ 113 by omega), hW.out⟩
          case measure => simp [intOf]; omega
        · have y1 : 33 ≤ (i : Int) := by omega
          have y2 : ((i : Int) == 0) = false := by simp; omega
          have y3 : decide (105 ≤ (i : Int)) = false := by simp; omega
          have y4 : decide ((i : Int) < 41) = false := by simp; omega
          go_wp2_with fail
          go_roundw
          case rel => exact ⟨i + 1, by go_num, (show i + 1 ≤ 113 by omega), hW.out⟩
          case measure => simp [intOf]; omega
    · obtain rfl : i = 113 := by have := hi2.out; omega
      have hBr2 := Lib.hid hBr.out
      go_wp2_with (first
        | ((with_reducible change wpList _ _ _ ({ dst := some 56, op := _, type := _, pos := _, after := _, guard := _ } :: _) _ _); refine wpList_load_row (o := ⟨some 56, _, _, _, _, _⟩) rfl 30 (.tmp 2) rfl w.heap.size rfl 30 (headCells h).toArray (0, 0) _ hBr.out Try.underlying30 rfl hz.out ?_)
        | (go_at_call 12; refine (hT.out _ q k hq0.out hk0.out A c hkc0.out (hQ.out _ bbr.out)).mono ?_; rintro e w3 ⟨rfl, hb3⟩; clear hBr; have hB3 : Hid (Blk w3 w.heap.size 30 (headCells h).toArray) := (hb3.block _ hBr2.out.lt).trans hBr2.out; have bb3 : Hid (Below w.heap.size w w3) := bbr.out.trans (hb3.mono bbr.out.size); have hrr3 : Hid (Reads w3 1 A2 113 (cells8 (headBytes h))) := hrr.out.below hb3; clear bbr hb3 hq0))
      refine wp_load_row (o := ⟨some 60, _, _, _, _, _⟩) 30 (.tmp 2) rfl w.heap.size rfl 30 (headCells h).toArray (0, 0) _ hB3.out Try.underlying30 rfl hz.out ?_
      go_simp
      rename_i K66 hK66
      refine hK66 _ _ ?_
      clear hK66 K66
      go_wp2_with (go_at_call 12; refine (hT.out _ (headBytes h) 113 hl.out (by decide) A2 c2 hc2.out hrr3.out).mono ?_; rintro e w4 ⟨rfl, hb4⟩; have bb4 : Hid (Below w.heap.size w w4) := bb3.out.trans (hb4.mono bb3.out.size))
      go_ret
      exact ⟨rfl, bb4.out⟩
set_option maxRecDepth 100000 in
set_option maxHeartbeats 1000000 in
theorem headHeads_no (h : HeadD) (ok : h.Ok) (hr : rightB h = false) (q : Text) (k : Nat) (hk : q.length = k) (hk47 : k < 140737488355328) (A : Option Addr) (c : Nat) (hkc : k ≤ c) (w : World) (hq : Reads w 1 A k (cells8 q)) :
    Calls Try.prog 6 #[.agg (headCells h).toArray, .slice A k c] w fun e w' => e = .returned (.bool true) ∧ Below w.heap.size w w' := by
  obtain ⟨hz, ho, hs⟩ := head_sizes ok
  have hB0 : Hid (Blk (w.alloc (.cells (headCells h).toArray 30)) w.heap.size 30 (headCells h).toArray) := Blk.new w _ _
  have hb0 : Hid (Below w.heap.size w (w.alloc (.cells (headCells h).toArray 30))) := Below.heap_below w _
  have hz0' : Hid ((w.alloc (.cells (headCells h).toArray 30)).heap.size = w.heap.size + 1) := by show _ = _; simp
  have hT := fun (w' : World) (q' : Text) (k' : Nat) (a1 : q'.length = k') (a2 : k' < 140737488355328) (A' : Option Addr) (c' : Nat) (a3 : k' ≤ c') (a4 : Reads w' 1 A' k' (cells8 q')) => heads_any h ok q' k' a1 a2 A' c' a3 w' a4
  replace hT := Lib.hid hT
  have hQ : Hid (∀ w', Below w.heap.size w w' → Reads w' 1 A k (cells8 q)) := fun w' hb => hq.below hb
  have hq0 := Lib.hid hk
  have hk0 := Lib.hid hk47
  have hkc0 := Lib.hid hkc
  clear hq hk hk47 hkc
  go_enter Try.func6, Try.ntmps6
  go_wp2_with (first
    | ((with_reducible change wpList _ _ _ ({ dst := some 11, op := _, type := _, pos := _, after := _, guard := _ } :: _) _ _); refine wpList_load_row (o := ⟨some 11, _, _, _, _, _⟩) rfl 30 (.tmp 2) rfl w.heap.size rfl 30 (headCells h).toArray (0, 0) _ hB0.out Try.underlying30 rfl hz.out ?_)
    | (go_at_call 11; refine (refHead_no h ok hr _).mono ?_; rintro e w2 ⟨rfl, hb2⟩; rw [hz0'.out] at hb2; have hB2 : Hid (Blk w2 w.heap.size 30 (headCells h).toArray) := (hb2.block _ (by omega)).trans hB0.out; have bb2 : Hid (Below w.heap.size w w2) := hb0.out.trans (hb2.mono (by omega)); clear hb2 hB0 hb0))
  clear hz0'
  refine wp_loop_once ?_
  have hBr2 := Lib.hid hB2.out
  go_wp2_with (first
    | ((with_reducible change wpList _ _ _ ({ dst := some 56, op := _, type := _, pos := _, after := _, guard := _ } :: _) _ _); refine wpList_load_row (o := ⟨some 56, _, _, _, _, _⟩) rfl 30 (.tmp 2) rfl w.heap.size rfl 30 (headCells h).toArray (0, 0) _ hB2.out Try.underlying30 rfl hz.out ?_)
    | (go_at_call 12; refine (hT.out _ q k hq0.out hk0.out A c hkc0.out (hQ.out _ bb2.out)).mono ?_; rintro e w3 ⟨rfl, hb3⟩; clear hB2; have hB3 : Hid (Blk w3 w.heap.size 30 (headCells h).toArray) := (hb3.block _ hBr2.out.lt).trans hBr2.out; have bb3 : Hid (Below w.heap.size w w3) := bb2.out.trans (hb3.mono bb2.out.size); clear bb2 hb3 hq0))
  refine wp_load_row (o := ⟨some 60, _, _, _, _, _⟩) 30 (.tmp 2) rfl w.heap.size rfl 30 (headCells h).toArray (0, 0) _ hB3.out Try.underlying30 rfl hz.out ?_
  go_simp
  rename_i K66 hK66
  refine hK66 _ _ ?_
  clear hK66 K66
  go_wp2_with (go_at_call 12; refine (hT.out _ [] 0 rfl (by decide) none 0 (Nat.le_refl _) (Reads.nil_ _ _ _)).mono ?_; rintro e w4 ⟨rfl, hb4⟩; have bb4 : Hid (Below w.heap.size w w4) := bb3.out.trans (hb4.mono bb3.out.size))
  go_ret
  exact ⟨rfl, bb4.out⟩

theorem headHeads_any (h : HeadD) (ok : h.Ok) (q : Text) (k : Nat) (hk : q.length = k) (hk47 : k < 140737488355328) (A : Option Addr) (c : Nat) (hkc : k ≤ c) (w : World) (hq : Reads w 1 A k (cells8 q)) :
    Calls Try.prog 6 #[.agg (headCells h).toArray, .slice A k c] w fun e w' => e = .returned (.bool true) ∧ Below w.heap.size w w' := by
  cases hr : rightB h
  · exact headHeads_no h ok hr q k hk hk47 A c hkc w hq
  · exact headHeads_yes h ok hr q k hk hk47 A c hkc w hq
end Go.Proofs.Ytngieimjlkpkaaa.HeadHeads
