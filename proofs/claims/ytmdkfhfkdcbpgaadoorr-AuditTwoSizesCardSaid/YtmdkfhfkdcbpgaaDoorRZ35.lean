/-
  Texts of the claim, put into one file: Agree, RefAgree.
-/
import Derived.Test.YtmdkfhfkdcbpgaaDoorRZ31
import Derived.Test.YtmdkfhfkdcbpgaaDoorRZ34

namespace Go.Proofs.YtmdkfhfkdcbpgaaDoorR.Agree
open Go Go.RowKit Go.Proofs.YtmdkfhfkdcbpgaaDoorR Digest Mem Sha Bytes Go.Proofs.YtmdkfhfkdcbpgaaDoorR.Append HashMem DigestMem DigestTop DigEq QuietTail Grown TreeMath TreeMem TreeRoot Held Guard Book Subs RowsP Joint AheadM AheadT Ahead

theorem _root_.Go.Proofs.YtmdkfhfkdcbpgaaDoorR.Mem.Blk.onA {w w' : World} {g : Nat} {t : TypeId} {cs : Array Value} (h : Blk w g t cs) (hb : Below w.heap.size w w') : Blk w' g t cs := (hb.block g h.lt).trans h
def agA (s : Int) (old size : Nat) (r0 : Text) (ds : List Text) : Text := if old = 0 then noneOf s else if old = size then r0 else (aheadOf s old size r0 ds).fr
def agB (s : Int) (old size : Nat) (r0 r1 : Text) (ds : List Text) : Text := if old = size then r0 else if old = 0 then r1 else (aheadOf s old size r0 ds).sr
def agreeOf (s : Int) (old size : Int) (r0 r1 : Text) (ds : List Text) : Int :=
 if joinsB old size = false then 60 else if betw old.toNat size.toNat ≠ ds.length then 170
 else if agA s old.toNat size.toNat r0 ds = r0 ∧ agB s old.toNat size.toNat r0 r1 ds = r1 then 0 else 171
theorem aheadOf_ok {s : Int} {old size : Nat} {r0 : Text} {ds : List Text} (h1 : 1 ≤ old) (h2 : old < size) (h0 : r0.length = 32) (hd : Digs ds) (hn : betw old size = ds.length) : (aheadOf s old size r0 ds).fr.length = 32 ∧ (aheadOf s old size r0 ds).sr.length = 32 ∧ (∀ q ∈ (aheadOf s old size r0 ds).ft, q.length = 65) ∧ (∀ q ∈ (aheadOf s old size r0 ds).st, q.length = 65) ∧ (aheadOf s old size r0 ds).ft.length ≤ ds.length ∧ (aheadOf s old size r0 ds).st.length ≤ ds.length := by
 obtain ⟨hl, -, -⟩ := parts_low h1 h2
 have hpl := partsOf_len (Nat.le_of_lt h2)
 have hz : (((partsOf old size).map (bh old)).zip ds).length = ds.length := by rw [List.length_zip, List.length_map]; omega
 have hx : (if powB old then r0 else ds.getD 0 []).length = 32 := by
  split
  ·exact h0
  ·obtain ⟨d, hd0⟩ : ∃ d, ds[0]? = some d := ⟨_, List.getElem?_eq_getElem (by omega)⟩
   have := hd.at_ hd0
   simpa [List.getD, hd0] using this
 have h := aheadS_ok (s := s) (low := lowOf old) (P := ((partsOf old size).map (bh old)).zip ds) hx (fun p hp => hd _ (List.of_mem_zip (show (p.1, p.2) ∈ _ from hp)).2) (ds.length - lowOf old) (by omega)
 rw [show lowOf old + (ds.length - lowOf old) = ds.length by omega] at h
 exact ⟨h.fl, h.sl, h.ft, h.st, by have := h.fk; show (aheadS _ _ _ _ _).ft.length ≤ _; omega, by have := h.sk; show (aheadS _ _ _ _ _).st.length ≤ _; omega⟩
theorem agA_len {s : Int} {old size : Nat} {r0 : Text} {ds : List Text} (hle : old ≤ size) (h0 : r0.length = 32) (hd : Digs ds) (hn : betw old size = ds.length) : (agA s old size r0 ds).length = 32 := by
 unfold agA
 split
 ·exact noneOf_len s
 ·split
  ·exact h0
  ·exact (aheadOf_ok (by omega) (by omega) h0 hd hn).1
theorem agB_len {s : Int} {old size : Nat} {r0 r1 : Text} {ds : List Text} (hle : old ≤ size) (h0 : r0.length = 32) (h1 : r1.length = 32) (hd : Digs ds) (hn : betw old size = ds.length) : (agB s old size r0 r1 ds).length = 32 := by
 unfold agB
 split
 ·exact h0
 ·split
  ·exact h1
  ·exact (aheadOf_ok (by omega) (by omega) h0 hd hn).2.1

set_option maxRecDepth 100000 in
set_option maxHeartbeats 1000000 in
theorem agree_out (s old size : Int) (h : joinsB old size = false) (r0 r1 : Text) (A : Option Addr) (n c : Nat) (w : World) :
  Calls Tryd.prog 208 #[.int .i64 s, .int .i64 old, .int .i64 size, .agg (cells8 r0).toArray, .agg (cells8 r1).toArray, .slice A n c] w fun e w' => e = .returned (.int .i64 60) ∧ Below w.heap.size w w' := by
 have hb : Hid (Below w.heap.size w ((w.alloc (.cells (cells8 r0).toArray 23)).alloc (.cells (cells8 r1).toArray 23))) := (Below.heap_below w _).alloc (by simp) _
 replace h := Lib.hid h
 go_enter Tryd.func208, Tryd.ntmps208
 go_wp2_with fail
 refine (sizes_any old size _).mono ?_
 rw [h.out]
 rintro e w1 ⟨rfl, rfl⟩
 go_wp2_with fail
 go_ret
 exact ⟨rfl, hb.out⟩

set_option maxRecDepth 100000 in
set_option maxHeartbeats 4000000 in
theorem agree_in (s : Int) (old size : Nat) (hle : old ≤ size) (hs : size ≤ 1099511627776) (r0 r1 : Text) (h0 : r0.length = 32) (h1 : r1.length = 32) (ds : List Text) (A : Option Addr) (n c : Nat) (w : World) (hB : Base w) (hr : RdD w A n ds) :
  Calls Tryd.prog 208 #[.int .i64 s, .int .i64 (old : Int), .int .i64 (size : Int), .agg (cells8 r0).toArray, .agg (cells8 r1).toArray, .slice A n c] w fun e w' => e = .returned (.int .i64 (agreeOf s old size r0 r1 ds)) ∧ Below w.heap.size w w' := by
 have hj : joinsB (old : Int) (size : Int) = true := by
  have a1 : (0 : Int) ≤ old := by omega
  have a2 : (old : Int) ≤ size := by omega
  have a3 : (size : Int) ≤ 1099511627776 := by omega
  simp [joinsB, a1, a2, a3]
 have hSz : Hid (∀ w', Calls Tryd.prog 81 #[.int .i64 (old : Int), .int .i64 (size : Int)] w' fun e w'' => e = .returned (.bool true) ∧ w' = w'') := fun w' => by have := sizes_any old size w'; rwa [hj] at this
 have hPt := Lib.hid (fun w' => parts_any old size hle hs w')
 have hpl := partsOf_len hle
 obtain ⟨m, hm⟩ : ∃ m, betw old size = m := ⟨_, rfl⟩
 have hans : agreeOf s old size r0 r1 ds = if m ≠ n then 170 else if agA s old size r0 ds = r0 ∧ agB s old size r0 r1 ds = r1 then 0 else 171 := by
  unfold agreeOf
  rw [if_neg (by rw [hj]; decide), Int.toNat_natCast, Int.toNat_natCast, hm, hr.1]
 obtain ⟨ans, han⟩ : ∃ a, agreeOf s old size r0 r1 ds = a := ⟨_, rfl⟩
 rw [han] at hans ⊢
 obtain ⟨w0, hw0⟩ : ∃ w0, Hid (w0 = (w.alloc (.cells (cells8 r0).toArray 23)).alloc (.cells (cells8 r1).toArray 23)) := ⟨_, rfl⟩
 have hb0 : Hid (Below w.heap.size w w0) := by show Below _ _ _; rw [hw0.out]; exact (Below.heap_below w _).alloc (by simp) _
 have hX0 : Hid (Blk w0 w.heap.size 23 (cells8 r0).toArray) := by show Blk _ _ _ _; rw [hw0.out]; exact heap_alloc2_old w _ _
 have hY0 : Hid (Blk w0 (w.heap.size + 1) 23 (cells8 r1).toArray) := by show Blk _ _ _ _; rw [hw0.out]; exact heap_alloc2_new w _ _
 have F0 := Lib.hid (fit (x := r0) h0)
 have F1 := Lib.hid (fit (x := r1) h1)
 have hBs := Lib.hid (fun w' (hb : Below w.heap.size w w') => hB.below hb hB.1)
 have g1 : (0 : Int) ≤ (old : Int) := by omega
 have g2 : (old : Int) ≤ 1099511627776 := by omega
 have g3 : (0 : Int) ≤ (size : Int) := by omega
 have g4 : (size : Int) ≤ 1099511627776 := by omega
 have hpm : Hid ((partsOf old size).length = m) := by show _ = _; rw [hpl, hm]
 by_cases hmn : m = n
 ·rw [if_neg (fun h => h hmn)] at hans
  have hn : betw old size = ds.length := by rw [hm, hmn, hr.1]
  subst hmn
  have hal := agA_len (s := s) hle h0 hr.2.1 hn
  have hbl := agB_len (s := s) (r1 := r1) hle h0 h1 hr.2.1 hn
  have hva : Hid (∀ w', Below w.heap.size w w' → 1 ≤ old → old < size → Calls Tryd.prog 209 #[.int .i64 s, .int .i64 (old : Int), .int .i64 (size : Int), .agg (cells8 r0).toArray, .slice A m c] w' (AhPost w' (aheadOf s old size r0 ds))) := fun w' hb e1 e2 => ahead_any s old size e1 e2 hs r0 h0 ds A m c hpm.out w' (hBs.out w' hb) (hr.below hb)
  have hA0 : Hid (old = 0 → agA s old size r0 ds = noneOf s) := fun h => if_pos h
  have hA1 : Hid (old ≠ 0 → old = size → agA s old size r0 ds = r0) := fun h k => by unfold agA; rw [if_neg h, if_pos k]
  have hA2 : Hid (old ≠ 0 → old ≠ size → agA s old size r0 ds = (aheadOf s old size r0 ds).fr) := fun h k => by unfold agA; rw [if_neg h, if_neg k]
  have hB1 : Hid (old = size → agB s old size r0 r1 ds = r0) := fun h => if_pos h
  have hB0 : Hid (old ≠ size → old = 0 → agB s old size r0 r1 ds = r1) := fun h k => by unfold agB; rw [if_neg h, if_pos k]
  have hB2 : Hid (old ≠ size → old ≠ 0 → agB s old size r0 r1 ds = (aheadOf s old size r0 ds).sr) := fun h k => by unfold agB; rw [if_neg h, if_neg k]
  obtain ⟨va, hvA⟩ : ∃ v, agA s old size r0 ds = v := ⟨_, rfl⟩
  obtain ⟨vb, hvB⟩ : ∃ v, agB s old size r0 r1 ds = v := ⟨_, rfl⟩
  rw [hvA] at hans hal hA0 hA1 hA2
  rw [hvB] at hans hbl hB0 hB1 hB2
  have Fa := Lib.hid (fit (x := va) hal)
  have Fb := Lib.hid (fit (x := vb) hbl)
  have hqa := Lib.hid (fun w => equal_dig va r0 hal h0 w)
  have hqb := Lib.hid (fun w => equal_dig vb r1 hbl h1 w)
  have hNo := Lib.hid (fun w' (hb : Below w.heap.size w w') => nothing_any s w' (hBs.out w' hb))
  have e1 : ((m : Int) == (m : Int)) = true := beq_self_eq_true _
  have l0 := Lib.hid h0
  have l1 := Lib.hid h1
  replace hans := Lib.hid hans
  replace hle := Lib.hid hle
  clear hj hB hr hs h0 h1 hpl hm han hn hal hbl hvA hvB
  go_enter Tryd.func208, Tryd.ntmps208
  go_wp2_with fail
  change Calls _ _ _ ((w.alloc (.cells (cells8 r0).toArray 23)).alloc (.cells (cells8 r1).toArray 23)) _
  rw [← hw0.out]
  clear hw0
  refine (hSz.out _).mono ?_
  rintro e w1 ⟨rfl, rfl⟩
  go_wp2_with fail
  refine (hPt.out _).mono ?_
  rintro e w4 ⟨v, rfl, hO, hk1⟩
  rw [hpm.out] at hO
  obtain ⟨Ap, cp, rfl, -⟩ := Append.Own.reads hO
  have hb4 : Hid (Below w.heap.size w w4) := hb0.out.trans (hk1.mono hb0.out.size)
  have hX4 : Hid (Blk w4 w.heap.size 23 (cells8 r0).toArray) := Blk.onA hX0.out hk1
  have hY4 : Hid (Blk w4 (w.heap.size + 1) 23 (cells8 r1).toArray) := Blk.onA hY0.out hk1
  clear hO hk1 hb0 hX0 hY0 hSz hPt hpm
  go_wp2_with fail
  go_cut [13, 14] from 26 to 27 (fun v u wr => ∃ m13 m14 : Nat, v = .pointer (some ⟨m13, 0, none⟩) ∧ u = .pointer (some ⟨m14, 0, none⟩) ∧ Hid (m13 ≠ m14) ∧ Hid (w4.heap.size ≤ m13) ∧ Hid (w4.heap.size ≤ m14) ∧ Hid (Blk wr m13 23 (cells8 r0).toArray) ∧ Hid (Blk wr m14 23 (cells8 r1).toArray) ∧ Hid (Below w4.heap.size w4 wr))
  case first =>
   have s0 : Hid (Below w4.heap.size w4 w4.drew) := (Below.refl _ _).drew
   refine held_start (fun w' => Below w4.heap.size w4 w') 6 rfl (by kernel_rfl) ?_
   refine Held.tk0 (i := 0) (v := .agg ((cells8 r0).toArray)) rfl s0.out (fun w' hw' => exec_row 23 (.tmp 9) rfl (w.heap.size) rfl 23 ((cells8 r0).toArray) (0, 0) _ ((hw'.block _ hX4.out.lt).trans hX4.out) Tryd.underlying23 rfl F0.out.size) ?_
   (intro K k; go_simp; apply k; clear k K)
   refine Held.tk0 (i := 1) (v := .agg ((cells8 r1).toArray)) rfl s0.out (fun w' hw' => exec_row 23 (.tmp 10) rfl ((w.heap.size + 1)) rfl 23 ((cells8 r1).toArray) (0, 0) _ ((hw'.block _ hY4.out.lt).trans hY4.out) Tryd.underlying23 rfl F1.out.size) ?_
   (intro K k; go_simp; apply k; clear k K)
   refine held_two (i := 2) (j := 3) rfl rfl (by kernel_rfl) (by rfl) (by rfl) (fun K hK => ?_) (fun K hK => ?_)
   ·have h5 : Hid (Below w4.heap.size w4 (w4.drew.alloc (.cells Z32 23))) := s0.out.alloc s0.out.size _
    have bA : Hid (Blk (w4.drew.alloc (.cells Z32 23)) w4.drew.heap.size 23 Z32) := Blk.new _ _ _
    go_simp
    refine hK _ _ h5.out ?_
    clear hK K
    refine held_only (i := 3) rfl (by kernel_rfl) (by rfl) (fun K hK => ?_)
    have h6 : Hid (Below w4.heap.size w4 ((w4.drew.alloc (.cells Z32 23)).alloc (.cells Z32 23))) := h5.out.alloc h5.out.size _
    have bB : Hid (Blk ((w4.drew.alloc (.cells Z32 23)).alloc (.cells Z32 23)) (w4.drew.alloc (.cells Z32 23)).heap.size 23 Z32) := Blk.new _ _ _
    go_simp
    refine hK _ _ h6.out ?_
    clear hK K
    have hzA : Hid ((w4.drew.alloc (.cells Z32 23)).heap.size = w4.heap.size + 1) := by show _ = _; simp
    replace bA : Hid (Blk ((w4.drew.alloc (.cells Z32 23)).alloc (.cells Z32 23)) w4.heap.size 23 Z32) := bA.out.alloc _
    replace bB : Hid (Blk ((w4.drew.alloc (.cells Z32 23)).alloc (.cells Z32 23)) (w4.heap.size + 1) 23 Z32) := by have := bB.out; rw [hzA.out] at this; exact this
    refine held_only (i := 4) rfl (by kernel_rfl) (by rfl) (fun K hK => ?_)
    refine wp_store_whole 23 (.tmp 13) (.tmp 26) rfl (w4.heap.size) ((cells8 r0).toArray) rfl rfl 23 Z32 bA.out F0.out.size F0.out.zero F0.out.one ?_
    intro w7 q7 k7
    have h7 : Hid (Below w4.heap.size w4 w7) := h6.out.trans (Kept.below_of k7 (by omega) h6.out.size)
    have o7 : Hid (Blk w7 (w4.heap.size + 1) 23 Z32) := bB.out.kept k7 (by omega)
    go_simp
    refine hK _ _ h7.out ?_
    clear hK K
    refine held_only (i := 5) rfl (by kernel_rfl) (by rfl) (fun K hK => ?_)
    refine wp_store_whole 23 (.tmp 14) (.tmp 27) rfl (w4.heap.size + 1) ((cells8 r1).toArray) rfl rfl 23 Z32 o7.out F1.out.size F1.out.zero F1.out.one ?_
    intro w8 q8 k8
    have h8 : Hid (Below w4.heap.size w4 w8) := h7.out.trans (Kept.below_of k8 (by omega) h7.out.size)
    have o8 : Hid (Blk w8 (w4.heap.size) 23 (cells8 r0).toArray) := q7.kept k8 (by omega)
    go_simp
    refine hK _ _ h8.out ?_
    clear hK K
    refine held_end (by kernel_rfl) ?_
    go_wp2_with fail
    go_meet
    case rel => exact ⟨w4.heap.size, w4.heap.size + 1, rfl, rfl, (by show _ ≠ _; omega), (by show _ ≤ _; omega), (by show _ ≤ _; omega), o8.out, q8, h8.out⟩
   ·have h5 : Hid (Below w4.heap.size w4 (w4.drew.alloc (.cells Z32 23))) := s0.out.alloc s0.out.size _
    have bA : Hid (Blk (w4.drew.alloc (.cells Z32 23)) w4.drew.heap.size 23 Z32) := Blk.new _ _ _
    go_simp
    refine hK _ _ h5.out ?_
    clear hK K
    refine held_only (i := 2) rfl (by kernel_rfl) (by rfl) (fun K hK => ?_)
    have h6 : Hid (Below w4.heap.size w4 ((w4.drew.alloc (.cells Z32 23)).alloc (.cells Z32 23))) := h5.out.alloc h5.out.size _
    have bB : Hid (Blk ((w4.drew.alloc (.cells Z32 23)).alloc (.cells Z32 23)) (w4.drew.alloc (.cells Z32 23)).heap.size 23 Z32) := Blk.new _ _ _
    go_simp
    refine hK _ _ h6.out ?_
    clear hK K
    have hzA : Hid ((w4.drew.alloc (.cells Z32 23)).heap.size = w4.heap.size + 1) := by show _ = _; simp
    replace bA : Hid (Blk ((w4.drew.alloc (.cells Z32 23)).alloc (.cells Z32 23)) w4.heap.size 23 Z32) := bA.out.alloc _
    replace bB : Hid (Blk ((w4.drew.alloc (.cells Z32 23)).alloc (.cells Z32 23)) (w4.heap.size + 1) 23 Z32) := by have := bB.out; rw [hzA.out] at this; exact this
    refine held_only (i := 4) rfl (by kernel_rfl) (by rfl) (fun K hK => ?_)
    refine wp_store_whole 23 (.tmp 13) (.tmp 26) rfl (w4.heap.size + 1) ((cells8 r0).toArray) rfl rfl 23 Z32 bB.out F0.out.size F0.out.zero F0.out.one ?_
    intro w7 q7 k7
    have h7 : Hid (Below w4.heap.size w4 w7) := h6.out.trans (Kept.below_of k7 (by omega) h6.out.size)
    have o7 : Hid (Blk w7 (w4.heap.size) 23 Z32) := bA.out.kept k7 (by omega)
    go_simp
    refine hK _ _ h7.out ?_
    clear hK K
    refine held_only (i := 5) rfl (by kernel_rfl) (by rfl) (fun K hK => ?_)
    refine wp_store_whole 23 (.tmp 14) (.tmp 27) rfl (w4.heap.size) ((cells8 r1).toArray) rfl rfl 23 Z32 o7.out F1.out.size F1.out.zero F1.out.one ?_
    intro w8 q8 k8
    have h8 : Hid (Below w4.heap.size w4 w8) := h7.out.trans (Kept.below_of k8 (by omega) h7.out.size)
    have o8 : Hid (Blk w8 (w4.heap.size + 1) 23 (cells8 r0).toArray) := q7.kept k8 (by omega)
    go_simp
    refine hK _ _ h8.out ?_
    clear hK K
    refine held_end (by kernel_rfl) ?_
    go_wp2_with fail
    go_meet
    case rel => exact ⟨w4.heap.size + 1, w4.heap.size, rfl, rfl, (by show _ ≠ _; omega), (by show _ ≤ _; omega), (by show _ ≤ _; omega), o8.out, q8, h8.out⟩
  case rest =>
   obtain ⟨m13, m14, rfl, rfl, hne, hl13, hl14, hM13, hM14, hk5⟩ := hcut
   obtain ⟨w5, rfl⟩ : ∃ w5 : World, w5 = wc := ⟨_, rfl⟩
   have hb5 : Hid (Below w.heap.size w w5) := hb4.out.trans (hk5.out.mono hb4.out.size)
   have hX5 : Hid (Blk w5 w.heap.size 23 (cells8 r0).toArray) := Blk.onA hX4.out hk5.out
   have hY5 : Hid (Blk w5 (w.heap.size + 1) 23 (cells8 r1).toArray) := Blk.onA hY4.out hk5.out
   have hd : Hid (m13 ≠ m14 ∧ w.heap.size + 1 < m13 ∧ w.heap.size + 1 < m14) := by have := hne.out; have := hl13.out; have := hl14.out; have := hY4.out.lt; show _ ∧ _; omega
   clear hne hl13 hl14 hk5 hb4 hX4 hY4 e1
   by_cases ho : old = 0
   ·have t1 : ((old : Int) == 0) = true := by rw [ho]; rfl
    have t0 : old = 0 := ho
    by_cases hz : size = 0
    ·have t2 : ¬ ((0 : Int) < (size : Int)) := by omega
     have t3 : ((old : Int) == (size : Int)) = true := beq_iff_eq.2 (by omega)
     have t4 : ((size : Int) == 0) = true := by rw [hz]; rfl
     have hbe : r0 = vb := (hB1.out (by omega)).symm
     have hae : noneOf s = va := (hA0.out ho).symm
     have hM5 := hM13
     have hN5 := hM14
     replace hae := Lib.hid hae
     subst hbe
     clear hA0 hA1 hA2 hB0 hB1 hB2 ho hz hM13 hM14
     by_cases hv1 : va = r0
     ·by_cases hv2 : r0 = r1
      ·have qa : ∀ w, (Op.equalIn 10000 23 (.agg (cells8 va).toArray) (.agg (cells8 r0).toArray)).run Tryd.prog w = .ok true w := fun w => by rw [hqa.out w, decide_eq_true hv1]
       have qb : ∀ w, (Op.equalIn 10000 23 (.agg (cells8 r0).toArray) (.agg (cells8 r1).toArray)).run Tryd.prog w = .ok true w := fun w => by rw [hqb.out w, decide_eq_true hv2]
       have ha : ans = 0 := by rw [hans.out, if_pos ⟨hv1, hv2⟩]
       clear hv1 hv2
       go_wp2_with (first
        | ((with_reducible change wpList _ _ _ (⟨some 51, _, _, _, _, _⟩ :: _) _ _); refine wpList_load_row (o := ⟨some 51, _, _, _, _, _⟩) rfl 23 (.tmp 9) rfl (w.heap.size) rfl 23 ((cells8 r0).toArray) (0, 0) _ hX5.out Tryd.underlying23 rfl F0.out.size ?_)
        | ((with_reducible change wpList _ _ _ ({ dst := none, op := Op.store 23 (.tmp 14) _, type := _, pos := _, after := _, guard := _ } :: _) _ _); refine wpList_store_whole (o := ⟨none, _, _, _, _, _⟩) rfl 23 (.tmp 14) (.tmp 51) rfl (m14) ((cells8 r0).toArray) rfl rfl 23 ((cells8 r1).toArray) hN5.out F0.out.size (F0.out.same r1 l1.out) F0.out.one ?_; intro w6 q6 k6; have hN6 : Hid (Blk w6 m14 23 (cells8 r0).toArray) := q6; have hX6 : Hid (Blk w6 w.heap.size 23 (cells8 r0).toArray) := hX5.out.kept k6 (by have := hd.out; omega); have hY6 : Hid (Blk w6 (w.heap.size + 1) 23 (cells8 r1).toArray) := hY5.out.kept k6 (by have := hd.out; omega); have hb6 : Hid (Below w.heap.size w w6) := hb5.out.trans (Kept.below_of k6 (by have := hd.out; omega) hb5.out.size); have hM6 : Hid (Blk w6 m13 23 (cells8 r0).toArray) := hM5.out.kept k6 (by have := hd.out; omega); clear q6 k6)
        | (go_at_call 154; refine (hNo.out _ hb6.out).mono ?_; rw [show cutTo (sum []) (clampN s) = va from hae.out]; rintro e w7 ⟨rfl, kk7⟩; have hX7 : Hid (Blk w7 w.heap.size 23 (cells8 r0).toArray) := Blk.onA hX6.out kk7; have hY7 : Hid (Blk w7 (w.heap.size + 1) 23 (cells8 r1).toArray) := Blk.onA hY6.out kk7; have hb7 : Hid (Below w.heap.size w w7) := hb6.out.trans (kk7.mono hb6.out.size); have hM7 : Hid (Blk w7 m13 23 (cells8 r0).toArray) := Blk.onA hM6.out kk7; have hN7 : Hid (Blk w7 m14 23 (cells8 r0).toArray) := Blk.onA hN6.out kk7; clear kk7)
        | ((with_reducible change wpList _ _ _ ({ dst := none, op := Op.store 23 (.tmp 13) _, type := _, pos := _, after := _, guard := _ } :: _) _ _); refine wpList_store_whole (o := ⟨none, _, _, _, _, _⟩) rfl 23 (.tmp 13) (.tmp 55) rfl (m13) ((cells8 va).toArray) rfl rfl 23 ((cells8 r0).toArray) hM7.out Fa.out.size (Fa.out.same r0 l0.out) Fa.out.one ?_; intro w8 q8 k8; have hM8 : Hid (Blk w8 m13 23 (cells8 va).toArray) := q8; have hX8 : Hid (Blk w8 w.heap.size 23 (cells8 r0).toArray) := hX7.out.kept k8 (by have := hd.out; omega); have hY8 : Hid (Blk w8 (w.heap.size + 1) 23 (cells8 r1).toArray) := hY7.out.kept k8 (by have := hd.out; omega); have hb8 : Hid (Below w.heap.size w w8) := hb7.out.trans (Kept.below_of k8 (by have := hd.out; omega) hb7.out.size); have hN8 : Hid (Blk w8 m14 23 (cells8 r0).toArray) := hN7.out.kept k8 (by have := hd.out; omega); clear q8 k8)
        | ((with_reducible change wpList _ _ _ (⟨some 56, _, _, _, _, _⟩ :: _) _ _); refine wpList_load_row (o := ⟨some 56, _, _, _, _, _⟩) rfl 23 (.tmp 13) rfl (m13) rfl 23 ((cells8 va).toArray) (0, 0) _ hM8.out Tryd.underlying23 rfl Fa.out.size ?_)
        | ((with_reducible change wpList _ _ _ (⟨some 57, _, _, _, _, _⟩ :: _) _ _); refine wpList_load_row (o := ⟨some 57, _, _, _, _, _⟩) rfl 23 (.tmp 9) rfl (w.heap.size) rfl 23 ((cells8 r0).toArray) (0, 0) _ hX8.out Tryd.underlying23 rfl F0.out.size ?_)
        | ((with_reducible change wpList _ _ _ (⟨some 60, _, _, _, _, _⟩ :: _) _ _); refine wpList_load_rowG (o := ⟨some 60, _, _, _, _, _⟩) rfl 23 (.tmp 14) rfl (m14) rfl 23 ((cells8 r0).toArray) (0, 0) _ hN8.out Tryd.underlying23 rfl F0.out.size ?_)
        | ((with_reducible change wpList _ _ _ (⟨some 61, _, _, _, _, _⟩ :: _) _ _); refine wpList_load_rowG (o := ⟨some 61, _, _, _, _, _⟩) rfl 23 (.tmp 10) rfl (w.heap.size + 1) rfl 23 ((cells8 r1).toArray) (0, 0) _ hY8.out Tryd.underlying23 rfl F1.out.size ?_))
       go_ret
       exact ⟨by first | (rw [ha]; rfl) | rfl, hb8.out⟩
      ·have qa : ∀ w, (Op.equalIn 10000 23 (.agg (cells8 va).toArray) (.agg (cells8 r0).toArray)).run Tryd.prog w = .ok true w := fun w => by rw [hqa.out w, decide_eq_true hv1]
       have qb : ∀ w, (Op.equalIn 10000 23 (.agg (cells8 r0).toArray) (.agg (cells8 r1).toArray)).run Tryd.prog w = .ok false w := fun w => by rw [hqb.out w, decide_eq_false hv2]
       have ha : ans = 171 := by rw [hans.out, if_neg (fun h => hv2 h.2)]
       clear hv1 hv2
       go_wp2_with (first
        | ((with_reducible change wpList _ _ _ (⟨some 51, _, _, _, _, _⟩ :: _) _ _); refine wpList_load_row (o := ⟨some 51, _, _, _, _, _⟩) rfl 23 (.tmp 9) rfl (w.heap.size) rfl 23 ((cells8 r0).toArray) (0, 0) _ hX5.out Tryd.underlying23 rfl F0.out.size ?_)
        | ((with_reducible change wpList _ _ _ ({ dst := none, op := Op.store 23 (.tmp 14) _, type := _, pos := _, after := _, guard := _ } :: _) _ _); refine wpList_store_whole (o := ⟨none, _, _, _, _, _⟩) rfl 23 (.tmp 14) (.tmp 51) rfl (m14) ((cells8 r0).toArray) rfl rfl 23 ((cells8 r1).toArray) hN5.out F0.out.size (F0.out.same r1 l1.out) F0.out.one ?_; intro w6 q6 k6; have hN6 : Hid (Blk w6 m14 23 (cells8 r0).toArray) := q6; have hX6 : Hid (Blk w6 w.heap.size 23 (cells8 r0).toArray) := hX5.out.kept k6 (by have := hd.out; omega); have hY6 : Hid (Blk w6 (w.heap.size + 1) 23 (cells8 r1).toArray) := hY5.out.kept k6 (by have := hd.out; omega); have hb6 : Hid (Below w.heap.size w w6) := hb5.out.trans (Kept.below_of k6 (by have := hd.out; omega) hb5.out.size); have hM6 : Hid (Blk w6 m13 23 (cells8 r0).toArray) := hM5.out.kept k6 (by have := hd.out; omega); clear q6 k6)
        | (go_at_call 154; refine (hNo.out _ hb6.out).mono ?_; rw [show cutTo (sum []) (clampN s) = va from hae.out]; rintro e w7 ⟨rfl, kk7⟩; have hX7 : Hid (Blk w7 w.heap.size 23 (cells8 r0).toArray) := Blk.onA hX6.out kk7; have hY7 : Hid (Blk w7 (w.heap.size + 1) 23 (cells8 r1).toArray) := Blk.onA hY6.out kk7; have hb7 : Hid (Below w.heap.size w w7) := hb6.out.trans (kk7.mono hb6.out.size); have hM7 : Hid (Blk w7 m13 23 (cells8 r0).toArray) := Blk.onA hM6.out kk7; have hN7 : Hid (Blk w7 m14 23 (cells8 r0).toArray) := Blk.onA hN6.out kk7; clear kk7)
        | ((with_reducible change wpList _ _ _ ({ dst := none, op := Op.store 23 (.tmp 13) _, type := _, pos := _, after := _, guard := _ } :: _) _ _); refine wpList_store_whole (o := ⟨none, _, _, _, _, _⟩) rfl 23 (.tmp 13) (.tmp 55) rfl (m13) ((cells8 va).toArray) rfl rfl 23 ((cells8 r0).toArray) hM7.out Fa.out.size (Fa.out.same r0 l0.out) Fa.out.one ?_; intro w8 q8 k8; have hM8 : Hid (Blk w8 m13 23 (cells8 va).toArray) := q8; have hX8 : Hid (Blk w8 w.heap.size 23 (cells8 r0).toArray) := hX7.out.kept k8 (by have := hd.out; omega); have hY8 : Hid (Blk w8 (w.heap.size + 1) 23 (cells8 r1).toArray) := hY7.out.kept k8 (by have := hd.out; omega); have hb8 : Hid (Below w.heap.size w w8) := hb7.out.trans (Kept.below_of k8 (by have := hd.out; omega) hb7.out.size); have hN8 : Hid (Blk w8 m14 23 (cells8 r0).toArray) := hN7.out.kept k8 (by have := hd.out; omega); clear q8 k8)
        | ((with_reducible change wpList _ _ _ (⟨some 56, _, _, _, _, _⟩ :: _) _ _); refine wpList_load_row (o := ⟨some 56, _, _, _, _, _⟩) rfl 23 (.tmp 13) rfl (m13) rfl 23 ((cells8 va).toArray) (0, 0) _ hM8.out Tryd.underlying23 rfl Fa.out.size ?_)
        | ((with_reducible change wpList _ _ _ (⟨some 57, _, _, _, _, _⟩ :: _) _ _); refine wpList_load_row (o := ⟨some 57, _, _, _, _, _⟩) rfl 23 (.tmp 9) rfl (w.heap.size) rfl 23 ((cells8 r0).toArray) (0, 0) _ hX8.out Tryd.underlying23 rfl F0.out.size ?_)
        | ((with_reducible change wpList _ _ _ (⟨some 60, _, _, _, _, _⟩ :: _) _ _); refine wpList_load_rowG (o := ⟨some 60, _, _, _, _, _⟩) rfl 23 (.tmp 14) rfl (m14) rfl 23 ((cells8 r0).toArray) (0, 0) _ hN8.out Tryd.underlying23 rfl F0.out.size ?_)
        | ((with_reducible change wpList _ _ _ (⟨some 61, _, _, _, _, _⟩ :: _) _ _); refine wpList_load_rowG (o := ⟨some 61, _, _, _, _, _⟩) rfl 23 (.tmp 10) rfl (w.heap.size + 1) rfl 23 ((cells8 r1).toArray) (0, 0) _ hY8.out Tryd.underlying23 rfl F1.out.size ?_))
       go_ret
       exact ⟨by first | (rw [ha]; rfl) | rfl, hb8.out⟩
     ·have qa : ∀ w, (Op.equalIn 10000 23 (.agg (cells8 va).toArray) (.agg (cells8 r0).toArray)).run Tryd.prog w = .ok false w := fun w => by rw [hqa.out w, decide_eq_false hv1]
      have ha : ans = 171 := by rw [hans.out, if_neg (fun h => hv1 h.1)]
      clear hv1
      go_wp2_with (first
       | ((with_reducible change wpList _ _ _ (⟨some 51, _, _, _, _, _⟩ :: _) _ _); refine wpList_load_row (o := ⟨some 51, _, _, _, _, _⟩) rfl 23 (.tmp 9) rfl (w.heap.size) rfl 23 ((cells8 r0).toArray) (0, 0) _ hX5.out Tryd.underlying23 rfl F0.out.size ?_)
       | ((with_reducible change wpList _ _ _ ({ dst := none, op := Op.store 23 (.tmp 14) _, type := _, pos := _, after := _, guard := _ } :: _) _ _); refine wpList_store_whole (o := ⟨none, _, _, _, _, _⟩) rfl 23 (.tmp 14) (.tmp 51) rfl (m14) ((cells8 r0).toArray) rfl rfl 23 ((cells8 r1).toArray) hN5.out F0.out.size (F0.out.same r1 l1.out) F0.out.one ?_; intro w6 q6 k6; have hN6 : Hid (Blk w6 m14 23 (cells8 r0).toArray) := q6; have hX6 : Hid (Blk w6 w.heap.size 23 (cells8 r0).toArray) := hX5.out.kept k6 (by have := hd.out; omega); have hY6 : Hid (Blk w6 (w.heap.size + 1) 23 (cells8 r1).toArray) := hY5.out.kept k6 (by have := hd.out; omega); have hb6 : Hid (Below w.heap.size w w6) := hb5.out.trans (Kept.below_of k6 (by have := hd.out; omega) hb5.out.size); have hM6 : Hid (Blk w6 m13 23 (cells8 r0).toArray) := hM5.out.kept k6 (by have := hd.out; omega); clear q6 k6)
       | (go_at_call 154; refine (hNo.out _ hb6.out).mono ?_; rw [show cutTo (sum []) (clampN s) = va from hae.out]; rintro e w7 ⟨rfl, kk7⟩; have hX7 : Hid (Blk w7 w.heap.size 23 (cells8 r0).toArray) := Blk.onA hX6.out kk7; have hY7 : Hid (Blk w7 (w.heap.size + 1) 23 (cells8 r1).toArray) := Blk.onA hY6.out kk7; have hb7 : Hid (Below w.heap.size w w7) := hb6.out.trans (kk7.mono hb6.out.size); have hM7 : Hid (Blk w7 m13 23 (cells8 r0).toArray) := Blk.onA hM6.out kk7; have hN7 : Hid (Blk w7 m14 23 (cells8 r0).toArray) := Blk.onA hN6.out kk7; clear kk7)
       | ((with_reducible change wpList _ _ _ ({ dst := none, op := Op.store 23 (.tmp 13) _, type := _, pos := _, after := _, guard := _ } :: _) _ _); refine wpList_store_whole (o := ⟨none, _, _, _, _, _⟩) rfl 23 (.tmp 13) (.tmp 55) rfl (m13) ((cells8 va).toArray) rfl rfl 23 ((cells8 r0).toArray) hM7.out Fa.out.size (Fa.out.same r0 l0.out) Fa.out.one ?_; intro w8 q8 k8; have hM8 : Hid (Blk w8 m13 23 (cells8 va).toArray) := q8; have hX8 : Hid (Blk w8 w.heap.size 23 (cells8 r0).toArray) := hX7.out.kept k8 (by have := hd.out; omega); have hY8 : Hid (Blk w8 (w.heap.size + 1) 23 (cells8 r1).toArray) := hY7.out.kept k8 (by have := hd.out; omega); have hb8 : Hid (Below w.heap.size w w8) := hb7.out.trans (Kept.below_of k8 (by have := hd.out; omega) hb7.out.size); have hN8 : Hid (Blk w8 m14 23 (cells8 r0).toArray) := hN7.out.kept k8 (by have := hd.out; omega); clear q8 k8)
       | ((with_reducible change wpList _ _ _ (⟨some 56, _, _, _, _, _⟩ :: _) _ _); refine wpList_load_row (o := ⟨some 56, _, _, _, _, _⟩) rfl 23 (.tmp 13) rfl (m13) rfl 23 ((cells8 va).toArray) (0, 0) _ hM8.out Tryd.underlying23 rfl Fa.out.size ?_)
       | ((with_reducible change wpList _ _ _ (⟨some 57, _, _, _, _, _⟩ :: _) _ _); refine wpList_load_row (o := ⟨some 57, _, _, _, _, _⟩) rfl 23 (.tmp 9) rfl (w.heap.size) rfl 23 ((cells8 r0).toArray) (0, 0) _ hX8.out Tryd.underlying23 rfl F0.out.size ?_)
       | ((with_reducible change wpList _ _ _ (⟨some 60, _, _, _, _, _⟩ :: _) _ _); refine wpList_load_rowG (o := ⟨some 60, _, _, _, _, _⟩) rfl 23 (.tmp 14) rfl (m14) rfl 23 ((cells8 r0).toArray) (0, 0) _ hN8.out Tryd.underlying23 rfl F0.out.size ?_)
       | ((with_reducible change wpList _ _ _ (⟨some 61, _, _, _, _, _⟩ :: _) _ _); refine wpList_load_rowG (o := ⟨some 61, _, _, _, _, _⟩) rfl 23 (.tmp 10) rfl (w.heap.size + 1) rfl 23 ((cells8 r1).toArray) (0, 0) _ hY8.out Tryd.underlying23 rfl F1.out.size ?_))
      go_ret
      exact ⟨by first | (rw [ha]; rfl) | rfl, hb8.out⟩
    ·have t2 : (0 : Int) < (size : Int) := by omega
     have hbe : r1 = vb := (hB0.out (by omega) ho).symm
     have hae : noneOf s = va := (hA0.out ho).symm
     have hM5 := hM13
     have hN5 := hM14
     replace hae := Lib.hid hae
     subst hbe
     clear hA0 hA1 hA2 hB0 hB1 hB2 ho hz hM13 hM14
     by_cases hv1 : va = r0
     ·by_cases hv2 : r1 = r1
      ·have qa : ∀ w, (Op.equalIn 10000 23 (.agg (cells8 va).toArray) (.agg (cells8 r0).toArray)).run Tryd.prog w = .ok true w := fun w => by rw [hqa.out w, decide_eq_true hv1]
       have qb : ∀ w, (Op.equalIn 10000 23 (.agg (cells8 r1).toArray) (.agg (cells8 r1).toArray)).run Tryd.prog w = .ok true w := fun w => by rw [hqb.out w, decide_eq_true hv2]
       have ha : ans = 0 := by rw [hans.out, if_pos ⟨hv1, hv2⟩]
       clear hv1 hv2
       go_wp2_with (first
        | (go_at_call 154; refine (hNo.out _ hb5.out).mono ?_; rw [show cutTo (sum []) (clampN s) = va from hae.out]; rintro e w6 ⟨rfl, kk6⟩; have hX6 : Hid (Blk w6 w.heap.size 23 (cells8 r0).toArray) := Blk.onA hX5.out kk6; have hY6 : Hid (Blk w6 (w.heap.size + 1) 23 (cells8 r1).toArray) := Blk.onA hY5.out kk6; have hb6 : Hid (Below w.heap.size w w6) := hb5.out.trans (kk6.mono hb5.out.size); have hM6 : Hid (Blk w6 m13 23 (cells8 r0).toArray) := Blk.onA hM5.out kk6; have hN6 : Hid (Blk w6 m14 23 (cells8 r1).toArray) := Blk.onA hN5.out kk6; clear kk6)
        | ((with_reducible change wpList _ _ _ ({ dst := none, op := Op.store 23 (.tmp 13) _, type := _, pos := _, after := _, guard := _ } :: _) _ _); refine wpList_store_whole (o := ⟨none, _, _, _, _, _⟩) rfl 23 (.tmp 13) (.tmp 46) rfl (m13) ((cells8 va).toArray) rfl rfl 23 ((cells8 r0).toArray) hM6.out Fa.out.size (Fa.out.same r0 l0.out) Fa.out.one ?_; intro w7 q7 k7; have hM7 : Hid (Blk w7 m13 23 (cells8 va).toArray) := q7; have hX7 : Hid (Blk w7 w.heap.size 23 (cells8 r0).toArray) := hX6.out.kept k7 (by have := hd.out; omega); have hY7 : Hid (Blk w7 (w.heap.size + 1) 23 (cells8 r1).toArray) := hY6.out.kept k7 (by have := hd.out; omega); have hb7 : Hid (Below w.heap.size w w7) := hb6.out.trans (Kept.below_of k7 (by have := hd.out; omega) hb6.out.size); have hN7 : Hid (Blk w7 m14 23 (cells8 r1).toArray) := hN6.out.kept k7 (by have := hd.out; omega); clear q7 k7)
        | ((with_reducible change wpList _ _ _ (⟨some 56, _, _, _, _, _⟩ :: _) _ _); refine wpList_load_row (o := ⟨some 56, _, _, _, _, _⟩) rfl 23 (.tmp 13) rfl (m13) rfl 23 ((cells8 va).toArray) (0, 0) _ hM7.out Tryd.underlying23 rfl Fa.out.size ?_)
        | ((with_reducible change wpList _ _ _ (⟨some 57, _, _, _, _, _⟩ :: _) _ _); refine wpList_load_row (o := ⟨some 57, _, _, _, _, _⟩) rfl 23 (.tmp 9) rfl (w.heap.size) rfl 23 ((cells8 r0).toArray) (0, 0) _ hX7.out Tryd.underlying23 rfl F0.out.size ?_)
        | ((with_reducible change wpList _ _ _ (⟨some 60, _, _, _, _, _⟩ :: _) _ _); refine wpList_load_rowG (o := ⟨some 60, _, _, _, _, _⟩) rfl 23 (.tmp 14) rfl (m14) rfl 23 ((cells8 r1).toArray) (0, 0) _ hN7.out Tryd.underlying23 rfl F1.out.size ?_)
        | ((with_reducible change wpList _ _ _ (⟨some 61, _, _, _, _, _⟩ :: _) _ _); refine wpList_load_rowG (o := ⟨some 61, _, _, _, _, _⟩) rfl 23 (.tmp 10) rfl (w.heap.size + 1) rfl 23 ((cells8 r1).toArray) (0, 0) _ hY7.out Tryd.underlying23 rfl F1.out.size ?_))
       go_ret
       exact ⟨by first | (rw [ha]; rfl) | rfl, hb7.out⟩
      ·have qa : ∀ w, (Op.equalIn 10000 23 (.agg (cells8 va).toArray) (.agg (cells8 r0).toArray)).run Tryd.prog w = .ok true w := fun w => by rw [hqa.out w, decide_eq_true hv1]
       have qb : ∀ w, (Op.equalIn 10000 23 (.agg (cells8 r1).toArray) (.agg (cells8 r1).toArray)).run Tryd.prog w = .ok false w := fun w => by rw [hqb.out w, decide_eq_false hv2]
       have ha : ans = 171 := by rw [hans.out, if_neg (fun h => hv2 h.2)]
       clear hv1 hv2
       go_wp2_with (first
        | (go_at_call 154; refine (hNo.out _ hb5.out).mono ?_; rw [show cutTo (sum []) (clampN s) = va from hae.out]; rintro e w6 ⟨rfl, kk6⟩; have hX6 : Hid (Blk w6 w.heap.size 23 (cells8 r0).toArray) := Blk.onA hX5.out kk6; have hY6 : Hid (Blk w6 (w.heap.size + 1) 23 (cells8 r1).toArray) := Blk.onA hY5.out kk6; have hb6 : Hid (Below w.heap.size w w6) := hb5.out.trans (kk6.mono hb5.out.size); have hM6 : Hid (Blk w6 m13 23 (cells8 r0).toArray) := Blk.onA hM5.out kk6; have hN6 : Hid (Blk w6 m14 23 (cells8 r1).toArray) := Blk.onA hN5.out kk6; clear kk6)
        | ((with_reducible change wpList _ _ _ ({ dst := none, op := Op.store 23 (.tmp 13) _, type := _, pos := _, after := _, guard := _ } :: _) _ _); refine wpList_store_whole (o := ⟨none, _, _, _, _, _⟩) rfl 23 (.tmp 13) (.tmp 46) rfl (m13) ((cells8 va).toArray) rfl rfl 23 ((cells8 r0).toArray) hM6.out Fa.out.size (Fa.out.same r0 l0.out) Fa.out.one ?_; intro w7 q7 k7; have hM7 : Hid (Blk w7 m13 23 (cells8 va).toArray) := q7; have hX7 : Hid (Blk w7 w.heap.size 23 (cells8 r0).toArray) := hX6.out.kept k7 (by have := hd.out; omega); have hY7 : Hid (Blk w7 (w.heap.size + 1) 23 (cells8 r1).toArray) := hY6.out.kept k7 (by have := hd.out; omega); have hb7 : Hid (Below w.heap.size w w7) := hb6.out.trans (Kept.below_of k7 (by have := hd.out; omega) hb6.out.size); have hN7 : Hid (Blk w7 m14 23 (cells8 r1).toArray) := hN6.out.kept k7 (by have := hd.out; omega); clear q7 k7)
        | ((with_reducible change wpList _ _ _ (⟨some 56, _, _, _, _, _⟩ :: _) _ _); refine wpList_load_row (o := ⟨some 56, _, _, _, _, _⟩) rfl 23 (.tmp 13) rfl (m13) rfl 23 ((cells8 va).toArray) (0, 0) _ hM7.out Tryd.underlying23 rfl Fa.out.size ?_)
        | ((with_reducible change wpList _ _ _ (⟨some 57, _, _, _, _, _⟩ :: _) _ _); refine wpList_load_row (o := ⟨some 57, _, _, _, _, _⟩) rfl 23 (.tmp 9) rfl (w.heap.size) rfl 23 ((cells8 r0).toArray) (0, 0) _ hX7.out Tryd.underlying23 rfl F0.out.size ?_)
        | ((with_reducible change wpList _ _ _ (⟨some 60, _, _, _, _, _⟩ :: _) _ _); refine wpList_load_rowG (o := ⟨some 60, _, _, _, _, _⟩) rfl 23 (.tmp 14) rfl (m14) rfl 23 ((cells8 r1).toArray) (0, 0) _ hN7.out Tryd.underlying23 rfl F1.out.size ?_)
        | ((with_reducible change wpList _ _ _ (⟨some 61, _, _, _, _, _⟩ :: _) _ _); refine wpList_load_rowG (o := ⟨some 61, _, _, _, _, _⟩) rfl 23 (.tmp 10) rfl (w.heap.size + 1) rfl 23 ((cells8 r1).toArray) (0, 0) _ hY7.out Tryd.underlying23 rfl F1.out.size ?_))
       go_ret
       exact ⟨by first | (rw [ha]; rfl) | rfl, hb7.out⟩
     ·have qa : ∀ w, (Op.equalIn 10000 23 (.agg (cells8 va).toArray) (.agg (cells8 r0).toArray)).run Tryd.prog w = .ok false w := fun w => by rw [hqa.out w, decide_eq_false hv1]
      have ha : ans = 171 := by rw [hans.out, if_neg (fun h => hv1 h.1)]
      clear hv1
      go_wp2_with (first
       | (go_at_call 154; refine (hNo.out _ hb5.out).mono ?_; rw [show cutTo (sum []) (clampN s) = va from hae.out]; rintro e w6 ⟨rfl, kk6⟩; have hX6 : Hid (Blk w6 w.heap.size 23 (cells8 r0).toArray) := Blk.onA hX5.out kk6; have hY6 : Hid (Blk w6 (w.heap.size + 1) 23 (cells8 r1).toArray) := Blk.onA hY5.out kk6; have hb6 : Hid (Below w.heap.size w w6) := hb5.out.trans (kk6.mono hb5.out.size); have hM6 : Hid (Blk w6 m13 23 (cells8 r0).toArray) := Blk.onA hM5.out kk6; have hN6 : Hid (Blk w6 m14 23 (cells8 r1).toArray) := Blk.onA hN5.out kk6; clear kk6)
       | ((with_reducible change wpList _ _ _ ({ dst := none, op := Op.store 23 (.tmp 13) _, type := _, pos := _, after := _, guard := _ } :: _) _ _); refine wpList_store_whole (o := ⟨none, _, _, _, _, _⟩) rfl 23 (.tmp 13) (.tmp 46) rfl (m13) ((cells8 va).toArray) rfl rfl 23 ((cells8 r0).toArray) hM6.out Fa.out.size (Fa.out.same r0 l0.out) Fa.out.one ?_; intro w7 q7 k7; have hM7 : Hid (Blk w7 m13 23 (cells8 va).toArray) := q7; have hX7 : Hid (Blk w7 w.heap.size 23 (cells8 r0).toArray) := hX6.out.kept k7 (by have := hd.out; omega); have hY7 : Hid (Blk w7 (w.heap.size + 1) 23 (cells8 r1).toArray) := hY6.out.kept k7 (by have := hd.out; omega); have hb7 : Hid (Below w.heap.size w w7) := hb6.out.trans (Kept.below_of k7 (by have := hd.out; omega) hb6.out.size); have hN7 : Hid (Blk w7 m14 23 (cells8 r1).toArray) := hN6.out.kept k7 (by have := hd.out; omega); clear q7 k7)
       | ((with_reducible change wpList _ _ _ (⟨some 56, _, _, _, _, _⟩ :: _) _ _); refine wpList_load_row (o := ⟨some 56, _, _, _, _, _⟩) rfl 23 (.tmp 13) rfl (m13) rfl 23 ((cells8 va).toArray) (0, 0) _ hM7.out Tryd.underlying23 rfl Fa.out.size ?_)
       | ((with_reducible change wpList _ _ _ (⟨some 57, _, _, _, _, _⟩ :: _) _ _); refine wpList_load_row (o := ⟨some 57, _, _, _, _, _⟩) rfl 23 (.tmp 9) rfl (w.heap.size) rfl 23 ((cells8 r0).toArray) (0, 0) _ hX7.out Tryd.underlying23 rfl F0.out.size ?_)
       | ((with_reducible change wpList _ _ _ (⟨some 60, _, _, _, _, _⟩ :: _) _ _); refine wpList_load_rowG (o := ⟨some 60, _, _, _, _, _⟩) rfl 23 (.tmp 14) rfl (m14) rfl 23 ((cells8 r1).toArray) (0, 0) _ hN7.out Tryd.underlying23 rfl F1.out.size ?_)
       | ((with_reducible change wpList _ _ _ (⟨some 61, _, _, _, _, _⟩ :: _) _ _); refine wpList_load_rowG (o := ⟨some 61, _, _, _, _, _⟩) rfl 23 (.tmp 10) rfl (w.heap.size + 1) rfl 23 ((cells8 r1).toArray) (0, 0) _ hY7.out Tryd.underlying23 rfl F1.out.size ?_))
      go_ret
      exact ⟨by first | (rw [ha]; rfl) | rfl, hb7.out⟩
   ·have t1 : ((old : Int) == 0) = false := beq_eq_false_iff_ne.2 (by omega)
    have t0 : ¬ old = 0 := ho
    by_cases hz : old = size
    ·have t3 : ((old : Int) == (size : Int)) = true := beq_iff_eq.2 (by omega)
     have t4 : ((size : Int) == 0) = false := beq_eq_false_iff_ne.2 (by omega)
     have t5 : ¬ size = 0 := by omega
     have hbe : r0 = vb := (hB1.out hz).symm
     have hae : r0 = va := (hA1.out ho hz).symm
     have hM5 := hM13
     have hN5 := hM14
     subst hbe
     subst hae
     clear hA0 hA1 hA2 hB0 hB1 hB2 ho hz hM13 hM14
     by_cases hv1 : r0 = r0
     ·by_cases hv2 : r0 = r1
      ·have qa : ∀ w, (Op.equalIn 10000 23 (.agg (cells8 r0).toArray) (.agg (cells8 r0).toArray)).run Tryd.prog w = .ok true w := fun w => by rw [hqa.out w, decide_eq_true hv1]
       have qb : ∀ w, (Op.equalIn 10000 23 (.agg (cells8 r0).toArray) (.agg (cells8 r1).toArray)).run Tryd.prog w = .ok true w := fun w => by rw [hqb.out w, decide_eq_true hv2]
       have ha : ans = 0 := by rw [hans.out, if_pos ⟨hv1, hv2⟩]
       clear hv1 hv2
       go_wp2_with (first
        | ((with_reducible change wpList _ _ _ (⟨some 51, _, _, _, _, _⟩ :: _) _ _); refine wpList_load_row (o := ⟨some 51, _, _, _, _, _⟩) rfl 23 (.tmp 9) rfl (w.heap.size) rfl 23 ((cells8 r0).toArray) (0, 0) _ hX5.out Tryd.underlying23 rfl F0.out.size ?_)
        | ((with_reducible change wpList _ _ _ ({ dst := none, op := Op.store 23 (.tmp 14) _, type := _, pos := _, after := _, guard := _ } :: _) _ _); refine wpList_store_whole (o := ⟨none, _, _, _, _, _⟩) rfl 23 (.tmp 14) (.tmp 51) rfl (m14) ((cells8 r0).toArray) rfl rfl 23 ((cells8 r1).toArray) hN5.out F0.out.size (F0.out.same r1 l1.out) F0.out.one ?_; intro w6 q6 k6; have hN6 : Hid (Blk w6 m14 23 (cells8 r0).toArray) := q6; have hX6 : Hid (Blk w6 w.heap.size 23 (cells8 r0).toArray) := hX5.out.kept k6 (by have := hd.out; omega); have hY6 : Hid (Blk w6 (w.heap.size + 1) 23 (cells8 r1).toArray) := hY5.out.kept k6 (by have := hd.out; omega); have hb6 : Hid (Below w.heap.size w w6) := hb5.out.trans (Kept.below_of k6 (by have := hd.out; omega) hb5.out.size); have hM6 : Hid (Blk w6 m13 23 (cells8 r0).toArray) := hM5.out.kept k6 (by have := hd.out; omega); clear q6 k6)
        | ((with_reducible change wpList _ _ _ (⟨some 56, _, _, _, _, _⟩ :: _) _ _); refine wpList_load_row (o := ⟨some 56, _, _, _, _, _⟩) rfl 23 (.tmp 13) rfl (m13) rfl 23 ((cells8 r0).toArray) (0, 0) _ hM6.out Tryd.underlying23 rfl F0.out.size ?_)
        | ((with_reducible change wpList _ _ _ (⟨some 57, _, _, _, _, _⟩ :: _) _ _); refine wpList_load_row (o := ⟨some 57, _, _, _, _, _⟩) rfl 23 (.tmp 9) rfl (w.heap.size) rfl 23 ((cells8 r0).toArray) (0, 0) _ hX6.out Tryd.underlying23 rfl F0.out.size ?_)
        | ((with_reducible change wpList _ _ _ (⟨some 60, _, _, _, _, _⟩ :: _) _ _); refine wpList_load_rowG (o := ⟨some 60, _, _, _, _, _⟩) rfl 23 (.tmp 14) rfl (m14) rfl 23 ((cells8 r0).toArray) (0, 0) _ hN6.out Tryd.underlying23 rfl F0.out.size ?_)
        | ((with_reducible change wpList _ _ _ (⟨some 61, _, _, _, _, _⟩ :: _) _ _); refine wpList_load_rowG (o := ⟨some 61, _, _, _, _, _⟩) rfl 23 (.tmp 10) rfl (w.heap.size + 1) rfl 23 ((cells8 r1).toArray) (0, 0) _ hY6.out Tryd.underlying23 rfl F1.out.size ?_))
       go_ret
       exact ⟨by first | (rw [ha]; rfl) | rfl, hb6.out⟩
      ·have qa : ∀ w, (Op.equalIn 10000 23 (.agg (cells8 r0).toArray) (.agg (cells8 r0).toArray)).run Tryd.prog w = .ok true w := fun w => by rw [hqa.out w, decide_eq_true hv1]
       have qb : ∀ w, (Op.equalIn 10000 23 (.agg (cells8 r0).toArray) (.agg (cells8 r1).toArray)).run Tryd.prog w = .ok false w := fun w => by rw [hqb.out w, decide_eq_false hv2]
       have ha : ans = 171 := by rw [hans.out, if_neg (fun h => hv2 h.2)]
       clear hv1 hv2
       go_wp2_with (first
        | ((with_reducible change wpList _ _ _ (⟨some 51, _, _, _, _, _⟩ :: _) _ _); refine wpList_load_row (o := ⟨some 51, _, _, _, _, _⟩) rfl 23 (.tmp 9) rfl (w.heap.size) rfl 23 ((cells8 r0).toArray) (0, 0) _ hX5.out Tryd.underlying23 rfl F0.out.size ?_)
        | ((with_reducible change wpList _ _ _ ({ dst := none, op := Op.store 23 (.tmp 14) _, type := _, pos := _, after := _, guard := _ } :: _) _ _); refine wpList_store_whole (o := ⟨none, _, _, _, _, _⟩) rfl 23 (.tmp 14) (.tmp 51) rfl (m14) ((cells8 r0).toArray) rfl rfl 23 ((cells8 r1).toArray) hN5.out F0.out.size (F0.out.same r1 l1.out) F0.out.one ?_; intro w6 q6 k6; have hN6 : Hid (Blk w6 m14 23 (cells8 r0).toArray) := q6; have hX6 : Hid (Blk w6 w.heap.size 23 (cells8 r0).toArray) := hX5.out.kept k6 (by have := hd.out; omega); have hY6 : Hid (Blk w6 (w.heap.size + 1) 23 (cells8 r1).toArray) := hY5.out.kept k6 (by have := hd.out; omega); have hb6 : Hid (Below w.heap.size w w6) := hb5.out.trans (Kept.below_of k6 (by have := hd.out; omega) hb5.out.size); have hM6 : Hid (Blk w6 m13 23 (cells8 r0).toArray) := hM5.out.kept k6 (by have := hd.out; omega); clear q6 k6)
        | ((with_reducible change wpList _ _ _ (⟨some 56, _, _, _, _, _⟩ :: _) _ _); refine wpList_load_row (o := ⟨some 56, _, _, _, _, _⟩) rfl 23 (.tmp 13) rfl (m13) rfl 23 ((cells8 r0).toArray) (0, 0) _ hM6.out Tryd.underlying23 rfl F0.out.size ?_)
        | ((with_reducible change wpList _ _ _ (⟨some 57, _, _, _, _, _⟩ :: _) _ _); refine wpList_load_row (o := ⟨some 57, _, _, _, _, _⟩) rfl 23 (.tmp 9) rfl (w.heap.size) rfl 23 ((cells8 r0).toArray) (0, 0) _ hX6.out Tryd.underlying23 rfl F0.out.size ?_)
        | ((with_reducible change wpList _ _ _ (⟨some 60, _, _, _, _, _⟩ :: _) _ _); refine wpList_load_rowG (o := ⟨some 60, _, _, _, _, _⟩) rfl 23 (.tmp 14) rfl (m14) rfl 23 ((cells8 r0).toArray) (0, 0) _ hN6.out Tryd.underlying23 rfl F0.out.size ?_)
        | ((with_reducible change wpList _ _ _ (⟨some 61, _, _, _, _, _⟩ :: _) _ _); refine wpList_load_rowG (o := ⟨some 61, _, _, _, _, _⟩) rfl 23 (.tmp 10) rfl (w.heap.size + 1) rfl 23 ((cells8 r1).toArray) (0, 0) _ hY6.out Tryd.underlying23 rfl F1.out.size ?_))
       go_ret
       exact ⟨by first | (rw [ha]; rfl) | rfl, hb6.out⟩
     ·have qa : ∀ w, (Op.equalIn 10000 23 (.agg (cells8 r0).toArray) (.agg (cells8 r0).toArray)).run Tryd.prog w = .ok false w := fun w => by rw [hqa.out w, decide_eq_false hv1]
      have ha : ans = 171 := by rw [hans.out, if_neg (fun h => hv1 h.1)]
      clear hv1
      go_wp2_with (first
       | ((with_reducible change wpList _ _ _ (⟨some 51, _, _, _, _, _⟩ :: _) _ _); refine wpList_load_row (o := ⟨some 51, _, _, _, _, _⟩) rfl 23 (.tmp 9) rfl (w.heap.size) rfl 23 ((cells8 r0).toArray) (0, 0) _ hX5.out Tryd.underlying23 rfl F0.out.size ?_)
       | ((with_reducible change wpList _ _ _ ({ dst := none, op := Op.store 23 (.tmp 14) _, type := _, pos := _, after := _, guard := _ } :: _) _ _); refine wpList_store_whole (o := ⟨none, _, _, _, _, _⟩) rfl 23 (.tmp 14) (.tmp 51) rfl (m14) ((cells8 r0).toArray) rfl rfl 23 ((cells8 r1).toArray) hN5.out F0.out.size (F0.out.same r1 l1.out) F0.out.one ?_; intro w6 q6 k6; have hN6 : Hid (Blk w6 m14 23 (cells8 r0).toArray) := q6; have hX6 : Hid (Blk w6 w.heap.size 23 (cells8 r0).toArray) := hX5.out.kept k6 (by have := hd.out; omega); have hY6 : Hid (Blk w6 (w.heap.size + 1) 23 (cells8 r1).toArray) := hY5.out.kept k6 (by have := hd.out; omega); have hb6 : Hid (Below w.heap.size w w6) := hb5.out.trans (Kept.below_of k6 (by have := hd.out; omega) hb5.out.size); have hM6 : Hid (Blk w6 m13 23 (cells8 r0).toArray) := hM5.out.kept k6 (by have := hd.out; omega); clear q6 k6)
       | ((with_reducible change wpList _ _ _ (⟨some 56, _, _, _, _, _⟩ :: _) _ _); refine wpList_load_row (o := ⟨some 56, _, _, _, _, _⟩) rfl 23 (.tmp 13) rfl (m13) rfl 23 ((cells8 r0).toArray) (0, 0) _ hM6.out Tryd.underlying23 rfl F0.out.size ?_)
       | ((with_reducible change wpList _ _ _ (⟨some 57, _, _, _, _, _⟩ :: _) _ _); refine wpList_load_row (o := ⟨some 57, _, _, _, _, _⟩) rfl 23 (.tmp 9) rfl (w.heap.size) rfl 23 ((cells8 r0).toArray) (0, 0) _ hX6.out Tryd.underlying23 rfl F0.out.size ?_)
       | ((with_reducible change wpList _ _ _ (⟨some 60, _, _, _, _, _⟩ :: _) _ _); refine wpList_load_rowG (o := ⟨some 60, _, _, _, _, _⟩) rfl 23 (.tmp 14) rfl (m14) rfl 23 ((cells8 r0).toArray) (0, 0) _ hN6.out Tryd.underlying23 rfl F0.out.size ?_)
       | ((with_reducible change wpList _ _ _ (⟨some 61, _, _, _, _, _⟩ :: _) _ _); refine wpList_load_rowG (o := ⟨some 61, _, _, _, _, _⟩) rfl 23 (.tmp 10) rfl (w.heap.size + 1) rfl 23 ((cells8 r1).toArray) (0, 0) _ hY6.out Tryd.underlying23 rfl F1.out.size ?_))
      go_ret
      exact ⟨by first | (rw [ha]; rfl) | rfl, hb6.out⟩
    ·have t3 : ((old : Int) == (size : Int)) = false := beq_eq_false_iff_ne.2 (by omega)
     have t5 : ¬ old = size := hz
     have hbe : (aheadOf s old size r0 ds).sr = vb := (hB2.out hz ho).symm
     have hae : (aheadOf s old size r0 ds).fr = va := (hA2.out ho hz).symm
     have hAhead : Hid (∀ w', Below w.heap.size w w' → Calls Tryd.prog 209 #[.int .i64 s, .int .i64 (old : Int), .int .i64 (size : Int), .agg (cells8 r0).toArray, .slice A m c] w' (fun e w'' => ∃ A9 n9 c9, e = .returned (.tuple #[.agg (cells8 va).toArray, .agg (cells8 vb).toArray, .slice A9 n9 c9]) ∧ Below w'.heap.size w' w'')) := fun w' hb => by
      refine (hva.out w' hb (by omega) (by have := hle.out; omega)).mono ?_
      rintro e w'' ⟨A9, c9, xs, rfl, -, -, hk⟩
      rw [hae, hbe]
      exact ⟨A9, _, c9, rfl, hk⟩
     have hM5 := hM13
     have hN5 := hM14
     clear hA0 hA1 hA2 hB0 hB1 hB2 ho hz hM13 hM14 hae hbe hva
     by_cases hv1 : va = r0
     ·by_cases hv2 : vb = r1
      ·have qa : ∀ w, (Op.equalIn 10000 23 (.agg (cells8 va).toArray) (.agg (cells8 r0).toArray)).run Tryd.prog w = .ok true w := fun w => by rw [hqa.out w, decide_eq_true hv1]
       have qb : ∀ w, (Op.equalIn 10000 23 (.agg (cells8 vb).toArray) (.agg (cells8 r1).toArray)).run Tryd.prog w = .ok true w := fun w => by rw [hqb.out w, decide_eq_true hv2]
       have ha : ans = 0 := by rw [hans.out, if_pos ⟨hv1, hv2⟩]
       clear hv1 hv2
       go_wp2_with (first
        | ((with_reducible change wpList _ _ _ (⟨some 32, _, _, _, _, _⟩ :: _) _ _); refine wpList_load_row (o := ⟨some 32, _, _, _, _, _⟩) rfl 23 (.tmp 9) rfl (w.heap.size) rfl 23 ((cells8 r0).toArray) (0, 0) _ hX5.out Tryd.underlying23 rfl F0.out.size ?_)
        | (go_at_call 209; refine (hAhead.out _ hb5.out).mono ?_; rintro e w6 ⟨A9, n9, c9, rfl, kk6⟩; have hX6 : Hid (Blk w6 w.heap.size 23 (cells8 r0).toArray) := Blk.onA hX5.out kk6; have hY6 : Hid (Blk w6 (w.heap.size + 1) 23 (cells8 r1).toArray) := Blk.onA hY5.out kk6; have hb6 : Hid (Below w.heap.size w w6) := hb5.out.trans (kk6.mono hb5.out.size); have hM6 : Hid (Blk w6 m13 23 (cells8 r0).toArray) := Blk.onA hM5.out kk6; have hN6 : Hid (Blk w6 m14 23 (cells8 r1).toArray) := Blk.onA hN5.out kk6; clear kk6)
        | ((with_reducible change wpList _ _ _ ({ dst := none, op := Op.store 23 (.tmp 13) _, type := _, pos := _, after := _, guard := _ } :: _) _ _); refine wpList_store_whole (o := ⟨none, _, _, _, _, _⟩) rfl 23 (.tmp 13) (.tmp 35) rfl (m13) ((cells8 va).toArray) rfl rfl 23 ((cells8 r0).toArray) hM6.out Fa.out.size (Fa.out.same r0 l0.out) Fa.out.one ?_; intro w7 q7 k7; have hM7 : Hid (Blk w7 m13 23 (cells8 va).toArray) := q7; have hX7 : Hid (Blk w7 w.heap.size 23 (cells8 r0).toArray) := hX6.out.kept k7 (by have := hd.out; omega); have hY7 : Hid (Blk w7 (w.heap.size + 1) 23 (cells8 r1).toArray) := hY6.out.kept k7 (by have := hd.out; omega); have hb7 : Hid (Below w.heap.size w w7) := hb6.out.trans (Kept.below_of k7 (by have := hd.out; omega) hb6.out.size); have hN7 : Hid (Blk w7 m14 23 (cells8 r1).toArray) := hN6.out.kept k7 (by have := hd.out; omega); clear q7 k7)
        | ((with_reducible change wpList _ _ _ ({ dst := none, op := Op.store 23 (.tmp 14) _, type := _, pos := _, after := _, guard := _ } :: _) _ _); refine wpList_store_whole (o := ⟨none, _, _, _, _, _⟩) rfl 23 (.tmp 14) (.tmp 36) rfl (m14) ((cells8 vb).toArray) rfl rfl 23 ((cells8 r1).toArray) hN7.out Fb.out.size (Fb.out.same r1 l1.out) Fb.out.one ?_; intro w8 q8 k8; have hN8 : Hid (Blk w8 m14 23 (cells8 vb).toArray) := q8; have hX8 : Hid (Blk w8 w.heap.size 23 (cells8 r0).toArray) := hX7.out.kept k8 (by have := hd.out; omega); have hY8 : Hid (Blk w8 (w.heap.size + 1) 23 (cells8 r1).toArray) := hY7.out.kept k8 (by have := hd.out; omega); have hb8 : Hid (Below w.heap.size w w8) := hb7.out.trans (Kept.below_of k8 (by have := hd.out; omega) hb7.out.size); have hM8 : Hid (Blk w8 m13 23 (cells8 va).toArray) := hM7.out.kept k8 (by have := hd.out; omega); clear q8 k8)
        | ((with_reducible change wpList _ _ _ (⟨some 56, _, _, _, _, _⟩ :: _) _ _); refine wpList_load_row (o := ⟨some 56, _, _, _, _, _⟩) rfl 23 (.tmp 13) rfl (m13) rfl 23 ((cells8 va).toArray) (0, 0) _ hM8.out Tryd.underlying23 rfl Fa.out.size ?_)
        | ((with_reducible change wpList _ _ _ (⟨some 57, _, _, _, _, _⟩ :: _) _ _); refine wpList_load_row (o := ⟨some 57, _, _, _, _, _⟩) rfl 23 (.tmp 9) rfl (w.heap.size) rfl 23 ((cells8 r0).toArray) (0, 0) _ hX8.out Tryd.underlying23 rfl F0.out.size ?_)
        | ((with_reducible change wpList _ _ _ (⟨some 60, _, _, _, _, _⟩ :: _) _ _); refine wpList_load_rowG (o := ⟨some 60, _, _, _, _, _⟩) rfl 23 (.tmp 14) rfl (m14) rfl 23 ((cells8 vb).toArray) (0, 0) _ hN8.out Tryd.underlying23 rfl Fb.out.size ?_)
        | ((with_reducible change wpList _ _ _ (⟨some 61, _, _, _, _, _⟩ :: _) _ _); refine wpList_load_rowG (o := ⟨some 61, _, _, _, _, _⟩) rfl 23 (.tmp 10) rfl (w.heap.size + 1) rfl 23 ((cells8 r1).toArray) (0, 0) _ hY8.out Tryd.underlying23 rfl F1.out.size ?_))
       go_ret
       exact ⟨by first | (rw [ha]; rfl) | rfl, hb8.out⟩
      ·have qa : ∀ w, (Op.equalIn 10000 23 (.agg (cells8 va).toArray) (.agg (cells8 r0).toArray)).run Tryd.prog w = .ok true w := fun w => by rw [hqa.out w, decide_eq_true hv1]
       have qb : ∀ w, (Op.equalIn 10000 23 (.agg (cells8 vb).toArray) (.agg (cells8 r1).toArray)).run Tryd.prog w = .ok false w := fun w => by rw [hqb.out w, decide_eq_false hv2]
       have ha : ans = 171 := by rw [hans.out, if_neg (fun h => hv2 h.2)]
       clear hv1 hv2
       go_wp2_with (first
        | ((with_reducible change wpList _ _ _ (⟨some 32, _, _, _, _, _⟩ :: _) _ _); refine wpList_load_row (o := ⟨some 32, _, _, _, _, _⟩) rfl 23 (.tmp 9) rfl (w.heap.size) rfl 23 ((cells8 r0).toArray) (0, 0) _ hX5.out Tryd.underlying23 rfl F0.out.size ?_)
        | (go_at_call 209; refine (hAhead.out _ hb5.out).mono ?_; rintro e w6 ⟨A9, n9, c9, rfl, kk6⟩; have hX6 : Hid (Blk w6 w.heap.size 23 (cells8 r0).toArray) := Blk.onA hX5.out kk6; have hY6 : Hid (Blk w6 (w.heap.size + 1) 23 (cells8 r1).toArray) := Blk.onA hY5.out kk6; have hb6 : Hid (Below w.heap.size w w6) := hb5.out.trans (kk6.mono hb5.out.size); have hM6 : Hid (Blk w6 m13 23 (cells8 r0).toArray) := Blk.onA hM5.out kk6; have hN6 : Hid (Blk w6 m14 23 (cells8 r1).toArray) := Blk.onA hN5.out kk6; clear kk6)
        | ((with_reducible change wpList _ _ _ ({ dst := none, op := Op.store 23 (.tmp 13) _, type := _, pos := _, after := _, guard := _ } :: _) _ _); refine wpList_store_whole (o := ⟨none, _, _, _, _, _⟩) rfl 23 (.tmp 13) (.tmp 35) rfl (m13) ((cells8 va).toArray) rfl rfl 23 ((cells8 r0).toArray) hM6.out Fa.out.size (Fa.out.same r0 l0.out) Fa.out.one ?_; intro w7 q7 k7; have hM7 : Hid (Blk w7 m13 23 (cells8 va).toArray) := q7; have hX7 : Hid (Blk w7 w.heap.size 23 (cells8 r0).toArray) := hX6.out.kept k7 (by have := hd.out; omega); have hY7 : Hid (Blk w7 (w.heap.size + 1) 23 (cells8 r1).toArray) := hY6.out.kept k7 (by have := hd.out; omega); have hb7 : Hid (Below w.heap.size w w7) := hb6.out.trans (Kept.below_of k7 (by have := hd.out; omega) hb6.out.size); have hN7 : Hid (Blk w7 m14 23 (cells8 r1).toArray) := hN6.out.kept k7 (by have := hd.out; omega); clear q7 k7)
        | ((with_reducible change wpList _ _ _ ({ dst := none, op := Op.store 23 (.tmp 14) _, type := _, pos := _, after := _, guard := _ } :: _) _ _); refine wpList_store_whole (o := ⟨none, _, _, _, _, _⟩) rfl 23 (.tmp 14) (.tmp 36) rfl (m14) ((cells8 vb).toArray) rfl rfl 23 ((cells8 r1).toArray) hN7.out Fb.out.size (Fb.out.same r1 l1.out) Fb.out.one ?_; intro w8 q8 k8; have hN8 : Hid (Blk w8 m14 23 (cells8 vb).toArray) := q8; have hX8 : Hid (Blk w8 w.heap.size 23 (cells8 r0).toArray) := hX7.out.kept k8 (by have := hd.out; omega); have hY8 : Hid (Blk w8 (w.heap.size + 1) 23 (cells8 r1).toArray) := hY7.out.kept k8 (by have := hd.out; omega); have hb8 : Hid (Below w.heap.size w w8) := hb7.out.trans (Kept.below_of k8 (by have := hd.out; omega) hb7.out.size); have hM8 : Hid (Blk w8 m13 23 (cells8 va).toArray) := hM7.out.kept k8 (by have := hd.out; omega); clear q8 k8)
        | ((with_reducible change wpList _ _ _ (⟨some 56, _, _, _, _, _⟩ :: _) _ _); refine wpList_load_row (o := ⟨some 56, _, _, _, _, _⟩) rfl 23 (.tmp 13) rfl (m13) rfl 23 ((cells8 va).toArray) (0, 0) _ hM8.out Tryd.underlying23 rfl Fa.out.size ?_)
        | ((with_reducible change wpList _ _ _ (⟨some 57, _, _, _, _, _⟩ :: _) _ _); refine wpList_load_row (o := ⟨some 57, _, _, _, _, _⟩) rfl 23 (.tmp 9) rfl (w.heap.size) rfl 23 ((cells8 r0).toArray) (0, 0) _ hX8.out Tryd.underlying23 rfl F0.out.size ?_)
        | ((with_reducible change wpList _ _ _ (⟨some 60, _, _, _, _, _⟩ :: _) _ _); refine wpList_load_rowG (o := ⟨some 60, _, _, _, _, _⟩) rfl 23 (.tmp 14) rfl (m14) rfl 23 ((cells8 vb).toArray) (0, 0) _ hN8.out Tryd.underlying23 rfl Fb.out.size ?_)
        | ((with_reducible change wpList _ _ _ (⟨some 61, _, _, _, _, _⟩ :: _) _ _); refine wpList_load_rowG (o := ⟨some 61, _, _, _, _, _⟩) rfl 23 (.tmp 10) rfl (w.heap.size + 1) rfl 23 ((cells8 r1).toArray) (0, 0) _ hY8.out Tryd.underlying23 rfl F1.out.size ?_))
       go_ret
       exact ⟨by first | (rw [ha]; rfl) | rfl, hb8.out⟩
     ·have qa : ∀ w, (Op.equalIn 10000 23 (.agg (cells8 va).toArray) (.agg (cells8 r0).toArray)).run Tryd.prog w = .ok false w := fun w => by rw [hqa.out w, decide_eq_false hv1]
      have ha : ans = 171 := by rw [hans.out, if_neg (fun h => hv1 h.1)]
      clear hv1
      go_wp2_with (first
       | ((with_reducible change wpList _ _ _ (⟨some 32, _, _, _, _, _⟩ :: _) _ _); refine wpList_load_row (o := ⟨some 32, _, _, _, _, _⟩) rfl 23 (.tmp 9) rfl (w.heap.size) rfl 23 ((cells8 r0).toArray) (0, 0) _ hX5.out Tryd.underlying23 rfl F0.out.size ?_)
       | (go_at_call 209; refine (hAhead.out _ hb5.out).mono ?_; rintro e w6 ⟨A9, n9, c9, rfl, kk6⟩; have hX6 : Hid (Blk w6 w.heap.size 23 (cells8 r0).toArray) := Blk.onA hX5.out kk6; have hY6 : Hid (Blk w6 (w.heap.size + 1) 23 (cells8 r1).toArray) := Blk.onA hY5.out kk6; have hb6 : Hid (Below w.heap.size w w6) := hb5.out.trans (kk6.mono hb5.out.size); have hM6 : Hid (Blk w6 m13 23 (cells8 r0).toArray) := Blk.onA hM5.out kk6; have hN6 : Hid (Blk w6 m14 23 (cells8 r1).toArray) := Blk.onA hN5.out kk6; clear kk6)
       | ((with_reducible change wpList _ _ _ ({ dst := none, op := Op.store 23 (.tmp 13) _, type := _, pos := _, after := _, guard := _ } :: _) _ _); refine wpList_store_whole (o := ⟨none, _, _, _, _, _⟩) rfl 23 (.tmp 13) (.tmp 35) rfl (m13) ((cells8 va).toArray) rfl rfl 23 ((cells8 r0).toArray) hM6.out Fa.out.size (Fa.out.same r0 l0.out) Fa.out.one ?_; intro w7 q7 k7; have hM7 : Hid (Blk w7 m13 23 (cells8 va).toArray) := q7; have hX7 : Hid (Blk w7 w.heap.size 23 (cells8 r0).toArray) := hX6.out.kept k7 (by have := hd.out; omega); have hY7 : Hid (Blk w7 (w.heap.size + 1) 23 (cells8 r1).toArray) := hY6.out.kept k7 (by have := hd.out; omega); have hb7 : Hid (Below w.heap.size w w7) := hb6.out.trans (Kept.below_of k7 (by have := hd.out; omega) hb6.out.size); have hN7 : Hid (Blk w7 m14 23 (cells8 r1).toArray) := hN6.out.kept k7 (by have := hd.out; omega); clear q7 k7)
       | ((with_reducible change wpList _ _ _ ({ dst := none, op := Op.store 23 (.tmp 14) _, type := _, pos := _, after := _, guard := _ } :: _) _ _); refine wpList_store_whole (o := ⟨none, _, _, _, _, _⟩) rfl 23 (.tmp 14) (.tmp 36) rfl (m14) ((cells8 vb).toArray) rfl rfl 23 ((cells8 r1).toArray) hN7.out Fb.out.size (Fb.out.same r1 l1.out) Fb.out.one ?_; intro w8 q8 k8; have hN8 : Hid (Blk w8 m14 23 (cells8 vb).toArray) := q8; have hX8 : Hid (Blk w8 w.heap.size 23 (cells8 r0).toArray) := hX7.out.kept k8 (by have := hd.out; omega); have hY8 : Hid (Blk w8 (w.heap.size + 1) 23 (cells8 r1).toArray) := hY7.out.kept k8 (by have := hd.out; omega); have hb8 : Hid (Below w.heap.size w w8) := hb7.out.trans (Kept.below_of k8 (by have := hd.out; omega) hb7.out.size); have hM8 : Hid (Blk w8 m13 23 (cells8 va).toArray) := hM7.out.kept k8 (by have := hd.out; omega); clear q8 k8)
       | ((with_reducible change wpList _ _ _ (⟨some 56, _, _, _, _, _⟩ :: _) _ _); refine wpList_load_row (o := ⟨some 56, _, _, _, _, _⟩) rfl 23 (.tmp 13) rfl (m13) rfl 23 ((cells8 va).toArray) (0, 0) _ hM8.out Tryd.underlying23 rfl Fa.out.size ?_)
       | ((with_reducible change wpList _ _ _ (⟨some 57, _, _, _, _, _⟩ :: _) _ _); refine wpList_load_row (o := ⟨some 57, _, _, _, _, _⟩) rfl 23 (.tmp 9) rfl (w.heap.size) rfl 23 ((cells8 r0).toArray) (0, 0) _ hX8.out Tryd.underlying23 rfl F0.out.size ?_)
       | ((with_reducible change wpList _ _ _ (⟨some 60, _, _, _, _, _⟩ :: _) _ _); refine wpList_load_rowG (o := ⟨some 60, _, _, _, _, _⟩) rfl 23 (.tmp 14) rfl (m14) rfl 23 ((cells8 vb).toArray) (0, 0) _ hN8.out Tryd.underlying23 rfl Fb.out.size ?_)
       | ((with_reducible change wpList _ _ _ (⟨some 61, _, _, _, _, _⟩ :: _) _ _); refine wpList_load_rowG (o := ⟨some 61, _, _, _, _, _⟩) rfl 23 (.tmp 10) rfl (w.heap.size + 1) rfl 23 ((cells8 r1).toArray) (0, 0) _ hY8.out Tryd.underlying23 rfl F1.out.size ?_))
      go_ret
      exact ⟨by first | (rw [ha]; rfl) | rfl, hb8.out⟩
 ·rw [if_pos hmn] at hans
  subst hans
  have e1 : ((n : Int) == (m : Int)) = false := beq_eq_false_iff_ne.2 (by omega)
  have e2 : ¬ n = m := fun e => hmn e.symm
  clear hj hB hr hs h0 h1 hpl hm han hmn
  go_enter Tryd.func208, Tryd.ntmps208
  go_wp2_with fail
  change Calls _ _ _ ((w.alloc (.cells (cells8 r0).toArray 23)).alloc (.cells (cells8 r1).toArray 23)) _
  rw [← hw0.out]
  clear hw0
  refine (hSz.out _).mono ?_
  rintro e w1 ⟨rfl, rfl⟩
  go_wp2_with fail
  refine (hPt.out _).mono ?_
  rintro e w4 ⟨v, rfl, hO, hk1⟩
  rw [hpm.out] at hO
  obtain ⟨Ap, cp, rfl, -⟩ := Append.Own.reads hO
  have hb4 : Hid (Below w.heap.size w w4) := hb0.out.trans (hk1.mono hb0.out.size)
  clear hO hk1
  go_wp2_with fail
  go_ret
  exact ⟨rfl, hb4.out⟩
theorem agree_any (s old size : Int) (r0 r1 : Text) (h0 : r0.length = 32) (h1 : r1.length = 32) (ds : List Text) (A : Option Addr) (n c : Nat) (w : World) (hB : Base w) (hr : RdD w A n ds) :
  Calls Tryd.prog 208 #[.int .i64 s, .int .i64 old, .int .i64 size, .agg (cells8 r0).toArray, .agg (cells8 r1).toArray, .slice A n c] w fun e w' => e = .returned (.int .i64 (agreeOf s old size r0 r1 ds)) ∧ Below w.heap.size w w' := by
 cases hj : joinsB old size with
 | false =>
  rw [show agreeOf s old size r0 r1 ds = 60 from if_pos hj]
  exact agree_out s old size hj r0 r1 A n c w
 | true =>
  have h2 := hj
  simp only [joinsB, Bool.and_eq_true, decide_eq_true_eq] at h2
  obtain ⟨o, rfl⟩ := Int.eq_ofNat_of_zero_le h2.1.1
  obtain ⟨z, rfl⟩ := Int.eq_ofNat_of_zero_le (show 0 ≤ size by omega)
  exact agree_in s o z (by omega) (by omega) r0 r1 h0 h1 ds A n c w hB hr
end Go.Proofs.YtmdkfhfkdcbpgaaDoorR.Agree

namespace Go.Proofs.YtmdkfhfkdcbpgaaDoorR.RefAgree
open Go Go.RowKit Go.Proofs.YtmdkfhfkdcbpgaaDoorR Digest Mem Sha ShaWalk Bytes Go.Proofs.YtmdkfhfkdcbpgaaDoorR.Append HashMem DigestMem DigestTop RefTop DigEq QuietTail Grown TreeMath TreeMem TreeRoot Held Guard Book Subs RowsP Joint SubRef AheadM AheadT RefIncl0 RefAhead Agree

theorem three (old size : Int) (h : joinsB old size = false) : old < 0 ∨ (0 ≤ old ∧ size < old) ∨ (0 ≤ old ∧ old ≤ size ∧ 1099511627776 < size) := by
 simp only [joinsB, Bool.and_eq_false_iff, decide_eq_false_iff_not] at h
 omega
set_option maxRecDepth 100000 in
set_option maxHeartbeats 1000000 in
theorem refagree_out (s old size : Int) (h : joinsB old size = false) (r0 r1 : Text) (A : Option Addr) (n c : Nat) (w : World) :
  Calls Tryd.prog 104 #[.int .i64 s, .int .i64 old, .int .i64 size, .agg (cells8 r0).toArray, .agg (cells8 r1).toArray, .slice A n c] w fun e w' => e = .returned (.int .i64 60) ∧ Below w.heap.size w w' := by
 have hb : Hid (Below w.heap.size w ((w.alloc (.cells (cells8 r0).toArray 23)).alloc (.cells (cells8 r1).toArray 23))) := (Below.heap_below w _).alloc (by simp) _
 have hc := three old size h
 clear h
 rcases hc with h1 | ⟨h1, h2⟩ | ⟨h1, h2, h3⟩
 ·have y1 : decide (old < 0) = true := decide_eq_true h1
  clear h1
  go_enter Tryd.func104, Tryd.ntmps104
  go_wp2_with fail
  go_ret
  exact ⟨rfl, hb.out⟩
 ·have y1 : decide (old < 0) = false := decide_eq_false (by omega)
  have y2 : decide (size < old) = true := decide_eq_true h2
  clear h1 h2
  go_enter Tryd.func104, Tryd.ntmps104
  go_wp2_with fail
  go_ret
  exact ⟨rfl, hb.out⟩
 ·have y1 : decide (old < 0) = false := decide_eq_false (by omega)
  have y2 : decide (size < old) = false := decide_eq_false (by omega)
  have y3 : decide (1099511627776 < size) = true := decide_eq_true h3
  clear h1 h2 h3
  go_enter Tryd.func104, Tryd.ntmps104
  go_wp2_with fail
  go_ret
  exact ⟨rfl, hb.out⟩

set_option maxRecDepth 100000 in
set_option maxHeartbeats 4000000 in
theorem refagree_in (s : Int) (hs63 : s < 9223372036854775808) (old size : Nat) (hle : old ≤ size) (hs : size ≤ 1099511627776) (r0 r1 : Text) (h0 : r0.length = 32) (h1 : r1.length = 32) (ds : List Text) (A : Option Addr) (n c : Nat) (w : World) (hr : RdD w A n ds) :
  Calls Tryd.prog 104 #[.int .i64 s, .int .i64 (old : Int), .int .i64 (size : Int), .agg (cells8 r0).toArray, .agg (cells8 r1).toArray, .slice A n c] w fun e w' => e = .returned (.int .i64 (agreeOf s old size r0 r1 ds)) ∧ Below w.heap.size w w' := by
 have hj : joinsB (old : Int) (size : Int) = true := by
  have a1 : (0 : Int) ≤ old := by omega
  have a2 : (old : Int) ≤ size := by omega
  have a3 : (size : Int) ≤ 1099511627776 := by omega
  simp [joinsB, a1, a2, a3]
 have hPt := Lib.hid (fun w' => rows_any old size hle hs w')
 have hpl := partsOf_len hle
 obtain ⟨m, hm⟩ : ∃ m, betw old size = m := ⟨_, rfl⟩
 have hans : agreeOf s old size r0 r1 ds = if m ≠ n then 170 else if agA s old size r0 ds = r0 ∧ agB s old size r0 r1 ds = r1 then 0 else 171 := by
  unfold agreeOf
  rw [if_neg (by rw [hj]; decide), Int.toNat_natCast, Int.toNat_natCast, hm, hr.1]
 obtain ⟨ans, han⟩ : ∃ a, agreeOf s old size r0 r1 ds = a := ⟨_, rfl⟩
 rw [han] at hans ⊢
 obtain ⟨w0, hw0⟩ : ∃ w0, Hid (w0 = (w.alloc (.cells (cells8 r0).toArray 23)).alloc (.cells (cells8 r1).toArray 23)) := ⟨_, rfl⟩
 have hb0 : Hid (Below w.heap.size w w0) := by show Below _ _ _; rw [hw0.out]; exact (Below.heap_below w _).alloc (by simp) _
 have hX0 : Hid (Blk w0 w.heap.size 23 (cells8 r0).toArray) := by show Blk _ _ _ _; rw [hw0.out]; exact heap_alloc2_old w _ _
 have hY0 : Hid (Blk w0 (w.heap.size + 1) 23 (cells8 r1).toArray) := by show Blk _ _ _ _; rw [hw0.out]; exact heap_alloc2_new w _ _
 have F0 := Lib.hid (fit (x := r0) h0)
 have F1 := Lib.hid (fit (x := r1) h1)
 have g1 : (0 : Int) ≤ (old : Int) := by omega
 have g3 : (0 : Int) ≤ (size : Int) := by omega
 have y1 : decide ((old : Int) < 0) = false := decide_eq_false (by omega)
 have y2 : decide (size < old) = false := decide_eq_false (by omega)
 have y3 : decide (1099511627776 < (size : Int)) = false := decide_eq_false (by omega)
 have y4 : ¬ size < old := by omega
 have hpm : Hid ((partsOf old size).length = m) := by show _ = _; rw [hpl, hm]
 by_cases hmn : m = n
 ·rw [if_neg (fun h => h hmn)] at hans
  have hn : betw old size = ds.length := by rw [hm, hmn, hr.1]
  subst hmn
  have hal := agA_len (s := s) hle h0 hr.2.1 hn
  have hbl := agB_len (s := s) (r1 := r1) hle h0 h1 hr.2.1 hn
  have hva : Hid (∀ w', Below w.heap.size w w' → 1 ≤ old → old < size → Calls Tryd.prog 105 #[.int .i64 s, .int .i64 (old : Int), .int .i64 (size : Int), .agg (cells8 r0).toArray, .slice A m c] w' (RfPost w' (aheadOf s old size r0 ds))) := fun w' hb e1 e2 => refahead_any s hs63 old size e1 e2 hs r0 h0 ds A m c hm w' (hr.below hb)
  have hA0 : Hid (old = 0 → agA s old size r0 ds = noneOf s) := fun h => if_pos h
  have hA1 : Hid (old ≠ 0 → old = size → agA s old size r0 ds = r0) := fun h k => by unfold agA; rw [if_neg h, if_pos k]
  have hA2 : Hid (old ≠ 0 → old ≠ size → agA s old size r0 ds = (aheadOf s old size r0 ds).fr) := fun h k => by unfold agA; rw [if_neg h, if_neg k]
  have hB1 : Hid (old = size → agB s old size r0 r1 ds = r0) := fun h => if_pos h
  have hB0 : Hid (old ≠ size → old = 0 → agB s old size r0 r1 ds = r1) := fun h k => by unfold agB; rw [if_neg h, if_pos k]
  have hB2 : Hid (old ≠ size → old ≠ 0 → agB s old size r0 r1 ds = (aheadOf s old size r0 ds).sr) := fun h k => by unfold agB; rw [if_neg h, if_neg k]
  obtain ⟨va, hvA⟩ : ∃ v, agA s old size r0 ds = v := ⟨_, rfl⟩
  obtain ⟨vb, hvB⟩ : ∃ v, agB s old size r0 r1 ds = v := ⟨_, rfl⟩
  rw [hvA] at hans hal hA0 hA1 hA2
  rw [hvB] at hans hbl hB0 hB1 hB2
  obtain ⟨vn, hvn⟩ : ∃ v, noneOf s = v := ⟨_, rfl⟩
  have hnl : vn.length = 32 := by rw [← hvn]; exact noneOf_len s
  have hNo : Hid (∀ w', Calls Tryd.prog 146 #[.int .i64 s] w' fun e w'' => e = .returned (.agg (cells8 vn).toArray) ∧ Below w'.heap.size w' w'') := fun w' => by
   have := refnothing_any s w' hs63
   rw [show cutTo (sum []) (clampN s) = vn from hvn] at this
   exact this
  rw [hvn] at hA0
  have Fa := Lib.hid (fit (x := va) hal)
  have Fb := Lib.hid (fit (x := vb) hbl)
  have Fn := Lib.hid (fit (x := vn) hnl)
  have hqa := Lib.hid (fun w => equal_dig va r0 hal h0 w)
  have hqb := Lib.hid (fun w => equal_dig vb r1 hbl h1 w)
  have hq1 := Lib.hid (fun w => equal_dig r0 r1 h0 h1 w)
  have hq2 := Lib.hid (fun w => equal_dig r1 vn h1 hnl w)
  have hq3 := Lib.hid (fun w => equal_dig r0 vn h0 hnl w)
  have e1 : ((m : Int) == (m : Int)) = true := beq_self_eq_true _
  replace hans := Lib.hid hans
  replace hle := Lib.hid hle
  clear hj hr hs h0 h1 hpl hm han hn hal hbl hvA hvB hvn hnl hs63
  go_enter Tryd.func104, Tryd.ntmps104
  go_wp2_with fail
  change Calls _ _ _ ((w.alloc (.cells (cells8 r0).toArray 23)).alloc (.cells (cells8 r1).toArray 23)) _
  rw [← hw0.out]
  clear hw0
  refine (hPt.out _).mono ?_
  rintro e w4 ⟨v, rfl, hO, hk1⟩
  rw [hpm.out] at hO
  obtain ⟨Ap, cp, rfl, -⟩ := Append.Own.reads hO
  have hb4 : Hid (Below w.heap.size w w4) := hb0.out.trans (hk1.mono hb0.out.size)
  have hX4 : Hid (Blk w4 w.heap.size 23 (cells8 r0).toArray) := Blk.onA hX0.out hk1
  have hY4 : Hid (Blk w4 (w.heap.size + 1) 23 (cells8 r1).toArray) := Blk.onA hY0.out hk1
  clear hO hk1 hb0 hX0 hY0 hPt hpm y1 y2 y3 y4
  by_cases hz : old = size
  ·have t3 : ((old : Int) == (size : Int)) = true := beq_iff_eq.2 (by omega)
   have hbe : vb = r0 := hB1.out hz
   by_cases hv1 : r0 = r1
   ·have q1 : ∀ w, (Op.equalIn 10000 23 (.agg (cells8 r0).toArray) (.agg (cells8 r1).toArray)).run Tryd.prog w = .ok true w := fun w => by rw [hq1.out w, decide_eq_true hv1]
    by_cases hs0 : size = 0
    ·have t4 : ((size : Int) == 0) = true := by rw [hs0]; rfl
     have ho : old = 0 := by omega
     have hae : va = vn := hA0.out ho
     by_cases hv2 : r1 = vn
     ·have q2 : ∀ w, (Op.equalIn 10000 23 (.agg (cells8 r1).toArray) (.agg (cells8 vn).toArray)).run Tryd.prog w = .ok true w := fun w => by rw [hq2.out w, decide_eq_true hv2]
      have ha : ans = 0 := by rw [hans.out, if_pos ⟨by rw [hae, hv1, hv2], by rw [hbe, hv1]⟩]
      clear hv1 hv2 hae hbe
      go_wp2_with (first
       | (go_at_call 146; refine (hNo.out _).mono ?_; rintro e w5 ⟨rfl, kk5⟩; have hX5 : Hid (Blk w5 w.heap.size 23 (cells8 r0).toArray) := Blk.onA hX4.out kk5; have hY5 : Hid (Blk w5 (w.heap.size + 1) 23 (cells8 r1).toArray) := Blk.onA hY4.out kk5; have hb5 : Hid (Below w.heap.size w w5) := hb4.out.trans (kk5.mono hb4.out.size); clear kk5)
       | ((with_reducible change wpList _ _ _ ({ dst := none, op := Op.store 23 (.tmp 13) _, type := _, pos := _, after := _, guard := _ } :: _) _ _); refine wpList_store_whole (o := ⟨none, _, _, _, _, _⟩) rfl 23 (.tmp 13) (.tmp 37) rfl (w5.heap.size) ((cells8 vn).toArray) rfl rfl 23 (Z32) (Blk.new w5 _ _) Fn.out.size Fn.out.zero Fn.out.one ?_; intro w6 hN6 kk6; have k56 : Below w5.heap.size w5 w6 := kept_fresh kk6; have hX6 : Hid (Blk w6 w.heap.size 23 (cells8 r0).toArray) := Blk.onA hX5.out k56; have hY6 : Hid (Blk w6 (w.heap.size + 1) 23 (cells8 r1).toArray) := Blk.onA hY5.out k56; have hb6 : Hid (Below w.heap.size w w6) := hb5.out.trans (k56.mono hb5.out.size); replace hN6 := Lib.hid hN6; clear kk6 k56)
       | ((with_reducible change wpList _ _ _ (⟨some 41, _, _, _, _, _⟩ :: _) _ _); refine wpList_load_row (o := ⟨some 41, _, _, _, _, _⟩) rfl 23 (.tmp 9) rfl (w.heap.size) rfl 23 ((cells8 r0).toArray) (0, 0) _ hX6.out Tryd.underlying23 rfl F0.out.size ?_)
       | ((with_reducible change wpList _ _ _ (⟨some 42, _, _, _, _, _⟩ :: _) _ _); refine wpList_load_row (o := ⟨some 42, _, _, _, _, _⟩) rfl 23 (.tmp 10) rfl (w.heap.size + 1) rfl 23 ((cells8 r1).toArray) (0, 0) _ hY6.out Tryd.underlying23 rfl F1.out.size ?_)
       | ((with_reducible change wpList _ _ _ (⟨some 48, _, _, _, _, _⟩ :: _) _ _); refine wpList_load_rowG (o := ⟨some 48, _, _, _, _, _⟩) rfl 23 (.tmp 10) rfl (w.heap.size + 1) rfl 23 ((cells8 r1).toArray) (0, 0) _ hY6.out Tryd.underlying23 rfl F1.out.size ?_)
       | ((with_reducible change wpList _ _ _ (⟨some 49, _, _, _, _, _⟩ :: _) _ _); refine wpList_load_rowG (o := ⟨some 49, _, _, _, _, _⟩) rfl 23 (.tmp 13) rfl (w5.heap.size) rfl 23 ((cells8 vn).toArray) (0, 0) _ hN6.out Tryd.underlying23 rfl Fn.out.size ?_)
       | ((with_reducible change wpList _ _ _ (⟨some 55, _, _, _, _, _⟩ :: _) _ _); refine wpList_load_row (o := ⟨some 55, _, _, _, _, _⟩) rfl 23 (.tmp 9) rfl (w.heap.size) rfl 23 ((cells8 r0).toArray) (0, 0) _ hX6.out Tryd.underlying23 rfl F0.out.size ?_)
       | ((with_reducible change wpList _ _ _ (⟨some 56, _, _, _, _, _⟩ :: _) _ _); refine wpList_load_row (o := ⟨some 56, _, _, _, _, _⟩) rfl 23 (.tmp 13) rfl (w5.heap.size) rfl 23 ((cells8 vn).toArray) (0, 0) _ hN6.out Tryd.underlying23 rfl Fn.out.size ?_))
      go_ret
      exact ⟨by rw [ha]; rfl, hb6.out⟩
     ·have q2 : ∀ w, (Op.equalIn 10000 23 (.agg (cells8 r1).toArray) (.agg (cells8 vn).toArray)).run Tryd.prog w = .ok false w := fun w => by rw [hq2.out w, decide_eq_false hv2]
      have ha : ans = 171 := by rw [hans.out, if_neg (fun h => hv2 (by rw [← hv1, ← h.1, hae]))]
      clear hv1 hv2 hae hbe
      go_wp2_with (first
       | (go_at_call 146; refine (hNo.out _).mono ?_; rintro e w5 ⟨rfl, kk5⟩; have hX5 : Hid (Blk w5 w.heap.size 23 (cells8 r0).toArray) := Blk.onA hX4.out kk5; have hY5 : Hid (Blk w5 (w.heap.size + 1) 23 (cells8 r1).toArray) := Blk.onA hY4.out kk5; have hb5 : Hid (Below w.heap.size w w5) := hb4.out.trans (kk5.mono hb4.out.size); clear kk5)
       | ((with_reducible change wpList _ _ _ ({ dst := none, op := Op.store 23 (.tmp 13) _, type := _, pos := _, after := _, guard := _ } :: _) _ _); refine wpList_store_whole (o := ⟨none, _, _, _, _, _⟩) rfl 23 (.tmp 13) (.tmp 37) rfl (w5.heap.size) ((cells8 vn).toArray) rfl rfl 23 (Z32) (Blk.new w5 _ _) Fn.out.size Fn.out.zero Fn.out.one ?_; intro w6 hN6 kk6; have k56 : Below w5.heap.size w5 w6 := kept_fresh kk6; have hX6 : Hid (Blk w6 w.heap.size 23 (cells8 r0).toArray) := Blk.onA hX5.out k56; have hY6 : Hid (Blk w6 (w.heap.size + 1) 23 (cells8 r1).toArray) := Blk.onA hY5.out k56; have hb6 : Hid (Below w.heap.size w w6) := hb5.out.trans (k56.mono hb5.out.size); replace hN6 := Lib.hid hN6; clear kk6 k56)
       | ((with_reducible change wpList _ _ _ (⟨some 41, _, _, _, _, _⟩ :: _) _ _); refine wpList_load_row (o := ⟨some 41, _, _, _, _, _⟩) rfl 23 (.tmp 9) rfl (w.heap.size) rfl 23 ((cells8 r0).toArray) (0, 0) _ hX6.out Tryd.underlying23 rfl F0.out.size ?_)
       | ((with_reducible change wpList _ _ _ (⟨some 42, _, _, _, _, _⟩ :: _) _ _); refine wpList_load_row (o := ⟨some 42, _, _, _, _, _⟩) rfl 23 (.tmp 10) rfl (w.heap.size + 1) rfl 23 ((cells8 r1).toArray) (0, 0) _ hY6.out Tryd.underlying23 rfl F1.out.size ?_)
       | ((with_reducible change wpList _ _ _ (⟨some 48, _, _, _, _, _⟩ :: _) _ _); refine wpList_load_rowG (o := ⟨some 48, _, _, _, _, _⟩) rfl 23 (.tmp 10) rfl (w.heap.size + 1) rfl 23 ((cells8 r1).toArray) (0, 0) _ hY6.out Tryd.underlying23 rfl F1.out.size ?_)
       | ((with_reducible change wpList _ _ _ (⟨some 49, _, _, _, _, _⟩ :: _) _ _); refine wpList_load_rowG (o := ⟨some 49, _, _, _, _, _⟩) rfl 23 (.tmp 13) rfl (w5.heap.size) rfl 23 ((cells8 vn).toArray) (0, 0) _ hN6.out Tryd.underlying23 rfl Fn.out.size ?_)
       | ((with_reducible change wpList _ _ _ (⟨some 55, _, _, _, _, _⟩ :: _) _ _); refine wpList_load_row (o := ⟨some 55, _, _, _, _, _⟩) rfl 23 (.tmp 9) rfl (w.heap.size) rfl 23 ((cells8 r0).toArray) (0, 0) _ hX6.out Tryd.underlying23 rfl F0.out.size ?_)
       | ((with_reducible change wpList _ _ _ (⟨some 56, _, _, _, _, _⟩ :: _) _ _); refine wpList_load_row (o := ⟨some 56, _, _, _, _, _⟩) rfl 23 (.tmp 13) rfl (w5.heap.size) rfl 23 ((cells8 vn).toArray) (0, 0) _ hN6.out Tryd.underlying23 rfl Fn.out.size ?_))
      go_ret
      exact ⟨by rw [ha]; rfl, hb6.out⟩
    ·have t4 : ((size : Int) == 0) = false := beq_eq_false_iff_ne.2 (by omega)
     have ho : ¬ old = 0 := by omega
     have hae : va = r0 := hA1.out ho hz
     have ha : ans = 0 := by rw [hans.out, if_pos ⟨hae, by rw [hbe, hv1]⟩]
     clear hv1 hae hbe
     go_wp2_with (first
      | (go_at_call 146; refine (hNo.out _).mono ?_; rintro e w5 ⟨rfl, kk5⟩; have hX5 : Hid (Blk w5 w.heap.size 23 (cells8 r0).toArray) := Blk.onA hX4.out kk5; have hY5 : Hid (Blk w5 (w.heap.size + 1) 23 (cells8 r1).toArray) := Blk.onA hY4.out kk5; have hb5 : Hid (Below w.heap.size w w5) := hb4.out.trans (kk5.mono hb4.out.size); clear kk5)
      | ((with_reducible change wpList _ _ _ ({ dst := none, op := Op.store 23 (.tmp 13) _, type := _, pos := _, after := _, guard := _ } :: _) _ _); refine wpList_store_whole (o := ⟨none, _, _, _, _, _⟩) rfl 23 (.tmp 13) (.tmp 37) rfl (w5.heap.size) ((cells8 vn).toArray) rfl rfl 23 (Z32) (Blk.new w5 _ _) Fn.out.size Fn.out.zero Fn.out.one ?_; intro w6 hN6 kk6; have k56 : Below w5.heap.size w5 w6 := kept_fresh kk6; have hX6 : Hid (Blk w6 w.heap.size 23 (cells8 r0).toArray) := Blk.onA hX5.out k56; have hY6 : Hid (Blk w6 (w.heap.size + 1) 23 (cells8 r1).toArray) := Blk.onA hY5.out k56; have hb6 : Hid (Below w.heap.size w w6) := hb5.out.trans (k56.mono hb5.out.size); replace hN6 := Lib.hid hN6; clear kk6 k56)
      | ((with_reducible change wpList _ _ _ (⟨some 41, _, _, _, _, _⟩ :: _) _ _); refine wpList_load_row (o := ⟨some 41, _, _, _, _, _⟩) rfl 23 (.tmp 9) rfl (w.heap.size) rfl 23 ((cells8 r0).toArray) (0, 0) _ hX6.out Tryd.underlying23 rfl F0.out.size ?_)
      | ((with_reducible change wpList _ _ _ (⟨some 42, _, _, _, _, _⟩ :: _) _ _); refine wpList_load_row (o := ⟨some 42, _, _, _, _, _⟩) rfl 23 (.tmp 10) rfl (w.heap.size + 1) rfl 23 ((cells8 r1).toArray) (0, 0) _ hY6.out Tryd.underlying23 rfl F1.out.size ?_)
      | ((with_reducible change wpList _ _ _ (⟨some 48, _, _, _, _, _⟩ :: _) _ _); refine wpList_load_rowG (o := ⟨some 48, _, _, _, _, _⟩) rfl 23 (.tmp 10) rfl (w.heap.size + 1) rfl 23 ((cells8 r1).toArray) (0, 0) _ hY6.out Tryd.underlying23 rfl F1.out.size ?_)
      | ((with_reducible change wpList _ _ _ (⟨some 49, _, _, _, _, _⟩ :: _) _ _); refine wpList_load_rowG (o := ⟨some 49, _, _, _, _, _⟩) rfl 23 (.tmp 13) rfl (w5.heap.size) rfl 23 ((cells8 vn).toArray) (0, 0) _ hN6.out Tryd.underlying23 rfl Fn.out.size ?_)
      | ((with_reducible change wpList _ _ _ (⟨some 55, _, _, _, _, _⟩ :: _) _ _); refine wpList_load_row (o := ⟨some 55, _, _, _, _, _⟩) rfl 23 (.tmp 9) rfl (w.heap.size) rfl 23 ((cells8 r0).toArray) (0, 0) _ hX6.out Tryd.underlying23 rfl F0.out.size ?_)
      | ((with_reducible change wpList _ _ _ (⟨some 56, _, _, _, _, _⟩ :: _) _ _); refine wpList_load_row (o := ⟨some 56, _, _, _, _, _⟩) rfl 23 (.tmp 13) rfl (w5.heap.size) rfl 23 ((cells8 vn).toArray) (0, 0) _ hN6.out Tryd.underlying23 rfl Fn.out.size ?_))
     go_ret
     exact ⟨by rw [ha]; rfl, hb6.out⟩
   ·have q1 : ∀ w, (Op.equalIn 10000 23 (.agg (cells8 r0).toArray) (.agg (cells8 r1).toArray)).run Tryd.prog w = .ok false w := fun w => by rw [hq1.out w, decide_eq_false hv1]
    have ha : ans = 171 := by rw [hans.out, if_neg (fun h => hv1 (by rw [← h.2, hbe]))]
    clear hv1 hbe
    go_wp2_with (first
     | (go_at_call 146; refine (hNo.out _).mono ?_; rintro e w5 ⟨rfl, kk5⟩; have hX5 : Hid (Blk w5 w.heap.size 23 (cells8 r0).toArray) := Blk.onA hX4.out kk5; have hY5 : Hid (Blk w5 (w.heap.size + 1) 23 (cells8 r1).toArray) := Blk.onA hY4.out kk5; have hb5 : Hid (Below w.heap.size w w5) := hb4.out.trans (kk5.mono hb4.out.size); clear kk5)
     | ((with_reducible change wpList _ _ _ ({ dst := none, op := Op.store 23 (.tmp 13) _, type := _, pos := _, after := _, guard := _ } :: _) _ _); refine wpList_store_whole (o := ⟨none, _, _, _, _, _⟩) rfl 23 (.tmp 13) (.tmp 37) rfl (w5.heap.size) ((cells8 vn).toArray) rfl rfl 23 (Z32) (Blk.new w5 _ _) Fn.out.size Fn.out.zero Fn.out.one ?_; intro w6 hN6 kk6; have k56 : Below w5.heap.size w5 w6 := kept_fresh kk6; have hX6 : Hid (Blk w6 w.heap.size 23 (cells8 r0).toArray) := Blk.onA hX5.out k56; have hY6 : Hid (Blk w6 (w.heap.size + 1) 23 (cells8 r1).toArray) := Blk.onA hY5.out k56; have hb6 : Hid (Below w.heap.size w w6) := hb5.out.trans (k56.mono hb5.out.size); replace hN6 := Lib.hid hN6; clear kk6 k56)
     | ((with_reducible change wpList _ _ _ (⟨some 41, _, _, _, _, _⟩ :: _) _ _); refine wpList_load_row (o := ⟨some 41, _, _, _, _, _⟩) rfl 23 (.tmp 9) rfl (w.heap.size) rfl 23 ((cells8 r0).toArray) (0, 0) _ hX6.out Tryd.underlying23 rfl F0.out.size ?_)
     | ((with_reducible change wpList _ _ _ (⟨some 42, _, _, _, _, _⟩ :: _) _ _); refine wpList_load_row (o := ⟨some 42, _, _, _, _, _⟩) rfl 23 (.tmp 10) rfl (w.heap.size + 1) rfl 23 ((cells8 r1).toArray) (0, 0) _ hY6.out Tryd.underlying23 rfl F1.out.size ?_)
     | ((with_reducible change wpList _ _ _ (⟨some 48, _, _, _, _, _⟩ :: _) _ _); refine wpList_load_rowG (o := ⟨some 48, _, _, _, _, _⟩) rfl 23 (.tmp 10) rfl (w.heap.size + 1) rfl 23 ((cells8 r1).toArray) (0, 0) _ hY6.out Tryd.underlying23 rfl F1.out.size ?_)
     | ((with_reducible change wpList _ _ _ (⟨some 49, _, _, _, _, _⟩ :: _) _ _); refine wpList_load_rowG (o := ⟨some 49, _, _, _, _, _⟩) rfl 23 (.tmp 13) rfl (w5.heap.size) rfl 23 ((cells8 vn).toArray) (0, 0) _ hN6.out Tryd.underlying23 rfl Fn.out.size ?_)
     | ((with_reducible change wpList _ _ _ (⟨some 55, _, _, _, _, _⟩ :: _) _ _); refine wpList_load_row (o := ⟨some 55, _, _, _, _, _⟩) rfl 23 (.tmp 9) rfl (w.heap.size) rfl 23 ((cells8 r0).toArray) (0, 0) _ hX6.out Tryd.underlying23 rfl F0.out.size ?_)
     | ((with_reducible change wpList _ _ _ (⟨some 56, _, _, _, _, _⟩ :: _) _ _); refine wpList_load_row (o := ⟨some 56, _, _, _, _, _⟩) rfl 23 (.tmp 13) rfl (w5.heap.size) rfl 23 ((cells8 vn).toArray) (0, 0) _ hN6.out Tryd.underlying23 rfl Fn.out.size ?_))
    go_ret
    exact ⟨by rw [ha]; rfl, hb6.out⟩
  ·have t3 : ((old : Int) == (size : Int)) = false := beq_eq_false_iff_ne.2 (by omega)
   have t5 : ¬ old = size := hz
   by_cases ho : old = 0
   ·have t1 : ((old : Int) == 0) = true := by rw [ho]; rfl
    have hae : va = vn := hA0.out ho
    have hbe : vb = r1 := hB0.out hz ho
    by_cases hv2 : r0 = vn
    ·have q2 : ∀ w, (Op.equalIn 10000 23 (.agg (cells8 r0).toArray) (.agg (cells8 vn).toArray)).run Tryd.prog w = .ok true w := fun w => by rw [hq3.out w, decide_eq_true hv2]
     have ha : ans = 0 := by rw [hans.out, if_pos ⟨by rw [hae, hv2], hbe⟩]
     clear hv2 hae hbe
     go_wp2_with (first
      | (go_at_call 146; refine (hNo.out _).mono ?_; rintro e w5 ⟨rfl, kk5⟩; have hX5 : Hid (Blk w5 w.heap.size 23 (cells8 r0).toArray) := Blk.onA hX4.out kk5; have hY5 : Hid (Blk w5 (w.heap.size + 1) 23 (cells8 r1).toArray) := Blk.onA hY4.out kk5; have hb5 : Hid (Below w.heap.size w w5) := hb4.out.trans (kk5.mono hb4.out.size); clear kk5)
      | ((with_reducible change wpList _ _ _ ({ dst := none, op := Op.store 23 (.tmp 13) _, type := _, pos := _, after := _, guard := _ } :: _) _ _); refine wpList_store_whole (o := ⟨none, _, _, _, _, _⟩) rfl 23 (.tmp 13) (.tmp 37) rfl (w5.heap.size) ((cells8 vn).toArray) rfl rfl 23 (Z32) (Blk.new w5 _ _) Fn.out.size Fn.out.zero Fn.out.one ?_; intro w6 hN6 kk6; have k56 : Below w5.heap.size w5 w6 := kept_fresh kk6; have hX6 : Hid (Blk w6 w.heap.size 23 (cells8 r0).toArray) := Blk.onA hX5.out k56; have hY6 : Hid (Blk w6 (w.heap.size + 1) 23 (cells8 r1).toArray) := Blk.onA hY5.out k56; have hb6 : Hid (Below w.heap.size w w6) := hb5.out.trans (k56.mono hb5.out.size); replace hN6 := Lib.hid hN6; clear kk6 k56)
      | ((with_reducible change wpList _ _ _ (⟨some 41, _, _, _, _, _⟩ :: _) _ _); refine wpList_load_row (o := ⟨some 41, _, _, _, _, _⟩) rfl 23 (.tmp 9) rfl (w.heap.size) rfl 23 ((cells8 r0).toArray) (0, 0) _ hX6.out Tryd.underlying23 rfl F0.out.size ?_)
      | ((with_reducible change wpList _ _ _ (⟨some 42, _, _, _, _, _⟩ :: _) _ _); refine wpList_load_row (o := ⟨some 42, _, _, _, _, _⟩) rfl 23 (.tmp 10) rfl (w.heap.size + 1) rfl 23 ((cells8 r1).toArray) (0, 0) _ hY6.out Tryd.underlying23 rfl F1.out.size ?_)
      | ((with_reducible change wpList _ _ _ (⟨some 48, _, _, _, _, _⟩ :: _) _ _); refine wpList_load_rowG (o := ⟨some 48, _, _, _, _, _⟩) rfl 23 (.tmp 10) rfl (w.heap.size + 1) rfl 23 ((cells8 r1).toArray) (0, 0) _ hY6.out Tryd.underlying23 rfl F1.out.size ?_)
      | ((with_reducible change wpList _ _ _ (⟨some 49, _, _, _, _, _⟩ :: _) _ _); refine wpList_load_rowG (o := ⟨some 49, _, _, _, _, _⟩) rfl 23 (.tmp 13) rfl (w5.heap.size) rfl 23 ((cells8 vn).toArray) (0, 0) _ hN6.out Tryd.underlying23 rfl Fn.out.size ?_)
      | ((with_reducible change wpList _ _ _ (⟨some 55, _, _, _, _, _⟩ :: _) _ _); refine wpList_load_row (o := ⟨some 55, _, _, _, _, _⟩) rfl 23 (.tmp 9) rfl (w.heap.size) rfl 23 ((cells8 r0).toArray) (0, 0) _ hX6.out Tryd.underlying23 rfl F0.out.size ?_)
      | ((with_reducible change wpList _ _ _ (⟨some 56, _, _, _, _, _⟩ :: _) _ _); refine wpList_load_row (o := ⟨some 56, _, _, _, _, _⟩) rfl 23 (.tmp 13) rfl (w5.heap.size) rfl 23 ((cells8 vn).toArray) (0, 0) _ hN6.out Tryd.underlying23 rfl Fn.out.size ?_))
     go_ret
     exact ⟨by rw [ha]; rfl, hb6.out⟩
    ·have q2 : ∀ w, (Op.equalIn 10000 23 (.agg (cells8 r0).toArray) (.agg (cells8 vn).toArray)).run Tryd.prog w = .ok false w := fun w => by rw [hq3.out w, decide_eq_false hv2]
     have ha : ans = 171 := by rw [hans.out, if_neg (fun h => hv2 (by rw [← h.1, hae]))]
     clear hv2 hae hbe
     go_wp2_with (first
      | (go_at_call 146; refine (hNo.out _).mono ?_; rintro e w5 ⟨rfl, kk5⟩; have hX5 : Hid (Blk w5 w.heap.size 23 (cells8 r0).toArray) := Blk.onA hX4.out kk5; have hY5 : Hid (Blk w5 (w.heap.size + 1) 23 (cells8 r1).toArray) := Blk.onA hY4.out kk5; have hb5 : Hid (Below w.heap.size w w5) := hb4.out.trans (kk5.mono hb4.out.size); clear kk5)
      | ((with_reducible change wpList _ _ _ ({ dst := none, op := Op.store 23 (.tmp 13) _, type := _, pos := _, after := _, guard := _ } :: _) _ _); refine wpList_store_whole (o := ⟨none, _, _, _, _, _⟩) rfl 23 (.tmp 13) (.tmp 37) rfl (w5.heap.size) ((cells8 vn).toArray) rfl rfl 23 (Z32) (Blk.new w5 _ _) Fn.out.size Fn.out.zero Fn.out.one ?_; intro w6 hN6 kk6; have k56 : Below w5.heap.size w5 w6 := kept_fresh kk6; have hX6 : Hid (Blk w6 w.heap.size 23 (cells8 r0).toArray) := Blk.onA hX5.out k56; have hY6 : Hid (Blk w6 (w.heap.size + 1) 23 (cells8 r1).toArray) := Blk.onA hY5.out k56; have hb6 : Hid (Below w.heap.size w w6) := hb5.out.trans (k56.mono hb5.out.size); replace hN6 := Lib.hid hN6; clear kk6 k56)
      | ((with_reducible change wpList _ _ _ (⟨some 41, _, _, _, _, _⟩ :: _) _ _); refine wpList_load_row (o := ⟨some 41, _, _, _, _, _⟩) rfl 23 (.tmp 9) rfl (w.heap.size) rfl 23 ((cells8 r0).toArray) (0, 0) _ hX6.out Tryd.underlying23 rfl F0.out.size ?_)
      | ((with_reducible change wpList _ _ _ (⟨some 42, _, _, _, _, _⟩ :: _) _ _); refine wpList_load_row (o := ⟨some 42, _, _, _, _, _⟩) rfl 23 (.tmp 10) rfl (w.heap.size + 1) rfl 23 ((cells8 r1).toArray) (0, 0) _ hY6.out Tryd.underlying23 rfl F1.out.size ?_)
      | ((with_reducible change wpList _ _ _ (⟨some 48, _, _, _, _, _⟩ :: _) _ _); refine wpList_load_rowG (o := ⟨some 48, _, _, _, _, _⟩) rfl 23 (.tmp 10) rfl (w.heap.size + 1) rfl 23 ((cells8 r1).toArray) (0, 0) _ hY6.out Tryd.underlying23 rfl F1.out.size ?_)
      | ((with_reducible change wpList _ _ _ (⟨some 49, _, _, _, _, _⟩ :: _) _ _); refine wpList_load_rowG (o := ⟨some 49, _, _, _, _, _⟩) rfl 23 (.tmp 13) rfl (w5.heap.size) rfl 23 ((cells8 vn).toArray) (0, 0) _ hN6.out Tryd.underlying23 rfl Fn.out.size ?_)
      | ((with_reducible change wpList _ _ _ (⟨some 55, _, _, _, _, _⟩ :: _) _ _); refine wpList_load_row (o := ⟨some 55, _, _, _, _, _⟩) rfl 23 (.tmp 9) rfl (w.heap.size) rfl 23 ((cells8 r0).toArray) (0, 0) _ hX6.out Tryd.underlying23 rfl F0.out.size ?_)
      | ((with_reducible change wpList _ _ _ (⟨some 56, _, _, _, _, _⟩ :: _) _ _); refine wpList_load_row (o := ⟨some 56, _, _, _, _, _⟩) rfl 23 (.tmp 13) rfl (w5.heap.size) rfl 23 ((cells8 vn).toArray) (0, 0) _ hN6.out Tryd.underlying23 rfl Fn.out.size ?_))
     go_ret
     exact ⟨by rw [ha]; rfl, hb6.out⟩
   ·have t1 : ((old : Int) == 0) = false := beq_eq_false_iff_ne.2 (by omega)
    have t0 : ¬ old = 0 := ho
    have hbe : (aheadOf s old size r0 ds).sr = vb := (hB2.out hz ho).symm
    have hae : (aheadOf s old size r0 ds).fr = va := (hA2.out ho hz).symm
    have hAhead : Hid (∀ w', Below w.heap.size w w' → Calls Tryd.prog 105 #[.int .i64 s, .int .i64 (old : Int), .int .i64 (size : Int), .agg (cells8 r0).toArray, .slice A m c] w' (fun e w'' => ∃ A9 n9 c9, e = .returned (.tuple #[.agg (cells8 va).toArray, .agg (cells8 vb).toArray, .slice A9 n9 c9, .int .i64 0]) ∧ Below w'.heap.size w' w'')) := fun w' hb => by
     refine (hva.out w' hb (by omega) (by have := hle.out; omega)).mono ?_
     rintro e w'' ⟨A9, c9, xs, rfl, -, -, hk⟩
     rw [hae, hbe]
     exact ⟨A9, _, c9, rfl, hk⟩
    clear hva hae hbe
    by_cases hv1 : va = r0
    ·have qa : ∀ w, (Op.equalIn 10000 23 (.agg (cells8 va).toArray) (.agg (cells8 r0).toArray)).run Tryd.prog w = .ok true w := fun w => by rw [hqa.out w, decide_eq_true hv1]
     by_cases hv2 : vb = r1
     ·have qb : ∀ w, (Op.equalIn 10000 23 (.agg (cells8 vb).toArray) (.agg (cells8 r1).toArray)).run Tryd.prog w = .ok true w := fun w => by rw [hqb.out w, decide_eq_true hv2]
      have ha : ans = 0 := by rw [hans.out, if_pos ⟨hv1, hv2⟩]
      clear hv1 hv2
      go_wp2_with (first
       | (go_at_call 146; refine (hNo.out _).mono ?_; rintro e w5 ⟨rfl, kk5⟩; have hX5 : Hid (Blk w5 w.heap.size 23 (cells8 r0).toArray) := Blk.onA hX4.out kk5; have hY5 : Hid (Blk w5 (w.heap.size + 1) 23 (cells8 r1).toArray) := Blk.onA hY4.out kk5; have hb5 : Hid (Below w.heap.size w w5) := hb4.out.trans (kk5.mono hb4.out.size); clear kk5)
       | ((with_reducible change wpList _ _ _ ({ dst := none, op := Op.store 23 (.tmp 13) _, type := _, pos := _, after := _, guard := _ } :: _) _ _); refine wpList_store_whole (o := ⟨none, _, _, _, _, _⟩) rfl 23 (.tmp 13) (.tmp 37) rfl (w5.heap.size) ((cells8 vn).toArray) rfl rfl 23 (Z32) (Blk.new w5 _ _) Fn.out.size Fn.out.zero Fn.out.one ?_; intro w6 hN6 kk6; have k56 : Below w5.heap.size w5 w6 := kept_fresh kk6; have hX6 : Hid (Blk w6 w.heap.size 23 (cells8 r0).toArray) := Blk.onA hX5.out k56; have hY6 : Hid (Blk w6 (w.heap.size + 1) 23 (cells8 r1).toArray) := Blk.onA hY5.out k56; have hb6 : Hid (Below w.heap.size w w6) := hb5.out.trans (k56.mono hb5.out.size); replace hN6 := Lib.hid hN6; clear kk6 k56)
       | ((with_reducible change wpList _ _ _ (⟨some 62, _, _, _, _, _⟩ :: _) _ _); refine wpList_load_row (o := ⟨some 62, _, _, _, _, _⟩) rfl 23 (.tmp 9) rfl (w.heap.size) rfl 23 ((cells8 r0).toArray) (0, 0) _ hX6.out Tryd.underlying23 rfl F0.out.size ?_)
       | (go_at_call 105; refine (hAhead.out _ hb6.out).mono ?_; rintro e w7 ⟨A9, n9, c9, rfl, kk7⟩; have hX7 : Hid (Blk w7 w.heap.size 23 (cells8 r0).toArray) := Blk.onA hX6.out kk7; have hY7 : Hid (Blk w7 (w.heap.size + 1) 23 (cells8 r1).toArray) := Blk.onA hY6.out kk7; have hb7 : Hid (Below w.heap.size w w7) := hb6.out.trans (kk7.mono hb6.out.size); clear kk7)
       | ((with_reducible change wpList _ _ _ ({ dst := none, op := Op.store 23 (.tmp 14) _, type := _, pos := _, after := _, guard := _ } :: _) _ _); refine wpList_store_whole (o := ⟨none, _, _, _, _, _⟩) rfl 23 (.tmp 14) (.tmp 65) rfl (w7.heap.size) ((cells8 va).toArray) rfl rfl 23 (Z32) (heap_alloc2_old w7 _ _) Fa.out.size Fa.out.zero Fa.out.one ?_; intro w8 hM8 kk8; have k78 : Below w7.heap.size w7 w8 := ((Below.heap_below w7 _).alloc (by simp) _).trans (Kept.below_of kk8 (Nat.le_refl _) (by simp; omega)); have hX8 : Hid (Blk w8 w.heap.size 23 (cells8 r0).toArray) := Blk.onA hX7.out k78; have hY8 : Hid (Blk w8 (w.heap.size + 1) 23 (cells8 r1).toArray) := Blk.onA hY7.out k78; have hb8 : Hid (Below w.heap.size w w8) := hb7.out.trans (k78.mono hb7.out.size); have hN8 : Hid (Blk w8 (w7.heap.size + 1) 23 Z32) := Blk.kept (heap_alloc2_new w7 _ _) kk8 (by omega); have hlt7 := Lib.hid hY7.out.lt; replace hM8 := Lib.hid hM8; clear kk8 k78)
       | ((with_reducible change wpList _ _ _ ({ dst := none, op := Op.store 23 (.tmp 15) _, type := _, pos := _, after := _, guard := _ } :: _) _ _); refine wpList_store_whole (o := ⟨none, _, _, _, _, _⟩) rfl 23 (.tmp 15) (.tmp 66) rfl ((w7.heap.size + 1)) ((cells8 vb).toArray) rfl rfl 23 (Z32) hN8.out Fb.out.size Fb.out.zero Fb.out.one ?_; intro w9 hN9 kk9; have hX9 : Hid (Blk w9 w.heap.size 23 (cells8 r0).toArray) := hX8.out.kept kk9 (by have := hlt7.out; omega); have hY9 : Hid (Blk w9 (w.heap.size + 1) 23 (cells8 r1).toArray) := hY8.out.kept kk9 (by have := hlt7.out; omega); have hM9 : Hid (Blk w9 w7.heap.size 23 (cells8 va).toArray) := hM8.out.kept kk9 (by omega); have hb9 : Hid (Below w.heap.size w w9) := hb8.out.trans (Kept.below_of kk9 (by have := hlt7.out; omega) hb8.out.size); replace hN9 := Lib.hid hN9; clear kk9)
       | ((with_reducible change wpList _ _ _ (⟨some 69, _, _, _, _, _⟩ :: _) _ _); refine wpList_load_row (o := ⟨some 69, _, _, _, _, _⟩) rfl 23 (.tmp 14) rfl (w7.heap.size) rfl 23 ((cells8 va).toArray) (0, 0) _ hM9.out Tryd.underlying23 rfl Fa.out.size ?_)
       | ((with_reducible change wpList _ _ _ (⟨some 70, _, _, _, _, _⟩ :: _) _ _); refine wpList_load_row (o := ⟨some 70, _, _, _, _, _⟩) rfl 23 (.tmp 9) rfl (w.heap.size) rfl 23 ((cells8 r0).toArray) (0, 0) _ hX9.out Tryd.underlying23 rfl F0.out.size ?_)
       | ((with_reducible change wpList _ _ _ (⟨some 73, _, _, _, _, _⟩ :: _) _ _); refine wpList_load_rowG (o := ⟨some 73, _, _, _, _, _⟩) rfl 23 (.tmp 15) rfl (w7.heap.size + 1) rfl 23 ((cells8 vb).toArray) (0, 0) _ hN9.out Tryd.underlying23 rfl Fb.out.size ?_)
       | ((with_reducible change wpList _ _ _ (⟨some 74, _, _, _, _, _⟩ :: _) _ _); refine wpList_load_rowG (o := ⟨some 74, _, _, _, _, _⟩) rfl 23 (.tmp 10) rfl (w.heap.size + 1) rfl 23 ((cells8 r1).toArray) (0, 0) _ hY9.out Tryd.underlying23 rfl F1.out.size ?_))
      go_ret
      exact ⟨by rw [ha]; rfl, hb9.out⟩
     ·have qb : ∀ w, (Op.equalIn 10000 23 (.agg (cells8 vb).toArray) (.agg (cells8 r1).toArray)).run Tryd.prog w = .ok false w := fun w => by rw [hqb.out w, decide_eq_false hv2]
      have ha : ans = 171 := by rw [hans.out, if_neg (fun h => hv2 h.2)]
      clear hv1 hv2
      go_wp2_with (first
       | (go_at_call 146; refine (hNo.out _).mono ?_; rintro e w5 ⟨rfl, kk5⟩; have hX5 : Hid (Blk w5 w.heap.size 23 (cells8 r0).toArray) := Blk.onA hX4.out kk5; have hY5 : Hid (Blk w5 (w.heap.size + 1) 23 (cells8 r1).toArray) := Blk.onA hY4.out kk5; have hb5 : Hid (Below w.heap.size w w5) := hb4.out.trans (kk5.mono hb4.out.size); clear kk5)
       | ((with_reducible change wpList _ _ _ ({ dst := none, op := Op.store 23 (.tmp 13) _, type := _, pos := _, after := _, guard := _ } :: _) _ _); refine wpList_store_whole (o := ⟨none, _, _, _, _, _⟩) rfl 23 (.tmp 13) (.tmp 37) rfl (w5.heap.size) ((cells8 vn).toArray) rfl rfl 23 (Z32) (Blk.new w5 _ _) Fn.out.size Fn.out.zero Fn.out.one ?_; intro w6 hN6 kk6; have k56 : Below w5.heap.size w5 w6 := kept_fresh kk6; have hX6 : Hid (Blk w6 w.heap.size 23 (cells8 r0).toArray) := Blk.onA hX5.out k56; have hY6 : Hid (Blk w6 (w.heap.size + 1) 23 (cells8 r1).toArray) := Blk.onA hY5.out k56; have hb6 : Hid (Below w.heap.size w w6) := hb5.out.trans (k56.mono hb5.out.size); replace hN6 := Lib.hid hN6; clear kk6 k56)
       | ((with_reducible change wpList _ _ _ (⟨some 62, _, _, _, _, _⟩ :: _) _ _); refine wpList_load_row (o := ⟨some 62, _, _, _, _, _⟩) rfl 23 (.tmp 9) rfl (w.heap.size) rfl 23 ((cells8 r0).toArray) (0, 0) _ hX6.out Tryd.underlying23 rfl F0.out.size ?_)
       | (go_at_call 105; refine (hAhead.out _ hb6.out).mono ?_; rintro e w7 ⟨A9, n9, c9, rfl, kk7⟩; have hX7 : Hid (Blk w7 w.heap.size 23 (cells8 r0).toArray) := Blk.onA hX6.out kk7; have hY7 : Hid (Blk w7 (w.heap.size + 1) 23 (cells8 r1).toArray) := Blk.onA hY6.out kk7; have hb7 : Hid (Below w.heap.size w w7) := hb6.out.trans (kk7.mono hb6.out.size); clear kk7)
       | ((with_reducible change wpList _ _ _ ({ dst := none, op := Op.store 23 (.tmp 14) _, type := _, pos := _, after := _, guard := _ } :: _) _ _); refine wpList_store_whole (o := ⟨none, _, _, _, _, _⟩) rfl 23 (.tmp 14) (.tmp 65) rfl (w7.heap.size) ((cells8 va).toArray) rfl rfl 23 (Z32) (heap_alloc2_old w7 _ _) Fa.out.size Fa.out.zero Fa.out.one ?_; intro w8 hM8 kk8; have k78 : Below w7.heap.size w7 w8 := ((Below.heap_below w7 _).alloc (by simp) _).trans (Kept.below_of kk8 (Nat.le_refl _) (by simp; omega)); have hX8 : Hid (Blk w8 w.heap.size 23 (cells8 r0).toArray) := Blk.onA hX7.out k78; have hY8 : Hid (Blk w8 (w.heap.size + 1) 23 (cells8 r1).toArray) := Blk.onA hY7.out k78; have hb8 : Hid (Below w.heap.size w w8) := hb7.out.trans (k78.mono hb7.out.size); have hN8 : Hid (Blk w8 (w7.heap.size + 1) 23 Z32) := Blk.kept (heap_alloc2_new w7 _ _) kk8 (by omega); have hlt7 := Lib.hid hY7.out.lt; replace hM8 := Lib.hid hM8; clear kk8 k78)
       | ((with_reducible change wpList _ _ _ ({ dst := none, op := Op.store 23 (.tmp 15) _, type := _, pos := _, after := _, guard := _ } :: _) _ _); refine wpList_store_whole (o := ⟨none, _, _, _, _, _⟩) rfl 23 (.tmp 15) (.tmp 66) rfl ((w7.heap.size + 1)) ((cells8 vb).toArray) rfl rfl 23 (Z32) hN8.out Fb.out.size Fb.out.zero Fb.out.one ?_; intro w9 hN9 kk9; have hX9 : Hid (Blk w9 w.heap.size 23 (cells8 r0).toArray) := hX8.out.kept kk9 (by have := hlt7.out; omega); have hY9 : Hid (Blk w9 (w.heap.size + 1) 23 (cells8 r1).toArray) := hY8.out.kept kk9 (by have := hlt7.out; omega); have hM9 : Hid (Blk w9 w7.heap.size 23 (cells8 va).toArray) := hM8.out.kept kk9 (by omega); have hb9 : Hid (Below w.heap.size w w9) := hb8.out.trans (Kept.below_of kk9 (by have := hlt7.out; omega) hb8.out.size); replace hN9 := Lib.hid hN9; clear kk9)
       | ((with_reducible change wpList _ _ _ (⟨some 69, _, _, _, _, _⟩ :: _) _ _); refine wpList_load_row (o := ⟨some 69, _, _, _, _, _⟩) rfl 23 (.tmp 14) rfl (w7.heap.size) rfl 23 ((cells8 va).toArray) (0, 0) _ hM9.out Tryd.underlying23 rfl Fa.out.size ?_)
       | ((with_reducible change wpList _ _ _ (⟨some 70, _, _, _, _, _⟩ :: _) _ _); refine wpList_load_row (o := ⟨some 70, _, _, _, _, _⟩) rfl 23 (.tmp 9) rfl (w.heap.size) rfl 23 ((cells8 r0).toArray) (0, 0) _ hX9.out Tryd.underlying23 rfl F0.out.size ?_)
       | ((with_reducible change wpList _ _ _ (⟨some 73, _, _, _, _, _⟩ :: _) _ _); refine wpList_load_rowG (o := ⟨some 73, _, _, _, _, _⟩) rfl 23 (.tmp 15) rfl (w7.heap.size + 1) rfl 23 ((cells8 vb).toArray) (0, 0) _ hN9.out Tryd.underlying23 rfl Fb.out.size ?_)
       | ((with_reducible change wpList _ _ _ (⟨some 74, _, _, _, _, _⟩ :: _) _ _); refine wpList_load_rowG (o := ⟨some 74, _, _, _, _, _⟩) rfl 23 (.tmp 10) rfl (w.heap.size + 1) rfl 23 ((cells8 r1).toArray) (0, 0) _ hY9.out Tryd.underlying23 rfl F1.out.size ?_))
      go_ret
      exact ⟨by rw [ha]; rfl, hb9.out⟩
    ·have qa : ∀ w, (Op.equalIn 10000 23 (.agg (cells8 va).toArray) (.agg (cells8 r0).toArray)).run Tryd.prog w = .ok false w := fun w => by rw [hqa.out w, decide_eq_false hv1]
     have ha : ans = 171 := by rw [hans.out, if_neg (fun h => hv1 h.1)]
     clear hv1
     go_wp2_with (first
      | (go_at_call 146; refine (hNo.out _).mono ?_; rintro e w5 ⟨rfl, kk5⟩; have hX5 : Hid (Blk w5 w.heap.size 23 (cells8 r0).toArray) := Blk.onA hX4.out kk5; have hY5 : Hid (Blk w5 (w.heap.size + 1) 23 (cells8 r1).toArray) := Blk.onA hY4.out kk5; have hb5 : Hid (Below w.heap.size w w5) := hb4.out.trans (kk5.mono hb4.out.size); clear kk5)
      | ((with_reducible change wpList _ _ _ ({ dst := none, op := Op.store 23 (.tmp 13) _, type := _, pos := _, after := _, guard := _ } :: _) _ _); refine wpList_store_whole (o := ⟨none, _, _, _, _, _⟩) rfl 23 (.tmp 13) (.tmp 37) rfl (w5.heap.size) ((cells8 vn).toArray) rfl rfl 23 (Z32) (Blk.new w5 _ _) Fn.out.size Fn.out.zero Fn.out.one ?_; intro w6 hN6 kk6; have k56 : Below w5.heap.size w5 w6 := kept_fresh kk6; have hX6 : Hid (Blk w6 w.heap.size 23 (cells8 r0).toArray) := Blk.onA hX5.out k56; have hY6 : Hid (Blk w6 (w.heap.size + 1) 23 (cells8 r1).toArray) := Blk.onA hY5.out k56; have hb6 : Hid (Below w.heap.size w w6) := hb5.out.trans (k56.mono hb5.out.size); replace hN6 := Lib.hid hN6; clear kk6 k56)
      | ((with_reducible change wpList _ _ _ (⟨some 62, _, _, _, _, _⟩ :: _) _ _); refine wpList_load_row (o := ⟨some 62, _, _, _, _, _⟩) rfl 23 (.tmp 9) rfl (w.heap.size) rfl 23 ((cells8 r0).toArray) (0, 0) _ hX6.out Tryd.underlying23 rfl F0.out.size ?_)
      | (go_at_call 105; refine (hAhead.out _ hb6.out).mono ?_; rintro e w7 ⟨A9, n9, c9, rfl, kk7⟩; have hX7 : Hid (Blk w7 w.heap.size 23 (cells8 r0).toArray) := Blk.onA hX6.out kk7; have hY7 : Hid (Blk w7 (w.heap.size + 1) 23 (cells8 r1).toArray) := Blk.onA hY6.out kk7; have hb7 : Hid (Below w.heap.size w w7) := hb6.out.trans (kk7.mono hb6.out.size); clear kk7)
      | ((with_reducible change wpList _ _ _ ({ dst := none, op := Op.store 23 (.tmp 14) _, type := _, pos := _, after := _, guard := _ } :: _) _ _); refine wpList_store_whole (o := ⟨none, _, _, _, _, _⟩) rfl 23 (.tmp 14) (.tmp 65) rfl (w7.heap.size) ((cells8 va).toArray) rfl rfl 23 (Z32) (heap_alloc2_old w7 _ _) Fa.out.size Fa.out.zero Fa.out.one ?_; intro w8 hM8 kk8; have k78 : Below w7.heap.size w7 w8 := ((Below.heap_below w7 _).alloc (by simp) _).trans (Kept.below_of kk8 (Nat.le_refl _) (by simp; omega)); have hX8 : Hid (Blk w8 w.heap.size 23 (cells8 r0).toArray) := Blk.onA hX7.out k78; have hY8 : Hid (Blk w8 (w.heap.size + 1) 23 (cells8 r1).toArray) := Blk.onA hY7.out k78; have hb8 : Hid (Below w.heap.size w w8) := hb7.out.trans (k78.mono hb7.out.size); have hN8 : Hid (Blk w8 (w7.heap.size + 1) 23 Z32) := Blk.kept (heap_alloc2_new w7 _ _) kk8 (by omega); have hlt7 := Lib.hid hY7.out.lt; replace hM8 := Lib.hid hM8; clear kk8 k78)
      | ((with_reducible change wpList _ _ _ ({ dst := none, op := Op.store 23 (.tmp 15) _, type := _, pos := _, after := _, guard := _ } :: _) _ _); refine wpList_store_whole (o := ⟨none, _, _, _, _, _⟩) rfl 23 (.tmp 15) (.tmp 66) rfl ((w7.heap.size + 1)) ((cells8 vb).toArray) rfl rfl 23 (Z32) hN8.out Fb.out.size Fb.out.zero Fb.out.one ?_; intro w9 hN9 kk9; have hX9 : Hid (Blk w9 w.heap.size 23 (cells8 r0).toArray) := hX8.out.kept kk9 (by have := hlt7.out; omega); have hY9 : Hid (Blk w9 (w.heap.size + 1) 23 (cells8 r1).toArray) := hY8.out.kept kk9 (by have := hlt7.out; omega); have hM9 : Hid (Blk w9 w7.heap.size 23 (cells8 va).toArray) := hM8.out.kept kk9 (by omega); have hb9 : Hid (Below w.heap.size w w9) := hb8.out.trans (Kept.below_of kk9 (by have := hlt7.out; omega) hb8.out.size); replace hN9 := Lib.hid hN9; clear kk9)
      | ((with_reducible change wpList _ _ _ (⟨some 69, _, _, _, _, _⟩ :: _) _ _); refine wpList_load_row (o := ⟨some 69, _, _, _, _, _⟩) rfl 23 (.tmp 14) rfl (w7.heap.size) rfl 23 ((cells8 va).toArray) (0, 0) _ hM9.out Tryd.underlying23 rfl Fa.out.size ?_)
      | ((with_reducible change wpList _ _ _ (⟨some 70, _, _, _, _, _⟩ :: _) _ _); refine wpList_load_row (o := ⟨some 70, _, _, _, _, _⟩) rfl 23 (.tmp 9) rfl (w.heap.size) rfl 23 ((cells8 r0).toArray) (0, 0) _ hX9.out Tryd.underlying23 rfl F0.out.size ?_)
      | ((with_reducible change wpList _ _ _ (⟨some 73, _, _, _, _, _⟩ :: _) _ _); refine wpList_load_rowG (o := ⟨some 73, _, _, _, _, _⟩) rfl 23 (.tmp 15) rfl (w7.heap.size + 1) rfl 23 ((cells8 vb).toArray) (0, 0) _ hN9.out Tryd.underlying23 rfl Fb.out.size ?_)
      | ((with_reducible change wpList _ _ _ (⟨some 74, _, _, _, _, _⟩ :: _) _ _); refine wpList_load_rowG (o := ⟨some 74, _, _, _, _, _⟩) rfl 23 (.tmp 10) rfl (w.heap.size + 1) rfl 23 ((cells8 r1).toArray) (0, 0) _ hY9.out Tryd.underlying23 rfl F1.out.size ?_))
     go_ret
     exact ⟨by rw [ha]; rfl, hb9.out⟩
 ·rw [if_pos hmn] at hans
  subst hans
  have e1 : ((n : Int) == (m : Int)) = false := beq_eq_false_iff_ne.2 (by omega)
  have e1' : ((m : Int) == (n : Int)) = false := beq_eq_false_iff_ne.2 (by omega)
  have e2 : ¬ n = m := fun e => hmn e.symm
  have e3 : ¬ m = n := hmn
  clear hj hr hs h0 h1 hpl hm han hmn
  go_enter Tryd.func104, Tryd.ntmps104
  go_wp2_with fail
  change Calls _ _ _ ((w.alloc (.cells (cells8 r0).toArray 23)).alloc (.cells (cells8 r1).toArray 23)) _
  rw [← hw0.out]
  clear hw0
  refine (hPt.out _).mono ?_
  rintro e w4 ⟨v, rfl, hO, hk1⟩
  rw [hpm.out] at hO
  obtain ⟨Ap, cp, rfl, -⟩ := Append.Own.reads hO
  have hb4 : Hid (Below w.heap.size w w4) := hb0.out.trans (hk1.mono hb0.out.size)
  clear hO hk1
  go_wp2_with fail
  go_ret
  exact ⟨rfl, hb4.out⟩
theorem refagree_any (s old size : Int) (hs63 : s < 9223372036854775808) (r0 r1 : Text) (h0 : r0.length = 32) (h1 : r1.length = 32) (ds : List Text) (A : Option Addr) (n c : Nat) (w : World) (hr : RdD w A n ds) :
  Calls Tryd.prog 104 #[.int .i64 s, .int .i64 old, .int .i64 size, .agg (cells8 r0).toArray, .agg (cells8 r1).toArray, .slice A n c] w fun e w' => e = .returned (.int .i64 (agreeOf s old size r0 r1 ds)) ∧ Below w.heap.size w w' := by
 cases hj : joinsB old size with
 | false =>
  rw [show agreeOf s old size r0 r1 ds = 60 from if_pos hj]
  exact refagree_out s old size hj r0 r1 A n c w
 | true =>
  have h2 := hj
  simp only [joinsB, Bool.and_eq_true, decide_eq_true_eq] at h2
  obtain ⟨o, rfl⟩ := Int.eq_ofNat_of_zero_le h2.1.1
  obtain ⟨z, rfl⟩ := Int.eq_ofNat_of_zero_le (show 0 ≤ size by omega)
  exact refagree_in s hs63 o z (by omega) (by omega) r0 r1 h0 h1 ds A n c w hr
end Go.Proofs.YtmdkfhfkdcbpgaaDoorR.RefAgree
