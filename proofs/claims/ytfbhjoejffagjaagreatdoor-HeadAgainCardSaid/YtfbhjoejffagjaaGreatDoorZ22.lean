/-
  Texts of the claim, put into one file: RefMac.
-/
import Derived.Test.YtfbhjoejffagjaaGreatDoorZ20
import Derived.Test.YtfbhjoejffagjaaGreatDoorZ9

namespace Go.Proofs.YtfbhjoejffagjaaGreatDoor.RefMac
open Go Go.RowKit Go.Proofs.YtfbhjoejffagjaaGreatDoor Mem Sha Bytes Go.Proofs.YtfbhjoejffagjaaGreatDoor.Append DigestMem Digest Mac Own RefSum

def Two (u v : Value) : Prop := ∀ k, u.ownBlock = some k → v.ownBlock = some k → False
theorem Two.symm {u v : Value} (h : Two u v) : Two v u := fun k h1 h2 => h k h2 h1
theorem own_lt {w : World} {B e size n : Nat} {v : Value} {xs : List Value} (h : w.ownsRow B e size v n xs) : ∀ k, v.ownBlock = some k → k < w.heap.size := by
 intro k hk
 obtain ⟨h1, h2⟩ := h
 rcases h2 with h2 | ⟨g, cap, cur, rfl, hB, h3, h4⟩
 ·obtain ⟨rfl, -⟩ := h2
  cases hk
 ·obtain rfl : g = k := by simpa [Value.ownBlock] using hk
  exact (Array.getElem?_eq_some_iff.1 h3).1
theorem new8 (w : World) (x : BitVec 8) (n : Int) (hn : b8 x = n) : Reads (w.alloc (.cells #[.int .u8 n] 5)) 1 (some ⟨w.heap.size, 0, none⟩) 1 (cells8 [x]) := by
 subst hn
 exact (Blk.new w 5 _).reads 0 _ rfl (fun j u hu => by rw [Nat.zero_add]; exact by simpa [cells8, cell8] using hu)
theorem push2 {w w0 w' : World} {B j j2 : Nat} {A : Option Addr} {c : Nat} {p : Text} {x : BitVec 8} {o : Obj} {v2 v' : Value} {ys : List Value} (G : Grew (w.alloc o) B 5 1 (.slice A j c) j 1 (cells8 p) (cells8 [x]) v' w')
  (hO : w.ownsRow B 5 1 (.slice A j c) j (cells8 p)) (hP : w.ownsRow B 5 1 v2 j2 ys) (hap : Two (.slice A j c) v2) (hb : Below B w0 w) (hB : B ≤ w.heap.size) :
  ∃ A' c', v' = .slice A' (j + 1) c' ∧ w'.ownsRow B 5 1 (.slice A' (j + 1) c') (j + 1) (cells8 (p ++ [x])) ∧ w'.ownsRow B 5 1 v2 j2 ys ∧ Two v2 (.slice A' (j + 1) c') ∧ Below B w0 w' := by
 have ho := G.own
 have hat := G.at_
 obtain ⟨A', c', rfl, -⟩ := Own.reads ho
 refine ⟨A', c', rfl, by simpa [cells8] using ho, World.ownsRow.kept (hP.alloc _) G.grow ?_, fun k h1 h2 => ?_, G.below (hb.alloc hB _) (by simp; omega) (own_block hO)⟩
 ·cases e : v2.ownBlock with
  | none => exact .inl rfl
  | some k => exact .inr fun h => hap k h.symm e
 ·rcases hat with h | h
  ·exact hap k (h.symm.trans h2) h1
  ·rw [h2] at h
   have e := Option.some.inj h
   have := own_lt hP k h1
   simp at e
   omega
theorem two_kept {w w' : World} {B j2 : Nat} {v v2 : Value} {ys : List Value} (hP : w.ownsRow B 5 1 v2 j2 ys) (hap : Two v v2) (hg : w.grownBy w' v.ownBlock) : w'.ownsRow B 5 1 v2 j2 ys := by
 refine World.ownsRow.kept hP hg ?_
 cases e : v2.ownBlock with
 | none => exact .inl rfl
 | some k => exact .inr fun h => hap k h.symm e
theorem take_pad (c : BitVec 8) (q : Text) (t : Nat) (h : t < 64) : (padOf c q).take (t + 1) = (padOf c q).take t ++ [q.getD t 0 ^^^ c] := by
 rw [List.take_add_one, padOf_at c q t h]
 rfl

set_option maxRecDepth 100000 in
set_option maxHeartbeats 1000000 in
theorem refmac_any (q r : Text) (k m : Nat) (hk : q.length = k) (hm : r.length = m) (hk64 : k ≤ 64) (A0 A2 : Option Addr) (c0 c2 : Nat) (w : World) (hlen : m + 64 ≤ 140737488355328) (hq : Reads w 1 A0 k (cells8 q)) (hr : Reads w 1 A2 m (cells8 r)) (hn2 : A2 = none → m = 0 ∧ c2 = 0) :
  Calls Tryz.prog 83 #[.slice A0 k c0, .slice A2 m c2] w fun e w' => e = .returned (.agg (cells8 (macOf q r)).toArray) ∧ Below w.heap.size w w' := by
 obtain ⟨i0, hi, hz0, hz1, hz2⟩ := info_parts8 info8
 obtain ⟨w0, hw0⟩ : ∃ w0, Hid (w0 = w.alloc (.cells Z32 34)) := ⟨_, rfl⟩
 have hz0s : Hid (w0.heap.size = w.heap.size + 1) := by show _ = _; rw [hw0.out]; simp
 have hR : Hid (Blk w0 w.heap.size 34 Z32) := by show Blk _ _ _ _; rw [hw0.out]; exact heap_alloc_new w _
 have hw : Hid (Below w.heap.size w w0) := by show Below _ _ _; rw [hw0.out]; exact (Below.refl _ w).alloc (Nat.le_refl _) _
 have hkI : (k : Int) ≤ 64 := by omega
 have H0 : Hid (w0.ownsRow (w.heap.size + 1) 5 1 (.slice none 0 0) 0 (cells8 ((padOf 54 q).take 0))) := World.ownsRow_nil _ _ _ _
 have H1 : Hid (w0.ownsRow (w.heap.size + 1) 5 1 (.slice none 0 0) 0 (cells8 ((padOf 92 q).take 0))) := World.ownsRow_nil _ _ _ _
 replace hlen := Lib.hid hlen
 replace hq := Lib.hid hq
 replace hr := Lib.hid hr
 replace hm := Lib.hid hm
 replace hk := Lib.hid hk
 replace hn2 := Lib.hid hn2
 clear hk64
 go_enter Tryz.func83, Tryz.ntmps83
 go_wp2_with fail
 go_loopw [6, 7, 8] (fun a b v wr => ∃ (t : Nat) (A : Option Addr) (c : Nat) (B : Option Addr) (d : Nat), a = .slice A t c ∧ b = .slice B t d ∧ v = .int .i64 (t : Int) ∧ Hid (t ≤ 64) ∧ Hid (wr.ownsRow (w.heap.size + 1) 5 1 (.slice A t c) t (cells8 ((padOf 54 q).take t))) ∧ Hid (wr.ownsRow (w.heap.size + 1) 5 1 (.slice B t d) t (cells8 ((padOf 92 q).take t))) ∧ Hid (Two (.slice A t c) (.slice B t d)) ∧ Hid (Below (w.heap.size + 1) w0 wr)) (fun _ _ v _ => 64 - (intOf v).toNat)
 case atStart => exact ⟨0, none, 0, none, 0, rfl, rfl, rfl, (show 0 ≤ 64 by omega), by show World.ownsRow _ _ _ _ _ _ _; rw [hw0.out] at H0; exact H0.out, by show World.ownsRow _ _ _ _ _ _ _; rw [hw0.out] at H1; exact H1.out, fun k h _ => (by cases h), by show Below _ _ _; rw [hw0.out]; exact Below.refl _ _⟩
 case round =>
  clear H0 H1
  obtain ⟨t, A, c, B, d, rfl, rfl, rfl, ht, hO, hP, hap, hb⟩ := hrel
  have hs0 : Hid (w.heap.size + 1 ≤ wr.heap.size) := by have := hb.out.size; have := hz0s.out; show _ ≤ _; omega
  by_cases hlt : t < 64
  ·have hz : (t : Int) < 64 := by omega
   obtain ⟨x, hx⟩ : ∃ x, Hid (x = q.getD t 0) := ⟨_, rfl⟩
   have hp54 : Hid ((padOf 54 q).take (t + 1) = (padOf 54 q).take t ++ [x ^^^ 54]) := by show _ = _; rw [take_pad 54 q t hlt, hx.out]
   have hp92 : Hid ((padOf 92 q).take (t + 1) = (padOf 92 q).take t ++ [x ^^^ 92]) := by show _ = _; rw [take_pad 92 q t hlt, hx.out]
   by_cases htk : (t : Int) < (k : Int)
   ·obtain ⟨bq, oq, rfl, hbq, hcq⟩ := hq.out.2 (by omega)
    have hbk : bq < w0.heap.size := by rw [hz0s.out]; omega
    have a0 : wr.cell? ⟨bq, oq + t, none⟩ = some (.int .u8 (b8 x)) := by
     have h1 := hq.out.below hw.out
     have h2 := h1.below (hb.out.mono (by have := hz0s.out; omega))
     obtain ⟨b', o', e', _, hc'⟩ := h2.2 (by omega)
     cases e'
     refine hc' t _ ?_
     rw [cells8_at _ _ (by rw [hk.out]; omega), hx.out]
     unfold cell8
     simp [List.getD, List.getElem?_eq_getElem (show t < q.length by rw [hk.out]; omega)]
    have x54 := xor_b8 x 54 54 rfl
    have x92 := xor_b8 x 92 92 rfl
    clear hbq hcq hbk
    go_wp2_with (first
     | (at_builtin; (with_reducible change wpList _ _ _ (⟨some 33, _, _, _, _, _⟩ :: _) _ _); refine wpList_append_src _ rfl (.tmp 29) (.tmp 32) 31 rfl (w.heap.size + 1) 5 i0 (.int .u8 0) 1 1 Tryz.underlying31 hi hz0 hz1 hz2 rfl (by decide) (.slice A t c) t (cells8 ((padOf 54 q).take t)) rfl (hO.out.alloc _) (some ⟨wr.heap.size, 0, none⟩) 1 1 (cells8 [x ^^^ 54]) rfl (new8 wr (x ^^^ 54) (b8 (x ^^^ 54)) rfl) (fun e => by cases e) (cells8_one [x ^^^ 54]) (by unfold maxLen; omega) (by omega) (by have := hs0.out; simp; omega) ?_; intro v1 W1 hG1; obtain ⟨A1, c1, rfl, hO1, hP1, hap1, hb1⟩ := push2 hG1 hO.out hP.out hap.out hb.out (by have := hs0.out; omega); replace hO1 := Lib.hid hO1; replace hP1 := Lib.hid hP1; replace hap1 := Lib.hid hap1; have hs1 : Hid (w.heap.size + 1 ≤ W1.heap.size) := (by have := hb1.size; have := hz0s.out; show _ ≤ _; omega); replace hb1 := Lib.hid hb1; clear hG1 hO hP hap hb)
     | (at_builtin; (with_reducible change wpList _ _ _ (⟨some 38, _, _, _, _, _⟩ :: _) _ _); refine wpList_append_src _ rfl (.tmp 34) (.tmp 37) 31 rfl (w.heap.size + 1) 5 i0 (.int .u8 0) 1 1 Tryz.underlying31 hi hz0 hz1 hz2 rfl (by decide) (.slice B t d) t (cells8 ((padOf 92 q).take t)) rfl (hP1.out.alloc _) (some ⟨W1.heap.size, 0, none⟩) 1 1 (cells8 [x ^^^ 92]) rfl (new8 W1 (x ^^^ 92) (b8 (x ^^^ 92)) rfl) (fun e => by cases e) (cells8_one [x ^^^ 92]) (by unfold maxLen; omega) (by omega) (by have := hs1.out; simp; omega) ?_; intro v2 W2 hG2; obtain ⟨B2, d2, rfl, hP2, hO2, hap2, hb2⟩ := push2 hG2 hP1.out hO1.out hap1.out hb1.out (by have := hs1.out; omega); replace hO2 := Lib.hid hO2; replace hP2 := Lib.hid hP2; replace hap2 := Lib.hid hap2; replace hb2 := Lib.hid hb2; clear hG2 hO1 hP1 hap1 hb1))
    go_roundw
    case rel => exact ⟨t + 1, A1, c1, B2, d2, rfl, rfl, by go_num, (show t + 1 ≤ 64 by omega), (by show World.ownsRow _ _ _ _ _ _ _; rw [hp54.out]; exact hO2.out), (by show World.ownsRow _ _ _ _ _ _ _; rw [hp92.out]; exact hP2.out), hap2, hb2.out⟩
    case measure => simp [intOf]; omega
   ·obtain rfl : x = 0 := by
     rw [hx.out]
     simp [List.getD, List.getElem?_eq_none (show q.length ≤ t by rw [hk.out]; omega)]
    go_wp2_with (first
     | (at_builtin; (with_reducible change wpList _ _ _ (⟨some 33, _, _, _, _, _⟩ :: _) _ _); refine wpList_append_src _ rfl (.tmp 29) (.tmp 32) 31 rfl (w.heap.size + 1) 5 i0 (.int .u8 0) 1 1 Tryz.underlying31 hi hz0 hz1 hz2 rfl (by decide) (.slice A t c) t (cells8 ((padOf 54 q).take t)) rfl (hO.out.alloc _) (some ⟨wr.heap.size, 0, none⟩) 1 1 (cells8 [0 ^^^ 54]) rfl (new8 wr (0 ^^^ 54) (54) rfl) (fun e => by cases e) (cells8_one [0 ^^^ 54]) (by unfold maxLen; omega) (by omega) (by have := hs0.out; simp; omega) ?_; intro v1 W1 hG1; obtain ⟨A1, c1, rfl, hO1, hP1, hap1, hb1⟩ := push2 hG1 hO.out hP.out hap.out hb.out (by have := hs0.out; omega); replace hO1 := Lib.hid hO1; replace hP1 := Lib.hid hP1; replace hap1 := Lib.hid hap1; have hs1 : Hid (w.heap.size + 1 ≤ W1.heap.size) := (by have := hb1.size; have := hz0s.out; show _ ≤ _; omega); replace hb1 := Lib.hid hb1; clear hG1 hO hP hap hb)
     | (at_builtin; (with_reducible change wpList _ _ _ (⟨some 38, _, _, _, _, _⟩ :: _) _ _); refine wpList_append_src _ rfl (.tmp 34) (.tmp 37) 31 rfl (w.heap.size + 1) 5 i0 (.int .u8 0) 1 1 Tryz.underlying31 hi hz0 hz1 hz2 rfl (by decide) (.slice B t d) t (cells8 ((padOf 92 q).take t)) rfl (hP1.out.alloc _) (some ⟨W1.heap.size, 0, none⟩) 1 1 (cells8 [0 ^^^ 92]) rfl (new8 W1 (0 ^^^ 92) (92) rfl) (fun e => by cases e) (cells8_one [0 ^^^ 92]) (by unfold maxLen; omega) (by omega) (by have := hs1.out; simp; omega) ?_; intro v2 W2 hG2; obtain ⟨B2, d2, rfl, hP2, hO2, hap2, hb2⟩ := push2 hG2 hP1.out hO1.out hap1.out hb1.out (by have := hs1.out; omega); replace hO2 := Lib.hid hO2; replace hP2 := Lib.hid hP2; replace hap2 := Lib.hid hap2; replace hb2 := Lib.hid hb2; clear hG2 hO1 hP1 hap1 hb1))
    go_roundw
    case rel => exact ⟨t + 1, A1, c1, B2, d2, rfl, rfl, by go_num, (show t + 1 ≤ 64 by omega), (by show World.ownsRow _ _ _ _ _ _ _; rw [hp54.out]; exact hO2.out), (by show World.ownsRow _ _ _ _ _ _ _; rw [hp92.out]; exact hP2.out), hap2, hb2.out⟩
    case measure => simp [intOf]; omega
  ·obtain rfl : t = 64 := by have := ht.out; omega
   have hT5 : Hid ((padOf 54 q).take 64 = padOf 54 q) := List.take_of_length_le (by rw [padOf_len]; omega)
   have hT9 : Hid ((padOf 92 q).take 64 = padOf 92 q) := List.take_of_length_le (by rw [padOf_len]; omega)
   rw [hT5.out] at hO
   rw [hT9.out] at hP
   have hbw : Hid (Below w.heap.size w wr) := hw.out.trans (hb.out.mono (by omega))
   have hRr : Hid (Blk wr w.heap.size 34 Z32) := (hb.out.block _ (by omega)).trans hR.out
   clear hb hlt ht hR hw hT5 hT9
   go_wp2_with (at_builtin; (with_reducible change wpList _ _ _ (⟨some 41, _, _, _, _, _⟩ :: _) _ _); refine wpList_append_src _ rfl (.tmp 39) (.tmp 40) 31 rfl (w.heap.size + 1) 5 i0 (.int .u8 0) 1 1 Tryz.underlying31 hi hz0 hz1 hz2 rfl (by decide) (.slice A 64 c) 64 (cells8 (padOf 54 q)) rfl hO.out A2 m c2 (cells8 r) rfl (hr.out.below hbw.out) hn2.out (cells8_one r) (by have := hlen.out; unfold maxLen; omega) (by have := hlen.out; omega) hs0.out ?_; intro v1 W1 hG1; have hP1 : Hid (W1.ownsRow (w.heap.size + 1) 5 1 (.slice B 64 d) 64 (cells8 (padOf 92 q))) := two_kept hP.out hap.out hG1.grow; have hR1 : Hid (Blk W1 w.heap.size 34 Z32) := (hG1.grow.block _ hRr.out.lt (fun e => by have := own_block hO.out _ e.symm; omega)).trans hRr.out; have hbw1 : Hid (Below w.heap.size w W1) := hG1.below hbw.out hbw.out.size (fun k h => by have := own_block hO.out _ h; omega); have ho1 := hG1.own; obtain ⟨A1, c1, rfl, _, _, _, hRd1, _⟩ := Own.reads ho1; replace hRd1 : Hid (Reads W1 1 A1 (64 + m) (cells8 (padOf 54 q ++ r))) := (by show Reads _ _ _ _ _; simpa [cells8] using hRd1); clear hG1 ho1 hO hP hap hRr hbw)
   refine (refSum_any (padOf 54 q ++ r) (64 + m) (by rw [List.length_append, padOf_len, hm.out]) A1 c1 W1 (by have := hlen.out; omega) hRd1.out).mono ?_
   rintro e w8 ⟨rfl, hb8⟩
   have hP8 := Lib.hid (own_below hP1.out hb8)
   have hR8 : Hid (Blk w8 w.heap.size 34 Z32) := (hb8.block _ hR1.out.lt).trans hR1.out
   have hbw8 : Hid (Below w.heap.size w w8) := hbw1.out.trans (hb8.mono hbw1.out.size)
   have hs8 : Hid (w.heap.size + 1 ≤ w8.heap.size) := hR8.out.lt
   clear hb8 hP1 hR1 hbw1 hRd1
   obtain ⟨s, hs⟩ : ∃ s, Hid (s = sum (padOf 54 q ++ r)) := ⟨_, rfl⟩
   have hsl : Hid (s.length = 32) := by show _ = _; rw [hs.out]; exact sum_len _
   rw [← hs.out]
   have c32 : (cells8 s).length = 32 := by rw [cells8_len]; exact hsl.out
   obtain ⟨w9, hw9⟩ : ∃ w9, Hid (w9 = (w8.alloc (.cells Z32 34)).setRow w8.heap.size (cells8 s).toArray) := ⟨_, rfl⟩
   have hst : (storeCells ⟨w8.heap.size, 0, none⟩ (cells8 s)).run Tryz.prog (w8.alloc (.cells Z32 34)) = .ok () w9 := by rw [hw9.out]; exact storeCells_row (heap_alloc_new w8 _) (by simp [Z32]; omega) (cells8_one s)
   unfold Z32 at hst
   have hb9 : Below w8.heap.size w8 w9 := by rw [hw9.out]; exact below_setRow ((Below.refl _ _).alloc (Nat.le_refl _) _) (Nat.le_refl _) _
   have hS9 : Hid (w9.heap[w8.heap.size]? = some (.cells (cells8 s).toArray 34 (0, 0))) := by show _ = _; rw [hw9.out]; exact setRow_heap _ _ _ _ _ _ (heap_alloc_new w8 _)
   have hP9 := Lib.hid (own_below hP8.out hb9)
   have hR9 : Hid (Blk w9 w.heap.size 34 Z32) := (hb9.block _ (by have := hs8.out; omega)).trans hR8.out
   have hbw9 : Hid (Below w.heap.size w w9) := hbw8.out.trans (hb9.mono hbw8.out.size)
   have hS : Hid (Reads w9 1 (some ⟨w8.heap.size, 0, none⟩) 32 (cells8 s)) := by have h1 := rowReads hS9.out; rw [hsl.out] at h1; exact h1
   clear hb9 hS9 hw9 hP8 hR8 hbw8
   go_wp2_with (at_builtin; (with_reducible change wpList _ _ _ (⟨some 45, _, _, _, _, _⟩ :: _) _ _); refine wpList_append_src _ rfl (.tmp 43) (.tmp 44) 31 rfl (w.heap.size + 1) 5 i0 (.int .u8 0) 1 1 Tryz.underlying31 hi hz0 hz1 hz2 rfl (by decide) (.slice B 64 d) 64 (cells8 (padOf 92 q)) rfl hP9.out (some ⟨w8.heap.size, 0, none⟩) 32 32 (cells8 s) rfl hS.out (fun e => by cases e) (cells8_one s) (by unfold maxLen; omega) (by omega) hR9.out.lt ?_; intro v2 W2 hG2; have hR2 : Hid (Blk W2 w.heap.size 34 Z32) := (hG2.grow.block _ hR9.out.lt (fun e => by have := own_block hP9.out _ e.symm; omega)).trans hR9.out; have hbw2 : Hid (Below w.heap.size w W2) := hG2.below hbw9.out hbw9.out.size (fun k h => by have := own_block hP9.out _ h; omega); have ho2 := hG2.own; obtain ⟨B1, d1, rfl, _, _, _, hRd2, _⟩ := Own.reads ho2; replace hRd2 : Hid (Reads W2 1 B1 (64 + 32) (cells8 (padOf 92 q ++ s))) := (by show Reads _ _ _ _ _; simpa [cells8] using hRd2); clear hG2 ho2 hP9 hR9 hbw9 hS)
   clear hst
   refine (refSum_any (padOf 92 q ++ s) (64 + 32) (by rw [List.length_append, padOf_len, hsl.out]) B1 d1 W2 (by omega) hRd2.out).mono ?_
   rintro e w10 ⟨rfl, hb10⟩
   have hR10 : Hid (Blk w10 w.heap.size 34 Z32) := (hb10.block _ hR2.out.lt).trans hR2.out
   have hbw10 : Hid (Below w.heap.size w w10) := hbw2.out.trans (hb10.mono hbw2.out.size)
   clear hb10 hR2 hbw2 hRd2
   have hmac : Hid (macOf q r = sum (padOf 92 q ++ s)) := by show _ = _; rw [hs.out]; rfl
   rw [← hmac.out]
   have z4 := Lib.hid (dig_size (macOf q r) (macOf_len q r))
   have d32 : (cells8 (macOf q r)).length = 32 := by rw [cells8_len]; exact macOf_len q r
   have hst2 : (storeCells ⟨w.heap.size, 0, none⟩ (cells8 (macOf q r))).run Tryz.prog w10 = .ok () (w10.setRow w.heap.size (cells8 (macOf q r)).toArray) := storeCells_row hR10.out (by simp [Z32]; omega) (cells8_one _)
   go_wp2_with fail
   refine bodyPost_ret (results_cell_row rfl _ _ w.heap.size 34 (cells8 (macOf q r)).toArray (0, 0) _ rfl (setRow_heap _ _ _ _ _ _ hR10.out) Tryz.underlying34 rfl z4.out) rfl ?_
   exact ⟨rfl, below_setRow hbw10.out (Nat.le_refl _) _⟩
end Go.Proofs.YtfbhjoejffagjaaGreatDoor.RefMac
