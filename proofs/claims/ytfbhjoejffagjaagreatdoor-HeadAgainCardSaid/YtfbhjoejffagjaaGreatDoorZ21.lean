/-
  Texts of the claim, put into one file: RefCut, RefOf, RefTop, HeadID.
-/
import Derived.Test.YtfbhjoejffagjaaGreatDoorZ20
import Derived.Laws.AppendOwnNone

namespace Go.Proofs.YtfbhjoejffagjaaGreatDoor.RefCut
open Go Go.RowKit Go.Proofs.YtfbhjoejffagjaaGreatDoor Mem Sha ShaWalk Bytes HashMem Hash HashSum DigestMem Digest DigestOf

theorem src_all {w : World} {ad : Addr} {q : Text} (h : Reads w 1 (some ad) q.length (cells8 q)) : ∀ j u, (cells8 q)[j]? = some u → w.cell? (ad.add j) = some u := by
 intro j u hu
 have hj : j < q.length := by
  have := (List.getElem?_eq_some_iff.1 hu).1
  rwa [cells8_len] at this
 obtain ⟨b, o, e, _, hc⟩ := h.2 (by omega)
 obtain rfl := Option.some.inj e
 rw [add_at]
 exact hc j u hu
def clrTab (x : Text) (m i j : Nat) : Value := if m ≤ j ∧ j < i then .int .u8 0 else cell8 (x.getD j 0)
theorem clrTab_succ (x : Text) (m i j : Nat) (h : m ≤ i) : clrTab x m (i + 1) j = if j = i then .int .u8 0 else clrTab x m i j := by
 unfold clrTab
 by_cases e : j = i
 ·subst e
  rw [if_pos rfl, if_pos (by omega)]
 ·rw [if_neg e]
  by_cases h1 : m ≤ j ∧ j < i
  ·rw [if_pos h1, if_pos (by omega)]
  ·rw [if_neg h1, if_neg (by omega)]
theorem clrTab_all (x : Text) (hx : x.length = 32) (m i : Nat) (hi : 32 ≤ i) (cs : Array Value) (hs : cs.size = 32) (hc : ∀ j, j < 32 → cs[j]? = some (clrTab x m i j)) : cs = (cells8 (cutTo x (if 32 < m then 32 else m))).toArray := by
 have hl : ∀ k, k ≤ 32 → (cutTo x k).length = 32 := fun k hk => cutTo_len x k hx hk
 have hk : (if 32 < m then 32 else m) ≤ 32 := by split <;> omega
 apply Array.ext_getElem?
 intro j
 by_cases hj : j < 32
 ·rw [hc j hj, List.getElem?_toArray, cells8_at _ _ (by rw [hl _ hk]; exact hj)]
  unfold clrTab cutTo
  simp only [List.getD]
  rw [splice_get _ _ _ (by simp; omega)]
  by_cases h1 : m ≤ j
  ·rw [if_pos ⟨h1, by omega⟩, if_neg (by split <;> omega), if_pos (by simp; omega), List.getElem?_replicate, if_pos (by split <;> omega)]
   rfl
  ·rw [if_neg (by omega), if_pos (by split <;> omega)]
 ·rw [Array.getElem?_eq_none (by omega), List.getElem?_toArray, List.getElem?_eq_none (by rw [cells8_len, hl _ hk]; omega)]
theorem cells8_tab (x : Text) (hx : x.length = 32) (m j : Nat) (hj : j < 32) : (cells8 x).toArray[j]? = some (clrTab x m m j) := by
 rw [List.getElem?_toArray, cells8_at x j (by omega)]
 unfold clrTab
 rw [if_neg (by omega)]

set_option maxRecDepth 100000 in
set_option maxHeartbeats 600000 in
theorem refCut_any (x : Text) (hx : x.length = 32) (s : Int) (hs63 : s < 9223372036854775808) (w : World) :
  Calls Tryz.prog 98 #[.agg (cells8 x).toArray, .int .i64 s] w fun e w' => e = .returned (.agg (cells8 (cutTo x (clampN s))).toArray) ∧ Below w.heap.size w w' := by
 obtain ⟨m, hm⟩ : ∃ m, Hid (m = if s < 1 then 1 else s.toNat) := ⟨_, rfl⟩
 have hcl : Hid (clampN s = if 32 < m then 32 else m) := by
  show _ = _
  unfold clampN
  rw [hm.out]
  by_cases c1 : s < 1
  ·rw [if_pos c1, if_pos c1]
   rfl
  ·rw [if_neg c1, if_neg c1]
   by_cases c2 : 32 < s
   ·rw [if_pos c2, if_pos (by omega)]
   ·rw [if_neg c2, if_neg (by omega)]
 rw [hcl.out]
 obtain ⟨y, hy⟩ : ∃ y, Hid (y = cutTo x (if 32 < m then 32 else m)) := ⟨_, rfl⟩
 have hyl : y.length = 32 := by rw [hy.out]; exact cutTo_len _ _ hx (by split <;> omega)
 rw [← hy.out]
 have hz := Lib.hid (dig_size y hyl)
 have hz32 : Hid ((Z32 : Array Value).size = (cells8 y).toArray.size) := by show _ = _; simp [cells8_len, hyl, Z32]
 have ho := Lib.hid (dig_one y)
 have hxh := Lib.hid hx
 have hm1 : Hid (1 ≤ m ∧ m < 9223372036854775808) := by show _ ∧ _; rw [hm.out]; split <;> omega
 clear hyl hx hcl
 go_enter Tryz.func98, Tryz.ntmps98
 go_upto_if 7 with fail
 go_cut [1] from 5 (fun v wc => v = .int .i64 (m : Int) ∧ Hid (Tab wc w.heap.size 34 32 (clrTab x m m)) ∧ Hid (Blk wc (w.heap.size + 1) 34 Z32) ∧ Hid (Below w.heap.size w wc) ∧ Hid (w.heap.size + 1 < wc.heap.size))
 case first =>
  have hT : Hid (Tab ((w.alloc (.cells (cells8 x).toArray 34)).alloc (.cells Z32 34)) w.heap.size 34 32 (clrTab x m m)) := ⟨_, heap_alloc2_old w _ _, by simp [cells8_len, hxh.out], fun j hj => cells8_tab x hxh.out m j hj⟩
  have hR : Hid (Blk ((w.alloc (.cells (cells8 x).toArray 34)).alloc (.cells Z32 34)) (w.heap.size + 1) 34 Z32) := heap_alloc2_new w _ _
  have hb : Hid (Below w.heap.size w ((w.alloc (.cells (cells8 x).toArray 34)).alloc (.cells Z32 34))) := ((Below.refl _ w).alloc (Nat.le_refl _) _).alloc (by simp) _
  by_cases c1 : s < 1
  ·have em : m = 1 := by have := hm.out; rw [if_pos c1] at this; exact this
   go_wp2_with fail
   go_meet
   case rel => exact ⟨by rw [em]; rfl, hT.out, hR.out, hb.out, by show _ < _; simp⟩
  ·have em : s = (m : Int) := by have := hm.out; rw [if_neg c1] at this; omega
   go_wp2_with fail
   go_meet
   case rel => exact ⟨rfl, hT.out, hR.out, hb.out, by show _ < _; simp⟩
 case rest =>
  obtain ⟨rfl, hT, hR, hb, hsz⟩ := hcut
  obtain ⟨w2, rfl⟩ : ∃ w2 : World, w2 = wc := ⟨_, rfl⟩
  go_wp2_with fail
  go_loopw [5] (fun v wr => ∃ i : Nat, v = .int .i64 (i : Int) ∧ Hid (m ≤ i ∧ (i ≤ 32 ∨ i = m)) ∧ Hid (Tab wr w.heap.size 34 32 (clrTab x m i)) ∧ Hid (Kept (· = w.heap.size) w2 wr)) (fun v _ => 32 - (intOf v).toNat)
  case atStart => exact ⟨m, rfl, ⟨Nat.le_refl _, .inr rfl⟩, hT.out, Kept.refl _ _⟩
  case round =>
   clear hT
   obtain ⟨i, rfl, hi, ht, hk⟩ := hrel
   by_cases hlt : i < 32
   ·have hzi : (i : Int) < 32 := by omega
    have s0 : wr.cell? ⟨w.heap.size, i, none⟩ = some (clrTab x m i i) := ht.out.cell (by omega)
    have s1 : wr.frozen? ⟨w.heap.size, i, none⟩ = false := ht.out.frozen _
    go_wp2_with fail
    go_roundw
    case rel =>
     exact ⟨i + 1, by go_num, by have := hi.out; show _ ∧ _; omega, ht.out.set_ i _ (fun j _ => clrTab_succ x m i j hi.out.1), hk.out.setCell (.inl rfl) _⟩
    case measure => simp [intOf]; omega
   ·have hzi : (32 : Int) ≤ (i : Int) := by omega
    obtain ⟨w3, rfl⟩ : ∃ w3 : World, w3 = wr := ⟨_, rfl⟩
    obtain ⟨c8, hc8, hs8, hv8⟩ := ht.out
    have hq : c8 = (cells8 y).toArray := by rw [hy.out]; exact clrTab_all x hxh.out m i (by omega) c8 hs8 hv8
    rw [hq] at hc8
    have hc8h := Lib.hid hc8
    have hr3 : Hid (Blk w3 (w.heap.size + 1) 34 Z32) := hR.out.kept hk.out (by omega)
    clear hc8 hq hv8 hs8
    go_wp2_with (first | ((with_reducible change wpList _ _ _ (⟨some 15, _, _, _, _, _⟩ :: _) _ _); refine wpList_load_row (o := ⟨some 15, _, _, _, _, _⟩) rfl 34 (.tmp 2) rfl w.heap.size rfl 34 (cells8 y).toArray (0, 0) _ hc8h.out Tryz.underlying34 rfl hz.out ?_) | ((with_reducible change wpList _ _ _ ({ dst := none, op := Op.store 34 _ _, type := _, pos := _, after := _, guard := _ } :: _) _ _); refine wpList_store_row (o := ⟨none, _, _, _, _, _⟩) rfl 34 (.tmp 4) (.tmp 15) rfl (w.heap.size + 1) (cells8 y).toArray rfl rfl 34 Z32 hr3.out hz.out hz32.out ho.out ?_))
    refine bodyPost_ret (results_cell_row rfl _ _ (w.heap.size + 1) 34 (cells8 y).toArray (0, 0) _ rfl (setRow_heap _ _ _ _ _ _ hr3.out) Tryz.underlying34 rfl hz.out) rfl ?_
    exact ⟨rfl, below_setRow (hb.out.trans (Kept.below_of hk.out (Nat.le_refl _) hb.out.size)) (by omega) _⟩

theorem owns_new (w : World) (e : TypeId) (v : Value) : (w.alloc (.cells #[v] e)).ownsRow w.heap.size e 1 (.slice (some ⟨w.heap.size, 0, none⟩) 1 1) 1 [v] :=
 ⟨rfl, .inr ⟨w.heap.size, 1, #[v], rfl, Nat.le_refl _, heap_alloc_new w _, Nat.le_refl _, by decide, rfl, rfl⟩⟩

set_option maxRecDepth 100000 in
set_option maxHeartbeats 600000 in
theorem refText_any (ps : List Text) (n : Nat) (hn : ps.length = n) (A : Option Addr) (c : Nat) (kind : Int) (w : World) (hlen : ps.flatten.length < 140737488355328) (hn2 : n < 72057594037927936) (hp : Pieces w A ps) :
  Calls Tryz.prog 100 #[.int .i64 kind, .slice A n c] w fun e w' =>
   ∃ v, e = .returned v ∧ w'.ownsRow w.heap.size 5 1 v (1 + ps.flatten.length) (cells8 (kb kind :: ps.flatten)) ∧ Below w.heap.size w w' := by
 obtain ⟨i0, hi, hz0, hz1, hz2⟩ := info_parts8 info8
 have k1 := kb_b8 kind
 have k2 := kb_wrap kind
 generalize kb kind = kk at *
 replace hn := Lib.hid hn
 replace hp := Lib.hid hp
 replace hlen := Lib.hid hlen
 replace hn2 := Lib.hid hn2
 obtain ⟨B, hB⟩ : ∃ B, Hid (B = w.heap.size) := ⟨_, rfl⟩
 rw [← hB.out]
 go_enter Tryz.func100, Tryz.ntmps100
 go_wp2_with fail
 go_loopw [6, 5] (fun v acc wr => ∃ i : Nat, v = .int .i64 (i : Int) ∧ i ≤ n ∧ wr.ownsRow B 5 1 acc (1 + (ps.take i).flatten.length) (cells8 (kk :: (ps.take i).flatten)) ∧ Hid (Below B w wr)) (fun v _ _ => n - (intOf v).toNat)
 case atStart => exact ⟨0, rfl, by omega, by rw [hB.out]; exact owns_new w _ _, by show Below _ _ _; rw [hB.out]; exact (Below.refl _ w).alloc (Nat.le_refl _) _⟩
 case round =>
  clear k1 k2
  obtain ⟨i, rfl, hin, hown, hb⟩ := hrel
  by_cases hlt : i < n
  ·have hz : (i : Int) < (n : Int) := by omega
   obtain ⟨q, hq⟩ : ∃ q, Hid (ps[i]? = some q) := ⟨ps[i]'(by rw [hn.out]; exact hlt), List.getElem?_eq_getElem _⟩
   obtain ⟨b, o, hA, hbl, hcs⟩ := hp.out (by rw [hn.out]; omega)
   obtain ⟨Ai, ci, c0, hci, hri, hnil⟩ := hcs i q hq.out
   replace hri : Hid (Reads wr 1 Ai q.length (cells8 q)) := hri.below (by rw [← hB.out]; exact hb.out)
   replace c0 := (hb.out.cell (p := ⟨b, o + i, none⟩) (by rw [hB.out]; exact hbl)).trans c0
   have hsum := pieces_sum ps i q hq.out
   replace hsum := Lib.hid hsum
   subst hA
   clear hbl hcs
   have hil : (i : Int) < 9223372036854775807 := by have := hn2.out; omega
   obtain ⟨w5, rfl⟩ : ∃ w5 : World, w5 = wr := ⟨_, rfl⟩
   have hsz : Hid (B ≤ w5.heap.size) := by have := hb.out.size; rw [← hB.out] at this; exact this
   have Hown := Lib.hid hown
   clear hown
   cases Ai with
   | none =>
    obtain ⟨hq0, hc0⟩ := hnil rfl
    have hqe : q = [] := List.eq_nil_of_length_eq_zero hq0
    subst hqe
    subst hc0
    go_wp2_with (at_builtin; refine wpList_append_own_none rfl (.tmp 16) (.tmp 20) 31 rfl B 5 i0 1 Tryz.underlying31 hi _ _ _ rfl Hown.out rfl ?_)
    go_roundw
    case rel =>
     refine ⟨i + 1, by go_num, by omega, ?_, hb.out⟩
     have e := hsum.out.1
     rw [List.append_nil] at e
     rw [e]
     exact Hown.out
    case measure => simp [intOf]; omega
   | some ad =>
    have hn1 : Hid (∀ j u, (cells8 q)[j]? = some u → w5.cell? (ad.add j) = some u) := src_all hri.out
    have hb1 : Hid (1 + (ps.take i).flatten.length + q.length ≤ 140737488355328) := by have := hsum.out.2; have := hlen.out; show _ ≤ _; omega
    go_wp2_with (at_builtin; refine wpList_append_own _ rfl (.tmp 16) (.tmp 20) 31 rfl B 5 i0 (.int .u8 0) 1 1 Tryz.underlying31 hi hz0 hz1 hz2 rfl (by decide) _ _ _ rfl Hown.out ad q.length ci (cells8 q) rfl (by rw [cells8_len, Nat.mul_one]) hn1.out (cells8_one q) (by have := hb1.out; unfold maxLen; omega) (by have := hb1.out; omega) hsz.out ?_; intro v' w6 hown' hgrow _; replace hown' := Lib.hid hown'; replace hgrow := Lib.hid hgrow)
    go_roundw
    case rel =>
     refine ⟨i + 1, by go_num, by omega, ?_, ?_⟩
     ·rw [hsum.out.1, List.length_append]
      have e1 : cells8 (kk :: ((ps.take i).flatten ++ q)) = cells8 (kk :: (ps.take i).flatten) ++ cells8 q := by simp [cells8]
      rw [e1, ← Nat.add_assoc]
      exact hown'.out
     ·exact hb.out.grown hgrow.out hsz.out (fun k hk => (Hown.out.lt k hk).1)
    case measure => simp [intOf]; omega
  ·have hin2 : i = n := by omega
   subst hin2
   have ha : (ps.take i).flatten = ps.flatten := by rw [List.take_of_length_le (by rw [hn.out]; exact Nat.le_refl _)]
   rw [ha] at hown
   have Hown := Lib.hid hown
   clear hown ha
   obtain ⟨w5, rfl⟩ : ∃ w5 : World, w5 = wr := ⟨_, rfl⟩
   go_wp2_with fail
   go_ret
   exact ⟨_, rfl, Hown.out, hb.out⟩
end Go.Proofs.YtfbhjoejffagjaaGreatDoor.RefCut

namespace Go.Proofs.YtfbhjoejffagjaaGreatDoor.RefOf
open Go Go.RowKit Go.Proofs.YtfbhjoejffagjaaGreatDoor Mem Sha ShaWalk Bytes HashMem Hash HashSum DigestMem Digest DigestOf RefSum RefCut

set_option maxRecDepth 100000 in
set_option maxHeartbeats 600000 in
theorem refOf_any (ps : List Text) (n : Nat) (hn : ps.length = n) (A : Option Addr) (c : Nat) (size kind : Int) (hs63 : size < 9223372036854775808) (w : World) (hlen : ps.flatten.length < 140737488355328) (hn2 : n < 72057594037927936) (hp : Pieces w A ps) :
  Calls Tryz.prog 58 #[.int .i64 size, .int .i64 kind, .slice A n c] w fun e w' =>
   e = .returned (.agg (cells8 (cutTo (sum (kb kind :: ps.flatten)) (clampN size))).toArray) ∧ Below w.heap.size w w' := by
 obtain ⟨x, hx⟩ : ∃ x, Hid (x = cutTo (sum (kb kind :: ps.flatten)) (clampN size)) := ⟨_, rfl⟩
 have hxl : x.length = 32 := by rw [hx.out]; exact cutTo_len _ _ (sum_len _) (clampN_ok size).2
 rw [← hx.out]
 have hz := Lib.hid (dig_size x hxl)
 have hz32 : Hid ((Z32 : Array Value).size = (cells8 x).toArray.size) := by show _ = _; simp [cells8_len, hxl, Z32]
 have ho := Lib.hid (dig_one x)
 clear hxl
 obtain ⟨txt, htx⟩ : ∃ txt, Hid (txt = kb kind :: ps.flatten) := ⟨_, rfl⟩
 obtain ⟨tl, htl⟩ : ∃ tl, Hid (tl = 1 + ps.flatten.length) := ⟨_, rfl⟩
 have htt : Hid (txt.length = tl ∧ tl < 144115188075855872) := by show _ ∧ _; rw [htx.out, htl.out, List.length_cons]; omega
 rw [← htx.out] at hx
 replace hn := Lib.hid hn
 replace hp := Lib.hid hp
 replace hlen := Lib.hid hlen
 replace hn2 := Lib.hid hn2
 replace hs63 := Lib.hid hs63
 go_enter Tryz.func58, Tryz.ntmps58
 go_wp2_with (first
  | (go_at_call 100; refine (refText_any ps n hn.out A c kind (w.alloc (.cells Z32 34)) hlen.out hn2.out (hp.out.below (Below.heap_below w _))).mono ?_; rintro e w1 ⟨v, rfl, hown, hb1⟩; rw [← htx.out, ← htl.out] at hown; obtain ⟨A1, c1, rfl, hnc, hcm, hr, hbase⟩ := Reads.of_own hown; replace hr := Lib.hid hr; replace hnc := Lib.hid hnc; replace hb1 : Hid (Below (w.heap.size + 1) (w.alloc (.cells Z32 34)) w1) := (show Below (w.heap.size + 1) (w.alloc (.cells Z32 34)) w1 by simpa using hb1); clear hown hcm hbase)
  | (go_at_call 99; refine (refSum_any txt tl htt.out.1 A1 c1 w1 htt.out.2 hr.out).mono ?_; rintro e w2 ⟨rfl, hb2⟩; replace hb2 := Lib.hid hb2)
  | (go_at_call 98; refine (refCut_any (sum txt) (sum_len _) size hs63.out w2).mono ?_; rw [← hx.out]; rintro e w3 ⟨rfl, hb3⟩; replace hb3 := Lib.hid hb3; have hR3 : Hid (Blk w3 w.heap.size 34 Z32) := (hb3.out.block w.heap.size (by have := hb2.out.size; have := hb1.out.size; simp at this; omega)).trans ((hb2.out.block w.heap.size (by have := hb1.out.size; simp at this; omega)).trans ((hb1.out.block w.heap.size (by omega)).trans (heap_alloc_new w _))); have hbb : Hid (Below w.heap.size w w3) := (Below.heap_below w (.cells Z32 34)).trans ((hb1.out.mono (by omega)).trans ((hb2.out.mono (by have := hb1.out.size; simp at this; omega)).trans (hb3.out.mono (by have := hb2.out.size; have := hb1.out.size; simp at this; omega)))))
  | ((with_reducible change wpList _ _ _ ({ dst := none, op := Op.store 34 _ _, type := _, pos := _, after := _, guard := _ } :: _) _ _); refine wpList_store_row (o := ⟨none, _, _, _, _, _⟩) rfl 34 (.tmp 6) (.tmp 12) rfl w.heap.size (cells8 x).toArray rfl rfl 34 Z32 hR3.out hz.out hz32.out ho.out ?_))
 refine bodyPost_ret (results_cell_row rfl _ _ w.heap.size 34 (cells8 x).toArray (0, 0) _ rfl (setRow_heap _ _ _ _ _ _ hR3.out) Tryz.underlying34 rfl hz.out) rfl ?_
 exact ⟨rfl, below_setRow hbb.out (Nat.le_refl _) _⟩
end Go.Proofs.YtfbhjoejffagjaaGreatDoor.RefOf

namespace Go.Proofs.YtfbhjoejffagjaaGreatDoor.RefTop
open Go Go.RowKit Go.Proofs.YtfbhjoejffagjaaGreatDoor Mem Sha ShaWalk Bytes HashMem Hash HashSum DigestMem Digest DigestOf RefSum RefCut RefOf DigestTop

end Go.Proofs.YtfbhjoejffagjaaGreatDoor.RefTop

namespace Go.Proofs.YtfbhjoejffagjaaGreatDoor.HeadID
open Go Go.RowKit Go.Proofs.YtfbhjoejffagjaaGreatDoor Mem Sha ShaWalk Bytes HashMem Hash HashSum DigestMem Digest DigestOf RefSum RefCut RefOf DigestTop

def idOf (q : Text) : Text := cutTo (sum (kb 9 :: q.take 64)) 32
theorem idOf_len (q : Text) : (idOf q).length = 32 := cutTo_len _ _ (sum_len _) (Nat.le_refl _)

set_option maxRecDepth 100000 in
set_option maxHeartbeats 600000 in
theorem id_any (q : Text) (k : Nat) (hk : q.length = k) (A : Option Addr) (c : Nat) (w : World) (hB : Base w) (hr : Reads w 1 A k (cells8 q)) (hc : k ≤ c) (hk47 : k < 140737488355328) (hnil : A = none → k = 0 ∧ c = 0) :
  Calls Tryz.prog 22 #[.slice A k c] w fun e w' => e = .returned (.agg (cells8 (idOf q)).toArray) ∧ Below w.heap.size w w' := by
 subst hk
 obtain ⟨m, hm⟩ : ∃ m, Hid (m = min q.length 64) := ⟨_, rfl⟩
 have hmq : m ≤ q.length := by have := hm.out; omega
 have hid : idOf q = cutTo (sum (kb 9 :: [q.take m].flatten)) (clampN 32) := by
  unfold idOf
  have e : q.take 64 = q.take m := by rw [hm.out, ← List.take_take]; exact (List.take_of_length_le (by simp; omega)).symm
  rw [e]
  simp
  rfl
 rw [hid]
 obtain ⟨x, hx⟩ : ∃ x, Hid (x = cutTo (sum (kb 9 :: [q.take m].flatten)) (clampN 32)) := ⟨_, rfl⟩
 have hxl : x.length = 32 := by rw [hx.out]; exact cutTo_len _ _ (sum_len _) (clampN_ok 32).2
 rw [← hx.out]
 have hz := Lib.hid (dig_size x hxl)
 have hz32 : Hid ((Z32 : Array Value).size = (cells8 x).toArray.size) := by show _ = _; simp [cells8_len, hxl, Z32]
 have ho := Lib.hid (dig_one x)
 replace hB := Lib.hid hB
 have hlen : Hid ([q.take m].flatten.length = m) := by show _ = _; simp; omega
 have hm64 : Hid (m ≤ 64) := by have := hm.out; show m ≤ 64; omega
 have hR : Hid (Blk ((w.alloc (.cells Z32 34)).alloc (.cells #[.slice A m c] 31)) w.heap.size 34 Z32) := heap_alloc2_old w _ _
 have hbw : Hid (Below w.heap.size w ((w.alloc (.cells Z32 34)).alloc (.cells #[.slice A m c] 31))) := ((Below.refl _ w).alloc (Nat.le_refl _) _).alloc (by simp) _
 have htl : (q.take m).length = m := by rw [List.length_take]; omega
 have hpc : Hid (Pieces ((w.alloc (.cells Z32 34)).alloc (.cells #[.slice A m c] 31)) (some ⟨w.heap.size + 1, 0, none⟩) [q.take m]) := fun _ => ⟨w.heap.size + 1, 0, rfl, by simp, fun i y hy => by
  match i with
  | 0 =>
   obtain rfl := Option.some.inj hy
   exact ⟨A, c, by rw [cell_of_row _ _ _ _ _ _ (heap_alloc2_new w _ _), htl]; rfl, by rw [htl]; omega, by rw [htl]; exact (Reads.front hr m hmq).below hbw.out, fun e => ⟨by have := hnil e; omega, (hnil e).2⟩⟩
  | i + 1 => simp at hy⟩
 have hr0 := Lib.hid hr
 have hmc : Hid (m ≤ c) := by show m ≤ c; omega
 have hcl := Lib.hid hc
 have hkl : Hid (q.length < 140737488355328) := hk47
 obtain ⟨k, hk⟩ : ∃ k, Hid (k = q.length) := ⟨_, rfl⟩
 rw [← hk.out] at hm ⊢
 clear hid hxl htl hr hc hk47 hnil hmq
 by_cases h64 : (64 : Int) < (k : Int)
 ·have em : m = 64 := by have := hm.out; omega
  subst em
  have X : ∀ w', (Instr.sliceAt 31 (.slice A k c) none (some (.int .i64 64)) none).run Tryz.prog w' = .ok (.slice A 64 c) w' := run_headOf (m := 64) Tryz.underlying31 (fun _ => rfl) hmc.out _ rfl
  go_enter Tryz.func22, Tryz.ntmps22
  go_wp2_with (first
   | (go_at_call 54; refine (of_any _ 1 rfl (some ⟨w.heap.size + 1, 0, none⟩) 1 32 9 _ (hB.out.below hbw.out hB.out.1) (by have := hlen.out; omega) (by omega) hpc.out).mono ?_; rw [← hx.out]; rintro e w3 ⟨rfl, hb3⟩; replace hb3 := Lib.hid hb3; have hR3 : Hid (Blk w3 w.heap.size 34 Z32) := (hb3.out.block w.heap.size hR.out.lt).trans hR.out; have hbb : Hid (Below w.heap.size w w3) := hbw.out.trans (hb3.out.mono (by simp; omega)))
   | ((with_reducible change wpList _ _ _ ({ dst := none, op := Op.store 34 _ _, type := _, pos := _, after := _, guard := _ } :: _) _ _); refine wpList_store_row (o := ⟨none, _, _, _, _, _⟩) rfl 34 (.tmp 2) (.tmp 9) rfl w.heap.size (cells8 x).toArray rfl rfl 34 Z32 hR3.out hz.out hz32.out ho.out ?_))
  refine bodyPost_ret (results_cell_row rfl _ _ w.heap.size 34 (cells8 x).toArray (0, 0) _ rfl (setRow_heap _ _ _ _ _ _ hR3.out) Tryz.underlying34 rfl hz.out) rfl ?_
  exact ⟨rfl, below_setRow hbb.out (Nat.le_refl _) _⟩
 ·have em : k = m := by have := hm.out; omega
  have X : ∀ w', (Instr.sliceAt 31 (.slice A k c) none (some (.int .i64 (k : Int))) none).run Tryz.prog w' = .ok (.slice A k c) w' := run_headOf (m := k) Tryz.underlying31 (fun _ => rfl) (by rw [em]; exact hmc.out) _ rfl
  subst em
  have h64' : (k : Int) ≤ 64 := by omega
  go_enter Tryz.func22, Tryz.ntmps22
  go_wp2_with (first
   | (go_at_call 54; refine (of_any _ 1 rfl (some ⟨w.heap.size + 1, 0, none⟩) 1 32 9 _ (hB.out.below hbw.out hB.out.1) (by have := hlen.out; omega) (by omega) hpc.out).mono ?_; rw [← hx.out]; rintro e w3 ⟨rfl, hb3⟩; replace hb3 := Lib.hid hb3; have hR3 : Hid (Blk w3 w.heap.size 34 Z32) := (hb3.out.block w.heap.size hR.out.lt).trans hR.out; have hbb : Hid (Below w.heap.size w w3) := hbw.out.trans (hb3.out.mono (by simp; omega)))
   | ((with_reducible change wpList _ _ _ ({ dst := none, op := Op.store 34 _ _, type := _, pos := _, after := _, guard := _ } :: _) _ _); refine wpList_store_row (o := ⟨none, _, _, _, _, _⟩) rfl 34 (.tmp 2) (.tmp 9) rfl w.heap.size (cells8 x).toArray rfl rfl 34 Z32 hR3.out hz.out hz32.out ho.out ?_))
  refine bodyPost_ret (results_cell_row rfl _ _ w.heap.size 34 (cells8 x).toArray (0, 0) _ rfl (setRow_heap _ _ _ _ _ _ hR3.out) Tryz.underlying34 rfl hz.out) rfl ?_
  exact ⟨rfl, below_setRow hbb.out (Nat.le_refl _) _⟩

set_option maxRecDepth 100000 in
set_option maxHeartbeats 600000 in
theorem refid_any (q : Text) (k : Nat) (hk : q.length = k) (A : Option Addr) (c : Nat) (w : World) (hr : Reads w 1 A k (cells8 q)) (hc : k ≤ c) (hk47 : k < 140737488355328) (hnil : A = none → k = 0 ∧ c = 0) :
  Calls Tryz.prog 26 #[.slice A k c] w fun e w' => e = .returned (.agg (cells8 (idOf q)).toArray) ∧ Below w.heap.size w w' := by
 subst hk
 obtain ⟨m, hm⟩ : ∃ m, Hid (m = min q.length 64) := ⟨_, rfl⟩
 have hmq : m ≤ q.length := by have := hm.out; omega
 have hid : idOf q = cutTo (sum (kb 9 :: [q.take m].flatten)) (clampN 32) := by
  unfold idOf
  have e : q.take 64 = q.take m := by rw [hm.out, ← List.take_take]; exact (List.take_of_length_le (by simp; omega)).symm
  rw [e]
  simp
  rfl
 rw [hid]
 obtain ⟨x, hx⟩ : ∃ x, Hid (x = cutTo (sum (kb 9 :: [q.take m].flatten)) (clampN 32)) := ⟨_, rfl⟩
 have hxl : x.length = 32 := by rw [hx.out]; exact cutTo_len _ _ (sum_len _) (clampN_ok 32).2
 rw [← hx.out]
 have hz := Lib.hid (dig_size x hxl)
 have hz32 : Hid ((Z32 : Array Value).size = (cells8 x).toArray.size) := by show _ = _; simp [cells8_len, hxl, Z32]
 have ho := Lib.hid (dig_one x)
 have hlen : Hid ([q.take m].flatten.length = m) := by show _ = _; simp; omega
 have hm64 : Hid (m ≤ 64) := by have := hm.out; show m ≤ 64; omega
 have hR : Hid (Blk ((w.alloc (.cells Z32 34)).alloc (.cells #[.slice A m c] 31)) w.heap.size 34 Z32) := heap_alloc2_old w _ _
 have hbw : Hid (Below w.heap.size w ((w.alloc (.cells Z32 34)).alloc (.cells #[.slice A m c] 31))) := ((Below.refl _ w).alloc (Nat.le_refl _) _).alloc (by simp) _
 have htl : (q.take m).length = m := by rw [List.length_take]; omega
 have hpc : Hid (Pieces ((w.alloc (.cells Z32 34)).alloc (.cells #[.slice A m c] 31)) (some ⟨w.heap.size + 1, 0, none⟩) [q.take m]) := fun _ => ⟨w.heap.size + 1, 0, rfl, by simp, fun i y hy => by
  match i with
  | 0 =>
   obtain rfl := Option.some.inj hy
   exact ⟨A, c, by rw [cell_of_row _ _ _ _ _ _ (heap_alloc2_new w _ _), htl]; rfl, by rw [htl]; omega, by rw [htl]; exact (Reads.front hr m hmq).below hbw.out, fun e => ⟨by have := hnil e; omega, (hnil e).2⟩⟩
  | i + 1 => simp at hy⟩
 have hr0 := Lib.hid hr
 have hmc : Hid (m ≤ c) := by show m ≤ c; omega
 have hcl := Lib.hid hc
 have hkl : Hid (q.length < 140737488355328) := hk47
 obtain ⟨k, hk⟩ : ∃ k, Hid (k = q.length) := ⟨_, rfl⟩
 rw [← hk.out] at hm ⊢
 clear hid hxl htl hr hc hk47 hnil hmq
 by_cases h64 : (64 : Int) < (k : Int)
 ·have em : m = 64 := by have := hm.out; omega
  subst em
  have X : ∀ w', (Instr.sliceAt 31 (.slice A k c) none (some (.int .i64 64)) none).run Tryz.prog w' = .ok (.slice A 64 c) w' := run_headOf (m := 64) Tryz.underlying31 (fun _ => rfl) hmc.out _ rfl
  go_enter Tryz.func26, Tryz.ntmps26
  go_wp2_with (first
   | (go_at_call 58; refine (refOf_any _ 1 rfl (some ⟨w.heap.size + 1, 0, none⟩) 1 32 9 (by omega) _ (by have := hlen.out; omega) (by omega) hpc.out).mono ?_; rw [← hx.out]; rintro e w3 ⟨rfl, hb3⟩; replace hb3 := Lib.hid hb3; have hR3 : Hid (Blk w3 w.heap.size 34 Z32) := (hb3.out.block w.heap.size hR.out.lt).trans hR.out; have hbb : Hid (Below w.heap.size w w3) := hbw.out.trans (hb3.out.mono (by simp; omega)))
   | ((with_reducible change wpList _ _ _ ({ dst := none, op := Op.store 34 _ _, type := _, pos := _, after := _, guard := _ } :: _) _ _); refine wpList_store_row (o := ⟨none, _, _, _, _, _⟩) rfl 34 (.tmp 2) (.tmp 10) rfl w.heap.size (cells8 x).toArray rfl rfl 34 Z32 hR3.out hz.out hz32.out ho.out ?_))
  refine bodyPost_ret (results_cell_row rfl _ _ w.heap.size 34 (cells8 x).toArray (0, 0) _ rfl (setRow_heap _ _ _ _ _ _ hR3.out) Tryz.underlying34 rfl hz.out) rfl ?_
  exact ⟨rfl, below_setRow hbb.out (Nat.le_refl _) _⟩
 ·have em : k = m := by have := hm.out; omega
  have X : ∀ w', (Instr.sliceAt 31 (.slice A k c) none (some (.int .i64 (k : Int))) none).run Tryz.prog w' = .ok (.slice A k c) w' := run_headOf (m := k) Tryz.underlying31 (fun _ => rfl) (by rw [em]; exact hmc.out) _ rfl
  subst em
  have h64' : (k : Int) ≤ 64 := by omega
  go_enter Tryz.func26, Tryz.ntmps26
  go_wp2_with (first
   | (go_at_call 58; refine (refOf_any _ 1 rfl (some ⟨w.heap.size + 1, 0, none⟩) 1 32 9 (by omega) _ (by have := hlen.out; omega) (by omega) hpc.out).mono ?_; rw [← hx.out]; rintro e w3 ⟨rfl, hb3⟩; replace hb3 := Lib.hid hb3; have hR3 : Hid (Blk w3 w.heap.size 34 Z32) := (hb3.out.block w.heap.size hR.out.lt).trans hR.out; have hbb : Hid (Below w.heap.size w w3) := hbw.out.trans (hb3.out.mono (by simp; omega)))
   | ((with_reducible change wpList _ _ _ ({ dst := none, op := Op.store 34 _ _, type := _, pos := _, after := _, guard := _ } :: _) _ _); refine wpList_store_row (o := ⟨none, _, _, _, _, _⟩) rfl 34 (.tmp 2) (.tmp 10) rfl w.heap.size (cells8 x).toArray rfl rfl 34 Z32 hR3.out hz.out hz32.out ho.out ?_))
  refine bodyPost_ret (results_cell_row rfl _ _ w.heap.size 34 (cells8 x).toArray (0, 0) _ rfl (setRow_heap _ _ _ _ _ _ hR3.out) Tryz.underlying34 rfl hz.out) rfl ?_
  exact ⟨rfl, below_setRow hbb.out (Nat.le_refl _) _⟩
end Go.Proofs.YtfbhjoejffagjaaGreatDoor.HeadID
