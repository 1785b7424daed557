/-
  Texts of the claim, put into one file: Key, Empties, EmptyD, Way20.
-/
import Derived.Test.YtgldkfaiofkhbaaGreatDoorZ16
import Derived.Test.YtgldkfaiofkhbaaGreatDoorZ35
import Derived.Test.YtgldkfaiofkhbaaGreatDoorZ32
import Derived.Test.YtgldkfaiofkhbaaGreatDoorZ11
import Derived.Laws.IdiomStrings
import Derived.Test.YtgldkfaiofkhbaaGreatDoorZ20

namespace Go.Proofs.YtgldkfaiofkhbaaGreatDoor.Key
open Go Go.RowKit Go.Proofs.YtgldkfaiofkhbaaGreatDoor Mem Sha Bytes HashMem DigestMem Digest DigestOf DigestTop RefSum RefCut RefOf RefTop Go.Proofs.YtgldkfaiofkhbaaGreatDoor.Append ProofIdx2 IdxRef2 TwiceP SparseP Held

set_option maxRecDepth 100000 in
set_option maxHeartbeats 600000 in
theorem branch_any (qa qb : Text) (ha : qa.length = 32) (hb : qb.length = 32) (size : Int) (w : World) (hB : Base w) :
  Calls Tryz.prog 116 #[.int .i64 size, .agg (cells8 qa).toArray, .agg (cells8 qb).toArray] w fun e w' => e = .returned (.agg (cells8 (cutTo (sum (kb 4 :: (qa ++ qb))) (clampN size))).toArray) ∧ Below w.heap.size w w' := by
 have hfl : [qa, qb].flatten = qa ++ qb := by simp
 rw [← hfl]
 obtain ⟨x, hx⟩ : ∃ x, Hid (x = cutTo (sum (kb 4 :: [qa, qb].flatten)) (clampN size)) := ⟨_, rfl⟩
 have hxl : x.length = 32 := by rw [hx.out]; exact cutTo_len _ _ (sum_len _) (clampN_ok size).2
 rw [← hx.out]
 have hz := Lib.hid (dig_size x hxl)
 have hz32 : Hid ((Z32 : Array Value).size = (cells8 x).toArray.size) := by show _ = _; simp [cells8_len, hxl, Z32]
 have ho := Lib.hid (dig_one x)
 clear hxl
 replace hB := Lib.hid hB
 have hlen : Hid ([qa, qb].flatten.length = 64) := by show _ = _; simp [ha, hb]
 clear hfl
 obtain ⟨W, hW⟩ : ∃ W, Hid (W = ((((w.alloc (.cells (cells8 qa).toArray 23)).alloc (.cells (cells8 qb).toArray 23)).alloc (.cells Z32 23)).drew.alloc (.cells #[.slice (some ⟨w.heap.size, 0, none⟩) 32 32, .slice (some ⟨w.heap.size + 1, 0, none⟩) 32 32] 27))) := ⟨_, rfl⟩
 have hA0 : W.heap[w.heap.size]? = some (.cells (cells8 qa).toArray 23 (0, 0)) := by rw [hW.out]; exact pairA w _ _ _ _
 have hA1 : W.heap[w.heap.size + 1]? = some (.cells (cells8 qb).toArray 23 (0, 0)) := by rw [hW.out]; exact pairB w _ _ _ _
 have hR : Hid (Blk W (w.heap.size + 2) 23 Z32) := by show Blk _ _ _ _; rw [hW.out]; exact pairC w _ _ _ _
 have hP : W.heap[w.heap.size + 3]? = some (.cells #[.slice (some ⟨w.heap.size, 0, none⟩) 32 32, .slice (some ⟨w.heap.size + 1, 0, none⟩) 32 32] 27 (0, 0)) := by rw [hW.out]; exact pairD w _ _ _ _
 have hbw : Hid (Below w.heap.size w W) := by show Below _ _ _; rw [hW.out]; exact pairE w _ _ _ _
 have hws : Hid (W.heap.size = w.heap.size + 4) := by show _ = _; rw [hW.out]; simp
 have hpc : Hid (Pieces W (some ⟨w.heap.size + 3, 0, none⟩) [qa, qb]) := fun _ => ⟨w.heap.size + 3, 0, rfl, by have := hws.out; omega, fun i y hy => by
  match i with
  | 0 =>
   obtain rfl := Option.some.inj hy
   exact ⟨some ⟨w.heap.size, 0, none⟩, 32, by rw [cell_of_row _ _ _ _ _ _ hP, ha]; rfl, by omega, rowReads hA0, fun h => by cases h⟩
  | 1 =>
   obtain rfl := Option.some.inj hy
   exact ⟨some ⟨w.heap.size + 1, 0, none⟩, 32, by rw [cell_of_row _ _ _ _ _ _ hP, hb]; rfl, by omega, rowReads hA1, fun h => by cases h⟩
  | i + 2 => simp at hy⟩
 have hxl2 : Hid ((cells8 x).length = 32) := by show _ = _; have := hz32.out; simp [Z32] at this; omega
 have hxl3 := hxl2.out
 clear hA0 hA1 hP ha hb
 go_enter Tryz.func116, Tryz.ntmps116
 go_wp2_with fail
 go_region_law (go_simp; go_at_call 115; change Calls _ _ _ ((((w.alloc (.cells (cells8 qa).toArray 23)).alloc (.cells (cells8 qb).toArray 23)).alloc (.cells Z32 23)).drew.alloc (.cells #[.slice (some ⟨w.heap.size, 0, none⟩) 32 32, .slice (some ⟨w.heap.size + 1, 0, none⟩) 32 32] 27)) _; rw [← hW.out]; refine (of_any [qa, qb] 2 rfl (some ⟨w.heap.size + 3, 0, none⟩) 2 size 4 _ (hB.out.below hbw.out hB.out.1) (by have := hlen.out; omega) (by omega) hpc.out).mono ?_; rw [← hx.out]; rintro e w3 ⟨rfl, hb3⟩; replace hb3 := Lib.hid hb3; have hR3 : Hid (Blk w3 (w.heap.size + 2) 23 Z32) := (hb3.out.block (w.heap.size + 2) hR.out.lt).trans hR.out; have hbb : Hid (Below w.heap.size w w3) := hbw.out.trans (hb3.out.mono (by have := hws.out; omega)); have hst : (storeCells ⟨w.heap.size + 1 + 1, 0, none⟩ (cells8 x)).run Tryz.prog w3 = .ok () (w3.setRow (w.heap.size + 2) (cells8 x).toArray) := storeCells_row hR3.out (by have := hxl2.out; simp [Z32]; omega) (cells8_one x))
 go_wp2_with fail
 refine bodyPost_ret (results_cell_row rfl _ _ (w.heap.size + 2) 23 (cells8 x).toArray (0, 0) _ rfl (setRow_heap _ _ _ _ _ _ hR3.out) Tryz.underlying23 rfl hz.out) rfl ?_
 exact ⟨rfl, below_setRow hbb.out (by omega) _⟩

end Go.Proofs.YtgldkfaiofkhbaaGreatDoor.Key

namespace Go.Proofs.YtgldkfaiofkhbaaGreatDoor.Empties
open Go Go.RowKit Go.Proofs.YtgldkfaiofkhbaaGreatDoor Mem Sha Bytes HashMem DigestMem RefOf TreeMem TreeRoot QuietTail Grown Go.Proofs.YtgldkfaiofkhbaaGreatDoor.Append Book Held TreeRefRoot ProofIdx3 TwiceP SparseP Key

theorem emp_step (s : Int) (h : Nat) : cutTo (sum (kb 4 :: (emp s h ++ emp s h))) (clampN s) = emp s (h + 1) := rfl
end Go.Proofs.YtgldkfaiofkhbaaGreatDoor.Empties

namespace Go.Proofs.YtgldkfaiofkhbaaGreatDoor.EmptyD
open Go Go.RowKit Go.Proofs.YtgldkfaiofkhbaaGreatDoor Mem Sha Bytes HashMem DigestMem Digest DigestOf TreeMem Held TwiceP SparseP Key Empties

set_option maxRecDepth 100000 in
set_option maxHeartbeats 2000000 in
theorem emptyH_any (s : Int) (w : World) (hB : Base w) :
  Calls Tryz.prog 49 #[.int .i64 s, .int .i64 256] w fun e w' => e = .returned (.agg (cells8 (emp s 256)).toArray) ∧ Below w.heap.size w w' := by
 obtain ⟨E, hE⟩ : ∃ E : Nat → Text, Hid (∀ i, emp s i = E i) := ⟨_, fun _ => rfl⟩
 have hEl : Hid (∀ i, (E i).length = 32) := fun i => by rw [← hE.out]; exact emp_len s i
 have h0 : Hid (∀ w', Below w.heap.size w w' → ∀ A c, Calls Tryz.prog 115 #[.int .i64 s, .int .i64 5, .slice A 0 c] w' fun e w'' => e = .returned (.agg (cells8 (E 0)).toArray) ∧ Below w'.heap.size w' w'') := fun w' hb A c => by
  have := of_any [] 0 rfl A c s 5 w' (hB.below hb hB.1) (by simp) (by omega) (fun h => absurd h (Nat.lt_irrefl 0))
  rw [← hE.out]
  exact this
 have hT : Hid (∀ i w', Below w.heap.size w w' → Calls Tryz.prog 116 #[.int .i64 s, .agg (cells8 (E i)).toArray, .agg (cells8 (E i)).toArray] w' fun e w'' => e = .returned (.agg (cells8 (E (i + 1))).toArray) ∧ Below w'.heap.size w' w'') := fun i w' hb => by
  have := branch_any (emp s i) (emp s i) (emp_len s i) (emp_len s i) s w' (hB.below hb hB.1)
  rw [emp_step s i] at this
  rw [← hE.out, ← hE.out]
  exact this
 obtain ⟨x, hx⟩ : ∃ x, Hid (E 256 = x) := ⟨_, Lib.hid rfl⟩
 rw [hE.out, hx.out]
 have hz := Lib.hid (fun i => dig_size (E i) (hEl.out i))
 have hz32 : Hid (∀ i, (Z32 : Array Value).size = (cells8 (E i)).toArray.size) := fun i => by simp [cells8_len, hEl.out i, Z32]
 have hzz : Hid (∀ i j, (cells8 (E i)).toArray.size = (cells8 (E j)).toArray.size) := fun i j => by simp [cells8_len, hEl.out]
 have ho := Lib.hid (fun i => dig_one (E i))
 have hbw : Hid (Below w.heap.size w (w.alloc (.cells Z32 23))) := Below.heap_below w _
 have hRw : Hid (Blk (w.alloc (.cells Z32 23)) w.heap.size 23 Z32) := Blk.new w _ _
 clear hB hE
 go_enter Tryz.func49, Tryz.ntmps49
 go_wp2_with (first
  | (go_at_call 115; refine (h0.out _ hbw.out none 0).mono ?_; rintro e w3 ⟨rfl, hb3⟩; have hR3 : Hid (Blk w3 w.heap.size 23 Z32) := (hb3.block _ hRw.out.lt).trans hRw.out; have hbb : Hid (Below w.heap.size w w3) := hbw.out.trans (hb3.mono hbw.out.size); have hlt3 : Hid (w.heap.size < w3.heap.size) := hR3.out.lt; clear hb3)
  | ((with_reducible change wpList _ _ _ ({ dst := none, op := Op.store 23 (.tmp 5) (.tmp 7), type := _, pos := _, after := _, guard := _ } :: _) _ _); refine wpList_store_whole (o := ⟨none, _, _, _, _, _⟩) rfl 23 (.tmp 5) (.tmp 7) rfl w3.heap.size ((cells8 (E 0)).toArray) rfl rfl 23 Z32 (Blk.new w3 _ _) (hz.out 0) (hz32.out 0) (ho.out 0) ?_; intro w4 hB4 hk4; have hb4 : Hid (Below w.heap.size w w4) := hbb.out.trans ((kept_fresh hk4).mono hbb.out.size); have hR4 : Hid (Blk w4 w.heap.size 23 Z32) := ((kept_fresh hk4).block w.heap.size hR3.out.lt).trans hR3.out; replace hB4 := Lib.hid hB4; clear hk4))
 go_loopw [11] (fun v wr => ∃ j : Nat, v = .int .i64 (j : Int) ∧ Hid (j ≤ 256) ∧ Hid (Blk wr w3.heap.size 23 (cells8 (E j)).toArray) ∧ Hid (Blk wr w.heap.size 23 Z32) ∧ Hid (Below w.heap.size w wr)) (fun v _ => 257 - (intOf v).toNat)
 case atStart => exact ⟨0, rfl, Nat.zero_le _, hB4.out, hR4.out, hb4.out⟩
 case round =>
  have hs3 : Hid (w.heap.size < w3.heap.size) := hlt3.out
  clear hB4 hR4 hb4 hlt3 h0 hbw hRw
  generalize w3.heap.size = g at *
  obtain ⟨j, rfl, hj, hG, hR, hbr⟩ := hrel
  by_cases hlt : j < 256
  ·have z2 : (j : Int) < 256 := by omega
   have hlt' := Lib.hid hlt
   obtain ⟨x, hx⟩ : ∃ x, Hid (E j = x) := ⟨_, Lib.hid rfl⟩
   have hxs := Lib.hid (hz.out j)
   have hTj := Lib.hid (hT.out j)
   have hGj := hG.out
   rw [hx.out] at hxs hTj hGj
   replace hGj := Lib.hid hGj
   have hxz : Hid ((cells8 x).toArray.size = (cells8 (E (j + 1))).toArray.size) := by show _ = _; rw [← hx.out]; exact hzz.out j (j + 1)
   clear hlt hG
   go_wp2_with (first
  | (((with_reducible change wpList _ _ _ (⟨some 14, _, _, _, _, _⟩ :: _) _ _); refine wpList_load_row (o := ⟨some 14, _, _, _, _, _⟩) rfl 23 (.tmp 5) rfl (g) rfl 23 ((cells8 x).toArray) (0, 0) _ hGj.out Tryz.underlying23 rfl hxs.out ?_))
  | (((with_reducible change wpList _ _ _ (⟨some 15, _, _, _, _, _⟩ :: _) _ _); refine wpList_load_row (o := ⟨some 15, _, _, _, _, _⟩) rfl 23 (.tmp 5) rfl (g) rfl 23 ((cells8 x).toArray) (0, 0) _ hGj.out Tryz.underlying23 rfl hxs.out ?_))
  | (go_at_call 116; refine (hTj.out _ hbr.out).mono ?_; rintro e w8 ⟨rfl, hb8⟩; have hG8 : Hid (Blk w8 g 23 (cells8 x).toArray) := (hb8.block _ hGj.out.lt).trans hGj.out; have hR8 : Hid (Blk w8 w.heap.size 23 Z32) := (hb8.block _ hR.out.lt).trans hR.out; have bb8 : Hid (Below w.heap.size w w8) := hbr.out.trans (hb8.mono hbr.out.size); clear hb8 hGj)
  | ((with_reducible change wpList _ _ _ ({ dst := none, op := Op.store 23 (.tmp 5) (.tmp 16), type := _, pos := _, after := _, guard := _ } :: _) _ _); refine Go.Proofs.YtgldkfaiofkhbaaGreatDoor.Held.wpList_store_whole (o := ⟨none, _, _, _, _, _⟩) rfl 23 (.tmp 5) (.tmp 16) rfl g ((cells8 (E (j + 1))).toArray) rfl rfl 23 (cells8 x).toArray hG8.out (hz.out (j + 1)) hxz.out (ho.out (j + 1)) ?_; intro w9 hB9 hk9; have hb9 : Hid (Below w.heap.size w w9) := bb8.out.trans (Kept.below_of hk9 (Nat.le_of_lt hs3.out) bb8.out.size); have hR9 : Hid (Blk w9 w.heap.size 23 Z32) := hR8.out.kept hk9 (by have := hs3.out; omega); have hG9 := Lib.hid hB9; clear hk9 hB9 hG8 hR8 bb8))
   go_roundw
   case rel => exact ⟨j + 1, by go_num, hlt'.out, hG9.out, hR9.out, hb9.out⟩
   case measure => (have := hlt'.out; simp [intOf]; omega)
  ·obtain rfl : j = 256 := by have := hj.out; omega
   have z2 : ¬ (((256 : Nat) : Int) < 256) := by omega
   have hxs := Lib.hid (hz.out 256)
   have hxz := Lib.hid (hz32.out 256)
   have hxo := Lib.hid (ho.out 256)
   have hGj := hG.out
   rw [hx.out] at hxs hxz hxo hGj
   replace hGj := Lib.hid hGj
   clear hlt hG hz hz32 hzz ho hT hEl hx
   go_wp2_with (first
  | (((with_reducible change wpList _ _ _ (⟨some 18, _, _, _, _, _⟩ :: _) _ _); refine wpList_load_row (o := ⟨some 18, _, _, _, _, _⟩) rfl 23 (.tmp 5) rfl (g) rfl 23 ((cells8 x).toArray) (0, 0) _ hGj.out Tryz.underlying23 rfl hxs.out ?_))
  | ((with_reducible change wpList _ _ _ ({ dst := none, op := Op.store 23 (.tmp 4) (.tmp 18), type := _, pos := _, after := _, guard := _ } :: _) _ _); refine wpList_store_row (o := ⟨none, _, _, _, _, _⟩) rfl 23 (.tmp 4) (.tmp 18) rfl w.heap.size (cells8 x).toArray rfl rfl 23 Z32 hR.out hxs.out hxz.out hxo.out ?_))
   refine bodyPost_ret (results_cell_row rfl _ _ w.heap.size 23 (cells8 x).toArray (0, 0) _ rfl (setRow_heap _ _ _ _ _ _ hR.out) Tryz.underlying23 rfl hxs.out) rfl ?_
   exact ⟨rfl, below_setRow hbr.out (Nat.le_refl _) _⟩
end Go.Proofs.YtgldkfaiofkhbaaGreatDoor.EmptyD

namespace Go.Proofs.YtgldkfaiofkhbaaGreatDoor.Way20
open Go Go.RowKit Go.Proofs.YtgldkfaiofkhbaaGreatDoor Mem Sha Bytes Go.Proofs.YtgldkfaiofkhbaaGreatDoor.Append HashMem DigestMem Digest RefCut RefTop QuietTail Grown Chain TreeMem TreeRoot Held Guard Sides Node Climb Incl Include Texts RefIncl0 RefIncl Ref17 Book Book2 AudIncl

def TxP (w : World) (A : Option Addr) (n : Nat) (ts : List Text) : Prop :=
 ∃ xs, ts.length = n ∧ Reads w 1 A n xs ∧ ∀ (i : Nat) (q : Text), ts[i]? = some q → 32 < q.length ∧ ∃ g c, xs[i]? = some (.slice (some ⟨g, 0, none⟩) q.length c) ∧ q.length ≤ c ∧ Reads w 1 (some ⟨g, 0, none⟩) q.length (cells8 q)
theorem TxP.below {w w' : World} {A : Option Addr} {n : Nat} {ts : List Text} (h : TxP w A n ts) (hb : Below w.heap.size w w') : TxP w' A n ts := by
 obtain ⟨xs, h1, h2, h3⟩ := h
 refine ⟨xs, h1, h2.below hb, fun i q hq => ?_⟩
 obtain ⟨hl, g, c, a1, a2, a3⟩ := h3 i q hq
 exact ⟨hl, g, c, a1, a2, a3.below hb⟩
theorem TxP.mk_ {w : World} {M : Nat → Prop} {gc : Nat} {r : Option Nat} {v : Value} {xs : List Value} {ts : List Text} {base : Nat} (hO : w.ownsRow base 27 1 v ts.length xs) (hx : Txs M w gc r xs ts) (hl : ∀ q ∈ ts, q.length = 65) : ∃ A c, v = .slice A ts.length c ∧ (A = none → ts.length = 0 ∧ c = 0) ∧ TxP w A ts.length ts := by
 obtain ⟨A, c, e, -, -, hnil, hr, -⟩ := Append.Own.reads hO
 refine ⟨A, c, e, hnil, xs, rfl, hr, fun i q hq => ?_⟩
 obtain ⟨g, cq, a1, a2, a3, -⟩ := hx i q hq
 exact ⟨by rw [hl q (List.mem_of_getElem? hq)]; decide, g, cq, a1, a2, a3⟩
theorem inclOf_texts (s size i : Int) (leaf : Text) (ds : List Text) (hl : leaf.length = 32) (hd : Digs ds) : (inclOf s size i leaf [] ds).2.2.length ≤ ds.length ∧ ∀ q ∈ (inclOf s size i leaf [] ds).2.2, q.length = 65 := by
 unfold inclOf
 split
 ·exact ⟨Nat.zero_le _, fun q h => by cases h⟩
 ·split
  ·exact ⟨Nat.zero_le _, fun q h => by cases h⟩
  ·rename_i h
   have h2 : (sides size.toNat i.toNat).length = ds.length := by omega
   have hz : ((sides size.toNat i.toNat).zip ds).length = ds.length := by rw [List.length_zip]; omega
   refine ⟨by rw [show _ = _ from (climbN_len (s := s) (st := (leaf, [])) (l := (sides size.toNat i.toNat).zip ds) hl ds.length (by omega)).2]; simp, ?_⟩
   exact climbN_long hl (fun q h => by cases h) (fun p hp => hd _ (List.of_mem_zip (show (p.1, p.2) ∈ _ from hp)).2) ds.length (by omega)
theorem one_piece {w : World} {A : Option Addr} {k c : Nat} {q : Text} (h : Reads w 1 A k (cells8 q)) (hk : q.length = k) (hkc : k ≤ c) (hnil : A = none → k = 0 ∧ c = 0) : Pieces (w.alloc (.cells #[.slice A k c] 27)) (some ⟨w.heap.size, 0, none⟩) [q] := fun _ => by
 have hB := Blk.new w 27 #[.slice A k c]
 refine ⟨w.heap.size, 0, rfl, hB.lt, fun i p hp => ?_⟩
 match i with
 | 0 =>
  obtain rfl := Option.some.inj hp
  exact ⟨A, c, by rw [hB.cell, hk]; rfl, by omega, by rw [hk]; exact h.alloc _, fun e => by have := hnil e; omega⟩
 | i + 1 => simp at hp
end Go.Proofs.YtgldkfaiofkhbaaGreatDoor.Way20
