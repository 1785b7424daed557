/-
  Texts of the claim, put into one file: Node, NodeW, Climb, Incl, Texts, AheadM, InclAny, RefIncl0, AheadT, RefAhead0, RefAheadP, RefAhead, RowsT, Ahead, Agree, RefAgree, TwiceP, SparseP, Include, Climbs, RefIncl, Aud0, AudIncl, RowsY.
-/
import Derived.Test.YtgldkfaiofkhbaaGreatDoorZ20
import Derived.Test.YtgldkfaiofkhbaaGreatDoorZ31
import Derived.Test.YtgldkfaiofkhbaaGreatDoorZ4
import Derived.Test.YtgldkfaiofkhbaaGreatDoorZ11
import Derived.Test.YtgldkfaiofkhbaaGreatDoorZ6
import Derived.Test.YtgldkfaiofkhbaaGreatDoorZ26
import Derived.Test.YtgldkfaiofkhbaaGreatDoorZ17
import Derived.Test.YtgldkfaiofkhbaaGreatDoorZ30

namespace Go.Proofs.YtgldkfaiofkhbaaGreatDoor.Node
open Go Go.RowKit Go.Proofs.YtgldkfaiofkhbaaGreatDoor Digest Mem Sha ShaWalk Bytes HashMem DigestMem DigestTop RefTop QuietTail Grown Chain TreeMath TreeMem TreeRoot Go.Proofs.YtgldkfaiofkhbaaGreatDoor.Append TreeRefRoot Held DigestText

def Txs (M : Nat → Prop) (w : World) (gc : Nat) (r : Option Nat) (xs : List Value) (ts : List Text) : Prop :=
 ∀ (i : Nat) (q : Text), ts[i]? = some q → ∃ g c, xs[i]? = some (.slice (some ⟨g, 0, none⟩) q.length c) ∧ q.length ≤ c ∧ Reads w 1 (some ⟨g, 0, none⟩) q.length (cells8 q) ∧ g < w.heap.size ∧ g ≠ gc ∧ some g ≠ r ∧ ¬ M g
def ClAtM (M : Nat → Prop) (w : World) (gc : Nat) (r : Option Nat) (s : Int) (ts : List Text) : Prop :=
 ∃ v xs, Blk w gc 322 #[.int .i64 s, v] ∧ w.ownsRow 0 27 1 v ts.length xs ∧ v.ownBlock = r ∧ (∀ k, r = some k → gc < k ∧ k < w.heap.size) ∧ Txs M w gc r xs ts
def ClAt (w : World) (gc : Nat) (r : Option Nat) (s : Int) (ts : List Text) : Prop := ClAtM (fun _ => False) w gc r s ts
theorem ClAtM.kept {M : Nat → Prop} {w w' : World} {gc : Nat} {r : Option Nat} {s : Int} {ts : List Text} (h : ClAtM M w gc r s ts) (hk : Kept M w w') (hgc : ¬ M gc) (hr : ∀ k, r = some k → ¬ M k) : ClAt w' gc r s ts := by
 obtain ⟨v, xs, hB, ho, hv, hr1, hx⟩ := h
 refine ⟨v, xs, hB.kept hk hgc, ⟨ho.1, ?_⟩, hv, fun k e => ⟨(hr1 k e).1, Nat.lt_of_lt_of_le (hr1 k e).2 hk.size⟩, fun i q hq => ?_⟩
 ·rcases ho.2 with h | ⟨g', cap, cur, rfl, h1, h2, h3⟩
  ·exact .inl h
  ·refine .inr ⟨g', cap, cur, rfl, h1, ?_, h3⟩
   have e : r = some g' := by rw [← hv]; rfl
   rw [hk.block g' (hr1 g' e).2 (hr g' e), h2]
 ·obtain ⟨g, c, a1, a2, a3, a4, a5, a6, a7⟩ := hx i q hq
  refine ⟨g, c, a1, a2, a3.kept hk (fun b o e hm => ?_), Nat.lt_of_lt_of_le a4 hk.size, a5, a6, fun h => h⟩
  injection e with e
  injection e with e1 e2
  exact a7 (e1 ▸ hm)
def Clmb (w : World) (gc : Nat) (r : Option Nat) (s : Int) (ts : List Text) (w' : World) : Prop :=
 ∃ r', ClAt w' gc r' s ts ∧ Kept (fun k => k = gc ∨ some k = r) w w' ∧ (r' = r ∨ ∃ k, r' = some k ∧ w.heap.size ≤ k)
theorem infoT : (Tryz.prog.info? 27).map (fun i => (i.zero, i.size, i.bytes)) = some (some (.slice none 0 0), 1, 24) := by kernel_rfl

def nodeW (w : World) (l r : Text) : World := (((w.alloc (.cells (cells8 l).toArray 23)).alloc (.cells (cells8 r).toArray 23)).alloc (.cells Z32 23)).drew.alloc (.cells #[.slice (some ⟨w.heap.size, 0, none⟩) 32 32, .slice (some ⟨w.heap.size + 1, 0, none⟩) 32 32] 27)
structure NodeW (w W : World) (l r : Text) : Prop where
 size : W.heap.size = w.heap.size + 4
 below : Below w.heap.size w W
 res : Blk W (w.heap.size + 2) 23 Z32
 pieces : Pieces W (some ⟨w.heap.size + 3, 0, none⟩) [l, r]
 lt : AllLt W W.heap.size (some ⟨w.heap.size + 3, 0, none⟩) [l, r]
theorem nodeW_ok (w : World) (l r : Text) (hl : l.length = 32) (hr : r.length = 32) : NodeW w (nodeW w l r) l r := by
 obtain ⟨W, hW⟩ : ∃ W, W = nodeW w l r := ⟨_, rfl⟩
 have hA0 : W.heap[w.heap.size]? = some (.cells (cells8 l).toArray 23 (0, 0)) := by rw [hW]; exact pairA w _ _ _ _
 have hA1 : W.heap[w.heap.size + 1]? = some (.cells (cells8 r).toArray 23 (0, 0)) := by rw [hW]; exact pairB w _ _ _ _
 have hR : Blk W (w.heap.size + 2) 23 Z32 := by show Blk _ _ _ _; rw [hW]; exact pairC w _ _ _ _
 have hP : W.heap[w.heap.size + 3]? = some (.cells #[.slice (some ⟨w.heap.size, 0, none⟩) 32 32, .slice (some ⟨w.heap.size + 1, 0, none⟩) 32 32] 27 (0, 0)) := by rw [hW]; exact pairD w _ _ _ _
 have hbw : Below w.heap.size w W := by show Below _ _ _; rw [hW]; exact pairE w _ _ _ _
 have hws : W.heap.size = w.heap.size + 4 := by show _ = _; rw [hW]; simp [nodeW]
 rw [← hW]
 refine ⟨hws, hbw, hR, fun _ => ⟨w.heap.size + 3, 0, rfl, by omega, fun i y hy => ?_⟩, fun a e => ?_, fun i q hq b o e Ai ci hc _ a ea => ?_⟩
 ·match i with
  | 0 =>
   obtain rfl := Option.some.inj hy
   exact ⟨some ⟨w.heap.size, 0, none⟩, 32, by rw [cell_of_row _ _ _ _ _ _ hP, hl]; rfl, by omega, rowReads hA0, fun h => by cases h⟩
  | 1 =>
   obtain rfl := Option.some.inj hy
   exact ⟨some ⟨w.heap.size + 1, 0, none⟩, 32, by rw [cell_of_row _ _ _ _ _ _ hP, hr]; rfl, by omega, rowReads hA1, fun h => by cases h⟩
  | i + 2 => simp at hy
 ·obtain rfl := Option.some.inj e
  show w.heap.size + 3 < _
  omega
 ·injection e with e
  injection e with e1 e2
  subst e1 e2
  rw [cell_of_row _ _ _ _ _ _ hP] at hc
  match i with
  | 0 =>
   have h1 := Option.some.inj hc
   injection h1 with h1
   rw [ea] at h1
   have := Option.some.inj h1
   rw [← this]
   show w.heap.size < _
   omega
  | 1 =>
   have h1 := Option.some.inj hc
   injection h1 with h1
   rw [ea] at h1
   have := Option.some.inj h1
   rw [← this]
   show w.heap.size + 1 < _
   omega
  | i + 2 => simp at hq
theorem Clmb.step {w w3 w4 : World} {gc gt ct : Nat} {r : Option Nat} {s : Int} {ts : List Text} {q : Text} {v v1 : Value} {xs : List Value} (hx : Txs (fun _ => False) w gc r xs ts) (hr : ∀ k, r = some k → gc < k ∧ k < w.heap.size) (hgc : gc < w.heap.size)
  (hb : Below w.heap.size w w3) (hB : Blk w3 gc 322 #[.int .i64 s, v]) (hv : v.ownBlock = r) (hq : Reads w3 1 (some ⟨gt, 0, none⟩) q.length (cells8 q)) (hgt : w.heap.size ≤ gt ∧ gt < w3.heap.size) (hct : q.length ≤ ct)
  (hG : Grew (w3.alloc (.cells #[.slice (some ⟨gt, 0, none⟩) q.length ct] 27)) 0 27 1 v ts.length 1 xs [.slice (some ⟨gt, 0, none⟩) q.length ct] v1 w4) (hxl : xs.length = ts.length) :
  ∃ r', ClAtM (fun k => w.heap.size ≤ k ∧ k < gt) (w4.setCell ⟨gc, 1, none⟩ v1) gc r' s (ts ++ [q]) ∧ Kept (fun k => k = gc ∨ some k = r) w (w4.setCell ⟨gc, 1, none⟩ v1) ∧ (r' = r ∨ ∃ k, r' = some k ∧ w3.heap.size < k) := by
 have hrow : ∀ k, r = some k → k < w3.heap.size := fun k e => by have := (hr k e).2; have := hb.size; omega
 have hz : (w3.alloc (.cells #[.slice (some ⟨gt, 0, none⟩) q.length ct] 27)).heap.size = w3.heap.size + 1 := by simp
 have hg4 : gc < w3.heap.size := hB.lt
 have hk4 : ∀ k, k < w3.heap.size → some k ≠ r → w4.heap[k]? = w3.heap[k]? := fun k hk hne => (hG.grow.block k (by rw [hz]; omega) (by rw [hv]; exact hne)).trans (Below.heap_alloc _ _ _ hk)
 have hs4 : w3.heap.size + 1 ≤ w4.heap.size := by have := hG.grow.size; rw [hz] at this; exact this
 have hgcr : some gc ≠ r := fun e => by have := (hr gc e.symm).1; omega
 have hr4 : v1.ownBlock = r ∨ v1.ownBlock = some (w3.heap.size + 1) := by
  rcases hG.at_ with h | h
  ·exact .inl (h.trans hv)
  ·exact .inr (by rw [h, hz])
 have hlt4 : ∀ k, v1.ownBlock = some k → gc < k ∧ k < w4.heap.size := fun k e => by
  have h2 := (hG.own.lt k e).2
  rcases hr4 with h | h
  ·exact ⟨(hr k (by rw [← h, e])).1, h2⟩
  ·rw [h] at e; have := Option.some.inj e; exact ⟨by omega, h2⟩
 have hown1 : ∀ k, k < w3.heap.size → some k ≠ r → some k ≠ v1.ownBlock := fun k hk hne e => by
  rcases hr4 with h | h
  ·exact hne (e.trans h)
  ·rw [h] at e; have := Option.some.inj e; omega
 have hB4 : Blk w4 gc 322 #[.int .i64 s, v] := (hk4 gc hg4 hgcr).trans hB
 have hread : ∀ (g : Nat) (p : Text), g < w3.heap.size → some g ≠ r → g ≠ gc → Reads w3 1 (some ⟨g, 0, none⟩) p.length (cells8 p) → Reads (w4.setCell ⟨gc, 1, none⟩ v1) 1 (some ⟨g, 0, none⟩) p.length (cells8 p) := fun g p h1 h2 h3 h => by
  refine (h.keep (w' := w4) (by omega) fun b o e hb => ?_).setCell (fun b o e => ?_) v1
  ·injection e with e
   injection e with e1 e2
   subst e1
   exact hk4 _ hb h2
  ·injection e with e
   injection e with e1 e2
   subst e1
   exact h3
 refine ⟨v1.ownBlock, ⟨v1, xs ++ [.slice (some ⟨gt, 0, none⟩) q.length ct], hB4.set_ 1 v1, ?_, rfl, fun k e => ?_, fun i p hp => ?_⟩, ?_, ?_⟩
 ·rw [List.length_append]
  refine World.ownsRow.kept hG.own (WayP.grown_set w4 gc 1 v1) ?_
  cases e : v1.ownBlock with
  | none => exact .inl rfl
  | some k => exact .inr (fun e2 => by have := (hlt4 k e).1; have := Option.some.inj e2; omega)
 ·have := hlt4 k e
  simp
  exact this
 ·rcases Nat.lt_or_ge i ts.length with hi | hi
  ·rw [List.getElem?_append_left hi] at hp
   obtain ⟨g, c, a1, a2, a3, a4, a5, a6, -⟩ := hx i p hp
   have hg3 : g < w3.heap.size := by have := hb.size; omega
   exact ⟨g, c, by rw [List.getElem?_append_left (by omega)]; exact a1, a2, hread g p hg3 a6 a5 (a3.below hb), by simp; omega, a5, hown1 g hg3 a6, fun h => by omega⟩
  ·rw [List.getElem?_append_right hi] at hp
   have hi0 : i = ts.length := by
    have := (List.getElem?_eq_some_iff.1 hp).1
    simp at this
    omega
   subst hi0
   rw [Nat.sub_self] at hp
   obtain rfl := Option.some.inj hp
   have hgr : some gt ≠ r := fun e => by have := (hr gt e.symm).2; omega
   exact ⟨gt, ct, by rw [List.getElem?_append_right (by omega), hxl, Nat.sub_self]; rfl, hct, hread gt q hgt.2 hgr (by omega) hq, by simp; omega, by omega, hown1 gt hgt.2 hgr, fun h => by omega⟩
 ·refine ⟨hG.grow.os.trans hb.os, hG.grow.tape.trans hb.tape, hG.grow.output.trans hb.output, by have := hb.size; simp; omega, fun k hk hne => ?_⟩
  have hkr : some k ≠ r := fun e => hne (.inr e)
  have hkg : k ≠ gc := fun e => hne (.inl e)
  exact ((Below.heap_setCell w4 ⟨gc, 1, none⟩ v1 k hkg).trans (hk4 k (by have := hb.size; omega) hkr)).trans (hb.block k hk)
 ·rcases hr4 with h | h
  ·exact .inl h
  ·exact .inr ⟨_, h, by omega⟩
end Go.Proofs.YtgldkfaiofkhbaaGreatDoor.Node

namespace Go.Proofs.YtgldkfaiofkhbaaGreatDoor.NodeW
open Go Go.RowKit Go.Proofs.YtgldkfaiofkhbaaGreatDoor Digest Mem Sha ShaWalk Bytes HashMem DigestMem DigestTop RefTop QuietTail Grown Chain TreeMath TreeMem TreeRoot Go.Proofs.YtgldkfaiofkhbaaGreatDoor.Append Book TreeRefRoot Held DigestText Node

set_option maxRecDepth 100000 in
set_option maxHeartbeats 1000000 in
theorem node_walk (gc : Nat) (r : Option Nat) (s : Int) (ts : List Text) (l rr : Text) (hl : l.length = 32) (hrl : rr.length = 32) (w : World) (hBs : Base w) (hgb : 1 < gc) (hcl : ClAt w gc r s ts) (hts : ts.length < 1099511627776) :
  Calls Tryz.prog 267 #[.pointer (some ⟨gc, 0, none⟩), .agg (cells8 l).toArray, .agg (cells8 rr).toArray] w fun e w' => e = .returned (.agg (cells8 (ndOf s l rr)).toArray) ∧ Clmb w gc r s (ts ++ [kb 1 :: (l ++ rr)]) w' := by
 obtain ⟨i0, ii, iz0, iz1, iz2⟩ := info_partsN infoT
 obtain ⟨v, xs, hB, hO0, hv, hr, hx⟩ := hcl
 obtain ⟨Av, cv, rfl, -⟩ := Own.reads hO0
 have hNW := nodeW_ok w l rr hl hrl
 obtain ⟨q, hq⟩ : ∃ q : Text, Hid (kb 1 :: (l ++ rr) = q) := ⟨_, Lib.hid rfl⟩
 have hql : Hid (q.length = 65) := by show _ = _; rw [← hq.out]; simp [hl, hrl]
 have hT : Hid (Calls Tryz.prog 281 #[.int .i64 1, .slice (some ⟨w.heap.size + 3, 0, none⟩) 2 2] (nodeW w l rr) fun e w' => ∃ v, e = .returned v ∧ Below (nodeW w l rr).heap.size (nodeW w l rr) w' ∧ w'.ownsRow (nodeW w l rr).heap.size 5 1 v 65 (cells8 q)) := by
  have := text_any 1 [l, rr] 2 rfl (some ⟨w.heap.size + 3, 0, none⟩) 2 (nodeW w l rr) (by decide) 64 (by simp [hl, hrl]) (by decide) hNW.pieces hNW.lt
  rw [show kb 1 :: [l, rr].flatten = q by rw [← hq.out]; simp] at this
  exact this
 obtain ⟨z, hz⟩ : ∃ z, Hid (ndOf s l rr = z) := ⟨_, Lib.hid rfl⟩
 have F := Lib.hid (fit (x := z) (by rw [← hz.out]; exact ndOf_len _ _ _))
 have hCu : Hid (∀ w', Calls Tryz.prog 113 #[.agg (cells8 (sum q)).toArray, .int .i64 s] w' fun e w'' => e = .returned (.agg (cells8 z).toArray) ∧ Below w'.heap.size w' w'') := fun w' => by
  have := cut_any (sum q) (sum_len _) s w'
  rw [show cutTo (sum q) (clampN s) = z by rw [← hq.out]; exact hz.out] at this
  exact this
 replace hBs := Lib.hid hBs
 replace hB := Lib.hid hB
 replace hO0 := Lib.hid hO0
 replace hv := Lib.hid hv
 replace hr := Lib.hid hr
 replace hx := Lib.hid hx
 replace hNW := Lib.hid hNW
 replace hgb := Lib.hid hgb
 obtain ⟨k, hk⟩ : ∃ k, Hid (ts.length = k) := ⟨_, Lib.hid rfl⟩
 rw [hk.out] at hB hO0 hts hv
 replace hts := Lib.hid hts
 clear hl hrl
 go_enter Tryz.func267, Tryz.ntmps267
 go_wp2_with fail
 refine held_start (fun _ => True) 5 rfl (by kernel_rfl) ?_
 refine Held.tk0 (i := 0) (v := .slice (some ⟨w.heap.size, 0, none⟩) 32 32) rfl trivial (fun w' hw' => by go_simp) ?_
 (intro K k; go_simp; apply k; clear k K)
 refine Held.tk0 (i := 1) (v := .slice (some ⟨w.heap.size + 1, 0, none⟩) 32 32) rfl trivial (fun w' hw' => by go_simp) ?_
 (intro K k; go_simp; apply k; clear k K)
 refine held_only (i := 2) rfl (by kernel_rfl) (by rfl) (fun K hK => ?_)
 go_simp
 refine hK _ _ trivial ?_
 clear hK K
 change wpAnyH _ _ _ _ _ _ _ _ (nodeW w l rr)
 refine held_only (i := 3) rfl (by kernel_rfl) (by rfl) (fun K hK => ?_)
 refine wp_fn (R := fun v w'' => Below (nodeW w l rr).heap.size (nodeW w l rr) w'' ∧ w''.ownsRow (nodeW w l rr).heap.size 5 1 v 65 (cells8 q)) (args := #[.int .i64 1, .slice (some ⟨w.heap.size + 3, 0, none⟩) 2 2]) _ _ rfl rfl Tryz.func281 (by kernel_rfl) (by kernel_rfl) (hT.out.mono fun e w'' ⟨v, he, hb, ho⟩ => ⟨_, he, hb, ho⟩) ?_
 rintro v3 w3 ⟨hb3, ho3⟩
 obtain ⟨gt, ct, rfl, hgt1, hgt2⟩ := ho3.form (by decide)
 go_simp
 refine hK _ _ trivial ?_
 clear hK K
 refine Held.tk0 (i := 4) (v := .slice (some ⟨gt, 0, none⟩) 65 ct) rfl trivial (fun w' hw' => by go_simp) ?_
 (intro K k; go_simp; apply k; clear k K)
 refine held_end (by kernel_rfl) ?_
 have hsz := Lib.hid hNW.out.size
 have hbW : Hid (Below w.heap.size w w3) := hNW.out.below.trans (hb3.mono hNW.out.below.size)
 have hB3 : Hid (Blk w3 gc 322 #[.int .i64 s, .slice Av k cv]) := (hbW.out.block gc hB.out.lt).trans hB.out
 have hR3 : Hid (Blk w3 (w.heap.size + 2) 23 Z32) := (hb3.block _ hNW.out.res.lt).trans hNW.out.res
 have hO : Hid ((w3.alloc (.cells #[.slice (some ⟨gt, 0, none⟩) 65 ct] 27)).ownsRow 0 27 1 (.slice Av k cv) k xs) := (own_below hO0.out hbW.out).alloc _
 have hNw : Hid (Reads (w3.alloc (.cells #[.slice (some ⟨gt, 0, none⟩) 65 ct] 27)) 1 (some ⟨w3.heap.size, 0, none⟩) 1 [.slice (some ⟨gt, 0, none⟩) 65 ct]) := Blk.reads (Blk.new w3 27 #[.slice (some ⟨gt, 0, none⟩) 65 ct]) 0 _ rfl (fun j u hu => by rw [Nat.zero_add]; simpa using hu)
 have hm1 : Hid (k + 1 ≤ maxLen) := by have := hts.out; show _ ≤ _; unfold maxLen; omega
 have hm2 : Hid ((k + 1) * 24 ≤ 140737488355328) := by have := hts.out; show _ ≤ _; omega
 have hgr : Hid (some gc ≠ (Value.slice Av k cv).ownBlock) := fun e => by rw [hv.out] at e; have := (hr.out gc e.symm).1; omega
 have hrr2 : Hid (some (w.heap.size + 2) ≠ (Value.slice Av k cv).ownBlock) := fun e => by rw [hv.out] at e; have := (hr.out _ e.symm).2; omega
 obtain ⟨At, ct', et, hct, -, -, hrt, -⟩ := Own.reads ho3
 injection et with et1 et2 et3
 subst et1 et3
 have hrq : Hid (Reads w3 1 (some ⟨gt, 0, none⟩) q.length (cells8 q)) := by show Reads _ _ _ _ _; rw [hql.out]; exact hrt
 have hgt : Hid (w.heap.size + 4 ≤ gt ∧ gt < w3.heap.size ∧ 65 ≤ ct) := by have := hsz.out; exact ⟨by omega, hgt2, hct⟩
 have c1 := hB3.out.cell 1
 clear hb3 ho3 hgt1 hgt2 hrt hct hT
 go_wp2_with ((with_reducible change wpList _ _ _ (⟨some 19, _, _, _, _, _⟩ :: _) _ _); refine wpList_append_src _ (o := ⟨some 19, _, _, _, _, _⟩) rfl (.tmp 16) (.tmp 18) 24 rfl 0 27 i0 (.slice none 0 0) 1 24 Tryz.underlying24 ii iz0 iz1 iz2 rfl (by decide) (.slice Av k cv) k xs rfl hO.out (some ⟨w3.heap.size, 0, none⟩) 1 1 [.slice (some ⟨gt, 0, none⟩) 65 ct] rfl hNw.out (fun e => by cases e) (Mem.one_one rfl) hm1.out hm2.out (Nat.zero_le _) ?_; intro v4 w4 hG; have hB4 : Blk w4 gc 322 #[.int .i64 s, .slice Av k cv] := Blk.grown (hB3.out.alloc _) hG.grow (fun e => hgr.out e); have d1 := hB4.cell 1; have f1 := hB4.frozen 1; have hR4 : Hid (Blk w4 (w.heap.size + 2) 23 Z32) := Blk.grown (hR3.out.alloc _) hG.grow (fun e => hrr2.out e); obtain ⟨A4, c4, rfl, -⟩ := Own.reads hG.own; replace hG := Lib.hid hG; replace hB4 := Lib.hid hB4)
 obtain ⟨r5, hC5, hK5, hr5⟩ := Clmb.step (q := q) (gt := gt) (ct := ct) hx.out hr.out hB.out.lt hbW.out hB3.out hv.out hrq.out ⟨by have := hgt.out; omega, hgt.out.2.1⟩ (by rw [hql.out]; exact hgt.out.2.2) (by rw [hql.out, hk.out]; exact hG.out) (by rw [hk.out]; exact (by have := hO0.out.1; simpa using this))
 have hR5 : Hid (Blk (w4.setCell ⟨gc, 1, none⟩ (.slice A4 (k + 1) c4)) (w.heap.size + 2) 23 Z32) := hR4.out.far (by have := hB.out.lt; show w.heap.size + 2 ≠ gc; omega) _
 have hbase : Hid (Base (w4.setCell ⟨gc, 1, none⟩ (.slice A4 (k + 1) c4))) := hBs.out.kept hK5 (fun h => by rcases h with h | h; have := hgb.out; omega; (have := (hr.out _ h.symm).1; have := hgb.out; omega))
 have e0 : (w4.setCell ⟨gc, 1, none⟩ (.slice A4 (k + 1) c4)).cell? ⟨gc, 0, none⟩ = some (.int .i64 s) := (hB4.out.set_ 1 _).cell 0
 have hCQ : Hid (Reads (w4.setCell ⟨gc, 1, none⟩ (.slice A4 (k + 1) c4)) 1 (some ⟨gt, 0, none⟩) 65 (cells8 q)) := by
  have h1 : Reads w4 1 (some ⟨gt, 0, none⟩) q.length (cells8 q) := (hrq.out.alloc (.cells #[.slice (some ⟨gt, 0, none⟩) 65 ct] 27)).keep hG.out.grow.size (fun b o e hb => by
   injection e with e
   injection e with e1 e2
   subst e1
   exact hG.out.grow.block _ hb (fun e => by have h2 : (Value.slice Av k cv).ownBlock = r := hv.out; rw [h2] at e; have := (hr.out _ e.symm).2; have := hgt.out; omega))
  rw [hql.out] at h1
  exact h1.setCell (fun b o e => by injection e with e; injection e with e1 e2; subst e1; have := hB.out.lt; have := hgt.out; show gt ≠ gc; omega) _
 replace hC5 := Lib.hid hC5
 replace hK5 := Lib.hid hK5
 replace hr5 := Lib.hid hr5
 clear hR4 hG hB4 d1 f1 c1 hO hNw hm1 hm2 hgr hrr2 hrq hB3 hR3
 generalize hw5 : w4.setCell ⟨gc, 1, none⟩ (.slice A4 (k + 1) c4) = w5 at *
 clear hw5
 have hc0 : Hid (∀ w', Below w5.heap.size w5 w' → w'.cell? ⟨gc, 0, none⟩ = some (.int .i64 s)) := fun w' hb => (hb.cell (p := ⟨gc, 0, none⟩) (World.block_lt_of_cell? w5 _ e0)).trans e0
 have hS : Hid (∀ w', Below w5.heap.size w5 w' → Calls Tryz.prog 114 #[.slice (some ⟨gt, 0, none⟩) 65 ct] w' fun e w'' => e = .returned (.agg (cells8 (sum q)).toArray) ∧ Below w'.heap.size w' w'') := fun w' hb => sumOf_any q 65 hql.out _ ct w' (hbase.out.below hb hbase.out.1) (by decide) (hCQ.out.below hb) hgt.out.2.2
 clear e0
 refine wp_region_class_tail 7 (Class w5) (by kernel_rfl) (by kernel_rfl) (Class.mk_ ((Below.refl _ _).drew)) ?_
 refine wpQuiet_move rfl (.tmp 7) rfl ?_
 (intro K k; go_simp; apply k; clear k K)
 refine wpQuiet_fn (v := .agg (cells8 (sum q)).toArray) (args := #[.slice (some ⟨gt, 0, none⟩) 65 ct]) rfl _ _ rfl rfl Tryz.func114 (by kernel_rfl) (by kernel_rfl) (fun w' hw' => (hS.out w' hw'.below).mono (fun e w'' ⟨he, hb⟩ => ⟨he, hw'.next hb⟩)) ?_
 (intro K k; go_simp; apply k; clear k K)
 refine wpQuiet_move rfl (.tmp 0) rfl ?_
 (intro K k; go_simp; apply k; clear k K)
 refine wpQuiet_val (v := .pointer (some ⟨gc, 0, none⟩)) rfl (fun w' hw' => by go_simp) ?_
 (intro K k; go_simp; apply k; clear k K)
 refine wpQuiet_val (v := .pointer (some ⟨gc, 0, none⟩)) rfl (fun w' hw' => by go_simp) ?_
 (intro K k; go_simp; apply k; clear k K)
 refine wpQuiet_val (v := .int .i64 s) rfl (fun w' hw' => by have hc := hc0.out w' hw'.below; go_simp) ?_
 (intro K k; go_simp; apply k; clear k K)
 refine wpQuiet_fn (v := .agg (cells8 z).toArray) (args := #[.agg (cells8 (sum q)).toArray, .int .i64 s]) rfl _ _ rfl rfl Tryz.func113 (by kernel_rfl) (by kernel_rfl) (fun w' hw' => (hCu.out w').mono (fun e w'' ⟨he, hb⟩ => ⟨he, hw'.next hb⟩)) ?_
 (intro K k; go_simp; apply k; clear k K)
 refine wpQuiet_nil ?_
 intro w6 hw6
 have hR6 : Hid (Blk w6 (w.heap.size + 2) 23 Z32) := (hw6.below.block _ hR5.out.lt).trans hR5.out
 have hb6 := Lib.hid hw6.below
 simp only [List.drop]
 go_wp2_with ((with_reducible change wpList _ _ _ ({ dst := none, op := Op.store 23 _ _, type := _, pos := _, after := _, guard := _ } :: _) _ _); refine wpList_store_row (o := ⟨none, _, _, _, _, _⟩) rfl 23 (.tmp 6) (.tmp 28) rfl (w.heap.size + 2) ((cells8 z).toArray) rfl rfl 23 (Z32) hR6.out F.out.size F.out.zero F.out.one ?_)
 refine bodyPost_ret (results_cell_row rfl _ _ (w.heap.size + 2) 23 (cells8 z).toArray (0, 0) _ rfl (setRow_heap _ _ _ _ _ _ hR6.out) Tryz.underlying23 rfl F.out.size) rfl ?_
 refine ⟨by rw [hz.out], r5, ?_, ?_, ?_⟩
 ·rw [hq.out]
  have hk7 : Kept (· = w.heap.size + 2) w5 (w6.setRow (w.heap.size + 2) (cells8 z).toArray) := Bytes.Kept.setRow (S := fun i => i = w.heap.size + 2) (Kept.of_below hb6.out) rfl _
  refine (hC5.out).kept (hk7.mono (fun i _ hi => by rw [hi]; have := hgt.out; exact ⟨by omega, by omega⟩)) (fun h => by have := hB.out.lt; omega) (fun j e h => ?_)
  rcases hr5.out with h1 | ⟨j', h1, h2⟩
  ·rw [h1] at e; have := (hr.out j e).2; omega
  ·rw [h1] at e; have := Option.some.inj e; have := hgt.out; omega
 ·refine hK5.out.trans (T := fun i => i = w.heap.size + 2) (Bytes.Kept.setRow (S := fun i => i = w.heap.size + 2) (Kept.of_below hb6.out) rfl _) (fun i hi h => by omega)
 ·rcases hr5.out with h1 | ⟨j', h1, h2⟩
  ·exact .inl h1
  ·exact .inr ⟨j', h1, by have := hbW.out.size; omega⟩
end Go.Proofs.YtgldkfaiofkhbaaGreatDoor.NodeW

namespace Go.Proofs.YtgldkfaiofkhbaaGreatDoor.Climb
open Go Go.RowKit Go.Proofs.YtgldkfaiofkhbaaGreatDoor Digest Mem Sha Bytes HashMem DigestMem DigestTop RefTop TreeMath TreeMem TreeRoot TreeRefRoot Node Sides Way WayP

def climb1 (s : Int) (st : Text × List Text) (p : Bool × Text) : Text × List Text :=
 if p.1 then (ndOf s st.1 p.2, st.2 ++ [kb 1 :: (st.1 ++ p.2)]) else (ndOf s p.2 st.1, st.2 ++ [kb 1 :: (p.2 ++ st.1)])
def climbN (s : Int) (st : Text × List Text) (l : List (Bool × Text)) (j : Nat) : Text × List Text := (l.take j).foldl (climb1 s) st
theorem climbN_zero (s : Int) (st : Text × List Text) (l : List (Bool × Text)) : climbN s st l 0 = st := by simp [climbN]
theorem climbN_succ {s : Int} {st : Text × List Text} {l : List (Bool × Text)} {j : Nat} {p : Bool × Text} (h : l[j]? = some p) : climbN s st l (j + 1) = climb1 s (climbN s st l j) p := by
 simp [climbN, List.take_add_one, h]
theorem climb1_len {s : Int} {st : Text × List Text} {p : Bool × Text} : (climb1 s st p).1.length = 32 ∧ (climb1 s st p).2.length = st.2.length + 1 := by
 unfold climb1
 split <;> exact ⟨ndOf_len _ _ _, by simp⟩
theorem climbN_len {s : Int} {st : Text × List Text} {l : List (Bool × Text)} (h : st.1.length = 32) : ∀ j, j ≤ l.length → (climbN s st l j).1.length = 32 ∧ (climbN s st l j).2.length = st.2.length + j
 | 0, _ => by rw [climbN_zero]; exact ⟨h, rfl⟩
 | j + 1, hj => by
  rw [climbN_succ (List.getElem?_eq_getElem (show j < l.length by omega))]
  exact ⟨climb1_len.1, by rw [climb1_len.2, (climbN_len h j (by omega)).2]; omega⟩
theorem climbN_long {s : Int} {st : Text × List Text} {l : List (Bool × Text)} (h : st.1.length = 32) (h2 : ∀ q ∈ st.2, q.length = 65) (h3 : ∀ p ∈ l, p.2.length = 32) : ∀ j, j ≤ l.length → ∀ q ∈ (climbN s st l j).2, q.length = 65
 | 0, _ => by rw [climbN_zero]; exact h2
 | j + 1, hj => by
  intro q hq
  have hp := h3 _ (List.getElem_mem (show j < l.length by omega))
  have h1 := (climbN_len (s := s) (l := l) h j (by omega)).1
  rw [climbN_succ (List.getElem?_eq_getElem (show j < l.length by omega))] at hq
  unfold climb1 at hq
  split at hq <;> rcases List.mem_append.1 hq with h | h
  ·exact climbN_long ‹st.1.length = 32› h2 h3 j (by omega) q h
  ·obtain rfl := List.mem_singleton.1 h
   simp [h1, hp]
  ·exact climbN_long ‹st.1.length = 32› h2 h3 j (by omega) q h
  ·obtain rfl := List.mem_singleton.1 h
   simp [h1, hp]
def inclOf (s size i : Int) (leaf : Text) (ts ds : List Text) : Text × Int × List Text :=
 if insideB size i = false then (List.replicate 32 0, 60, ts)
 else if (sides size.toNat i.toNat).length ≠ ds.length then (List.replicate 32 0, 170, ts)
 else
  let c := climbN s (leaf, ts) ((sides size.toNat i.toNat).zip ds) ds.length
  (c.1, 0, c.2)
theorem ClAt.off {w : World} {gc b : Nat} {r : Option Nat} {s : Int} {ts : List Text} {T : TypeId} {cs : Array Value} (h : ClAt w gc r s ts) (hB : Blk w b T cs) (hl : ∀ q ∈ ts, cs.size < q.length) : ClAtM (· = b) w gc r s ts := by
 obtain ⟨v, xs, a1, a2, a3, a4, hx⟩ := h
 refine ⟨v, xs, a1, a2, a3, a4, fun i q hq => ?_⟩
 obtain ⟨g, c, b1, b2, b3, b4, b5, b6, -⟩ := hx i q hq
 refine ⟨g, c, b1, b2, b3, b4, b5, b6, fun e => ?_⟩
 subst e
 have hlen := hl q (List.mem_of_getElem? hq)
 obtain ⟨b', o, e1, -, e2⟩ := b3.at_ (by omega)
 injection e1 with e1
 injection e1 with e3 e4
 subst e3 e4
 have h1 : (cells8 q)[cs.size]? = some ((cells8 q)[cs.size]'(by simpa [cells8] using hlen)) := List.getElem?_eq_getElem _
 have h2 := e2 _ _ h1
 rw [hB.cell] at h2
 simp at h2
end Go.Proofs.YtgldkfaiofkhbaaGreatDoor.Climb

namespace Go.Proofs.YtgldkfaiofkhbaaGreatDoor.Incl
open Go Go.RowKit Go.Proofs.YtgldkfaiofkhbaaGreatDoor Digest Mem Sha ShaWalk Bytes HashMem DigestMem DigestTop RefTop QuietTail Grown Chain TreeMath TreeMem TreeRoot Go.Proofs.YtgldkfaiofkhbaaGreatDoor.Append Book TreeRefRoot Held DigestText Node NodeW Sides Way WayP RevP Climb

theorem results_cell_row2 {P : Program} {fn : Func} {p u : Tmp} {ty : TypeId} (h : fn.results = #[.cell p ty, .tmp u]) (tmps : Array Value) (w : World) (g : Nat) (t : TypeId) (cs : Array Value) (fr : Nat × Nat) (d : TypeDesc)
  (hp : tmps.getD p undef = .pointer (some ⟨g, 0, none⟩)) (hg : w.heap[g]? = some (.cells cs t fr))
  (hu : P.underlying ty = some d) (hd : (match d with | .struct _ | .array _ _ => true | _ => false) = true) (hi : (P.info? ty).map (·.size) = some cs.size) :
  (results fn tmps).run P w = .ok (.tuple #[.agg cs, tmps.getD u undef]) w := by
 have hp' : tmps[p]?.getD undef = .pointer (some ⟨g, 0, none⟩) := by simpa using hp
 simp [results, h, hp', asAddr, run_loadVar_row w g t ty cs fr d hg hu hd hi, Result.andThen]
structure IncAt (w1 wr : World) (gc : Nat) (r : Option Nat) (b8 : Nat) (s : Int) (st : Text × List Text) : Prop where
 leaf : Blk wr b8 23 (cells8 st.1).toArray
 cl : ∃ rj, ClAt wr gc rj s st.2 ∧ (rj = r ∨ ∃ k, rj = some k ∧ w1.heap.size ≤ k)
 kept : Kept (fun k => k = gc ∨ some k = r ∨ k = b8) w1 wr
theorem IncAt.step {w1 wr w4 w5 : World} {gc b8 : Nat} {r rj : Option Nat} {s : Int} {st st' : Text × List Text} (h : IncAt w1 wr gc r b8 s st) (hrj : rj = r ∨ ∃ k, rj = some k ∧ w1.heap.size ≤ k) (hb : Below wr.heap.size wr w4) (hC : Clmb w4 gc rj s st'.2 w5)
  (hl : ∀ q ∈ st'.2, q.length = 65) (h1 : st.1.length = 32) (hgc : gc < b8) (hr : ∀ k, r = some k → k < b8) (hb8 : b8 < w1.heap.size) : Blk w5 b8 23 (cells8 st.1).toArray ∧ IncAt w1 (w5.setRow b8 (cells8 st'.1).toArray) gc r b8 s st' := by
 obtain ⟨r', hC1, hK, hr'⟩ := hC
 have hs1 := h.kept.size
 have hs4 := hb.size
 have hrj8 : some b8 ≠ rj := fun e => by
  rcases hrj with h | ⟨k, h, hk⟩
  ·exact absurd (hr b8 (by rw [← h, e])) (by omega)
  ·rw [h] at e; have := Option.some.inj e; omega
 have hB4 : Blk w4 b8 23 (cells8 st.1).toArray := (hb.block b8 h.leaf.lt).trans h.leaf
 have hB5 : Blk w5 b8 23 (cells8 st.1).toArray := hB4.kept hK (fun h => by rcases h with h | h; omega; exact hrj8 h)
 have hr8 : ∀ k, r' = some k → ¬ k = b8 := fun k e h => by
  subst h
  rcases hr' with h | ⟨k', h, hk⟩
  ·exact hrj8 (by rw [← h, e])
  ·rw [h] at e; have := Option.some.inj e; omega
 refine ⟨hB5, setRow_heap _ _ _ _ _ _ hB5, ⟨r', (ClAt.off hC1 hB5 (fun q hq => by rw [hl q hq]; simp [cells8_len, h1])).kept (Bytes.Kept.setRow (S := fun i => i = b8) (Kept.refl _ _) rfl _) (by omega) hr8, ?_⟩, ?_⟩
 ·rcases hr' with h | ⟨k', h, hk⟩
  ·rw [h]; exact hrj
  ·exact .inr ⟨k', h, by omega⟩
 ·refine Bytes.Kept.setRow (S := fun k => k = gc ∨ some k = r ∨ k = b8) ((h.kept.trans (T := fun _ => False) (Kept.of_below hb) (fun _ _ h => h.elim)).trans hK (fun i hi h => ?_)) (.inr (.inr rfl)) _
  rcases h with h | h
  ·exact .inl h
  ·rcases hrj with h2 | ⟨k, h2, hk⟩
   ·exact .inr (.inl (by rw [h, h2]))
   ·rw [h2] at h; have := Option.some.inj h; omega

theorem size32' : (Tryz.prog.info? 23).map (·.size) = some (Z32 : Array Value).size := by kernel_rfl
theorem one32 : ((Z32 : Array Value).all fun v => v.oneCell') = true := by kernel_rfl

set_option maxRecDepth 100000 in
set_option maxHeartbeats 1000000 in
theorem incl_out (gc : Nat) (size i : Int) (leaf : Text) (A : Option Addr) (n c : Nat) (w : World) (hin : insideB size i = false) :
  Calls Tryz.prog 222 #[.pointer (some ⟨gc, 0, none⟩), .int .i64 size, .int .i64 i, .agg (cells8 leaf).toArray, .slice A n c] w fun e w' => e = .returned (.tuple #[.agg Z32, .int .i64 60]) ∧ Below w.heap.size w w' := by
 have hb2 : Hid (Below w.heap.size w ((w.alloc (.cells (cells8 leaf).toArray 23)).alloc (.cells Z32 23))) := (Below.heap_below w _).alloc (by simp) _
 have hB2 : Hid (Blk ((w.alloc (.cells (cells8 leaf).toArray 23)).alloc (.cells Z32 23)) (w.heap.size + 1) 23 Z32) := by
  have := Blk.new (w.alloc (.cells (cells8 leaf).toArray 23)) 23 Z32
  rwa [show (w.alloc (.cells (cells8 leaf).toArray 23)).heap.size = w.heap.size + 1 by simp] at this
 replace hin := Lib.hid hin
 go_enter Tryz.func222, Tryz.ntmps222
 go_wp2_with fail
 refine (inside_any size i _).mono ?_
 rw [hin.out]
 rintro e w2 ⟨rfl, rfl⟩
 go_wp2_with ((with_reducible change wpList _ _ _ ({ dst := none, op := Op.store 23 _ _, type := _, pos := _, after := _, guard := _ } :: _) _ _); refine wpList_store_row (o := ⟨none, _, _, _, _, _⟩) rfl 23 (.tmp 10) (.tmp 19) rfl (w.heap.size + 1) (Z32) rfl rfl 23 (Z32) hB2.out size32' rfl one32 ?_)
 refine bodyPost_ret (results_cell_row2 rfl _ _ (w.heap.size + 1) 23 Z32 (0, 0) _ rfl (setRow_heap _ _ _ _ _ _ hB2.out) Tryz.underlying23 rfl size32') rfl ?_
 exact ⟨rfl, below_setRow hb2.out (by omega) _⟩

set_option maxRecDepth 100000 in
set_option maxHeartbeats 1000000 in
theorem incl_len (gc : Nat) (size i : Nat) (hs : size ≤ 1099511627776) (hi : i < size) (leaf : Text) (A : Option Addr) (n c : Nat) (w : World) (hne : (sides size i).length ≠ n) :
  Calls Tryz.prog 222 #[.pointer (some ⟨gc, 0, none⟩), .int .i64 (size : Int), .int .i64 (i : Int), .agg (cells8 leaf).toArray, .slice A n c] w fun e w' => e = .returned (.tuple #[.agg Z32, .int .i64 170]) ∧ Below w.heap.size w w' := by
 have hb2 : Hid (Below w.heap.size w ((w.alloc (.cells (cells8 leaf).toArray 23)).alloc (.cells Z32 23))) := (Below.heap_below w _).alloc (by simp) _
 have hz2 : Hid (((w.alloc (.cells (cells8 leaf).toArray 23)).alloc (.cells Z32 23)).heap.size = w.heap.size + 2) := by show _ = _; simp
 have hB2 : Hid (Blk ((w.alloc (.cells (cells8 leaf).toArray 23)).alloc (.cells Z32 23)) (w.heap.size + 1) 23 Z32) := by
  have := Blk.new (w.alloc (.cells (cells8 leaf).toArray 23)) 23 Z32
  rwa [show (w.alloc (.cells (cells8 leaf).toArray 23)).heap.size = w.heap.size + 1 by simp] at this
 have hL2 : Hid (Blk ((w.alloc (.cells (cells8 leaf).toArray 23)).alloc (.cells Z32 23)) w.heap.size 23 (cells8 leaf).toArray) := (Blk.new w 23 (cells8 leaf).toArray).alloc _
 have hin : Hid (insideB (size : Int) (i : Int) = true) := by
  show _ = _
  have h1 : (1 : Int) ≤ size := by omega
  have h2 : (size : Int) ≤ 1099511627776 := by omega
  have h3 : (0 : Int) ≤ i := by omega
  have h4 : (i : Int) < size := by omega
  simp [insideB, h1, h2, h3, h4]
 have hW : Hid (Calls Tryz.prog 269 #[.int .i64 (size : Int), .int .i64 (i : Int)] ((w.alloc (.cells (cells8 leaf).toArray 23)).alloc (.cells Z32 23)) fun e w' => ∃ (v : Value) (ps : List (Nat × Nat)), e = .returned v ∧ ps.map (sd i) = sides size i ∧ w'.ownsRow (w.heap.size + 2) 380 2 v ps.length (flatP ps) ∧ Below (w.heap.size + 2) ((w.alloc (.cells (cells8 leaf).toArray 23)).alloc (.cells Z32 23)) w') := by
  have := way_loop size i hs hi ((w.alloc (.cells (cells8 leaf).toArray 23)).alloc (.cells Z32 23))
  rwa [hz2.out] at this
 replace hne := Lib.hid hne
 clear hs hi
 go_enter Tryz.func222, Tryz.ntmps222
 go_wp2_with fail
 refine (inside_any (size : Int) (i : Int) _).mono ?_
 rw [hin.out]
 rintro e w2 ⟨rfl, rfl⟩
 go_wp2_with fail
 refine hW.out.mono ?_
 rintro e w3 ⟨v, ps, rfl, hps, ho, hb3⟩
 obtain ⟨Ap, cp, rfl, hcp, hcm, hlp, hR3, hApB⟩ := Own.reads ho
 have hpl : ps.length = (sides size i).length := by rw [← hps, List.length_map]
 have y1 : ((ps.length : Int) == (n : Int)) = false := beq_eq_false_iff_ne.2 (by have := hne.out; omega)
 have y2 : ¬ ((ps.length : Int) = (n : Int)) := by have := hne.out; omega
 have hB3 : Hid (Blk w3 (w.heap.size + 1) 23 Z32) := (hb3.block _ (by have := hz2.out; omega)).trans hB2.out
 have hb3' : Hid (Below w.heap.size w w3) := hb2.out.trans (hb3.mono (by omega))
 clear hR3 hApB hps ho hb3 hpl
 go_wp2_with ((with_reducible change wpList _ _ _ ({ dst := none, op := Op.store 23 _ _, type := _, pos := _, after := _, guard := _ } :: _) _ _); refine wpList_store_row (o := ⟨none, _, _, _, _, _⟩) rfl 23 (.tmp 10) (.tmp 28) rfl (w.heap.size + 1) (Z32) rfl rfl 23 (Z32) hB3.out size32' rfl one32 ?_)
 refine bodyPost_ret (results_cell_row2 rfl _ _ (w.heap.size + 1) 23 Z32 (0, 0) _ rfl (setRow_heap _ _ _ _ _ _ hB3.out) Tryz.underlying23 rfl size32') rfl ?_
 exact ⟨rfl, below_setRow hb3'.out (by omega) _⟩

theorem oneP (p : Nat × Nat) : ((pcells p).toArray.all fun v => v.oneCell') = true := by rw [List.all_toArray]; rfl
set_option maxRecDepth 100000 in
set_option maxHeartbeats 1000000 in
theorem incl_ok (gc : Nat) (r : Option Nat) (s : Int) (ts : List Text) (size i : Nat) (hs : size ≤ 1099511627776) (hi : i < size) (leaf : Text) (hl : leaf.length = 32) (ds : List Text) (A : Option Addr) (n c : Nat) (w : World) (hBs : Base w) (hgb : 1 < gc) (hcl : ClAt w gc r s ts)
  (hts : ∀ q ∈ ts, q.length = 65) (htn : ts.length + n < 1099511627776) (hr : RdD w A n ds) (hA : 0 < n → ∀ b o, A = some ⟨b, o, none⟩ → b ≠ gc ∧ some b ≠ r) (hn : (sides size i).length = n) :
  Calls Tryz.prog 222 #[.pointer (some ⟨gc, 0, none⟩), .int .i64 (size : Int), .int .i64 (i : Int), .agg (cells8 leaf).toArray, .slice A n c] w fun e w' => e = .returned (.tuple #[.agg (cells8 (climbN s (leaf, ts) ((sides size i).zip ds) n).1).toArray, .int .i64 0]) ∧ Clmb w gc r s (climbN s (leaf, ts) ((sides size i).zip ds) n).2 w' := by
 have hb2 : Hid (Below w.heap.size w ((w.alloc (.cells (cells8 leaf).toArray 23)).alloc (.cells Z32 23))) := (Below.heap_below w _).alloc (by simp) _
 have hz2 : Hid (((w.alloc (.cells (cells8 leaf).toArray 23)).alloc (.cells Z32 23)).heap.size = w.heap.size + 2) := by show _ = _; simp
 have hB2 : Hid (Blk ((w.alloc (.cells (cells8 leaf).toArray 23)).alloc (.cells Z32 23)) (w.heap.size + 1) 23 Z32) := by
  have := Blk.new (w.alloc (.cells (cells8 leaf).toArray 23)) 23 Z32
  rwa [show (w.alloc (.cells (cells8 leaf).toArray 23)).heap.size = w.heap.size + 1 by simp] at this
 have hL2 : Hid (Blk ((w.alloc (.cells (cells8 leaf).toArray 23)).alloc (.cells Z32 23)) w.heap.size 23 (cells8 leaf).toArray) := (Blk.new w 23 (cells8 leaf).toArray).alloc _
 have hin : Hid (insideB (size : Int) (i : Int) = true) := by
  show _ = _
  have h1 : (1 : Int) ≤ size := by omega
  have h2 : (size : Int) ≤ 1099511627776 := by omega
  have h3 : (0 : Int) ≤ i := by omega
  have h4 : (i : Int) < size := by omega
  simp [insideB, h1, h2, h3, h4]
 have hW : Hid (Calls Tryz.prog 269 #[.int .i64 (size : Int), .int .i64 (i : Int)] ((w.alloc (.cells (cells8 leaf).toArray 23)).alloc (.cells Z32 23)) fun e w' => ∃ (v : Value) (ps : List (Nat × Nat)), e = .returned v ∧ ps.map (sd i) = sides size i ∧ w'.ownsRow (w.heap.size + 2) 380 2 v ps.length (flatP ps) ∧ Below (w.heap.size + 2) ((w.alloc (.cells (cells8 leaf).toArray 23)).alloc (.cells Z32 23)) w') := by
  have := way_loop size i hs hi ((w.alloc (.cells (cells8 leaf).toArray 23)).alloc (.cells Z32 23))
  rwa [hz2.out] at this
 have hg8 : Hid (gc < w.heap.size) := by obtain ⟨v, xs, hB, -⟩ := hcl; exact hB.lt
 have hrg : Hid (∀ k, r = some k → gc < k ∧ k < w.heap.size) := by obtain ⟨v, xs, -, -, -, h, -⟩ := hcl; exact h
 have hr8 : Hid (∀ k, r = some k → k < w.heap.size) := fun k e => (hrg.out k e).2
 have hnr : Hid (¬ ((fun k => k = gc ∨ some k = r) 1)) := fun h => by rcases h with h | h; omega; (have := (hrg.out _ h.symm).1; omega)
 have hzl : Hid (((sides size i).zip ds).length = n) := by show _ = _; rw [List.length_zip, hn, hr.1]; omega
 have hdl0 := hr.2.1
 have hlong : Hid (∀ j, j ≤ n → ∀ q ∈ (climbN s (leaf, ts) ((sides size i).zip ds) j).2, q.length = 65) := fun j hj => climbN_long hl hts (fun p hp => hdl0 _ (List.of_mem_zip (show (p.1, p.2) ∈ _ from hp)).2) j (by rw [hzl.out]; exact hj)
 have hlen : Hid (∀ j, j ≤ n → (climbN s (leaf, ts) ((sides size i).zip ds) j).1.length = 32 ∧ (climbN s (leaf, ts) ((sides size i).zip ds) j).2.length = ts.length + j) := fun j hj => climbN_len hl j (by rw [hzl.out]; exact hj)
 replace hBs := Lib.hid hBs
 replace hgb := Lib.hid hgb
 replace htn := Lib.hid htn
 replace hn := Lib.hid hn
 replace hA := Lib.hid hA
 replace hr := Lib.hid hr
 replace hcl := Lib.hid hcl
 replace hs := Lib.hid hs
 clear hi hts hl hdl0
 go_enter Tryz.func222, Tryz.ntmps222
 go_wp2_with fail
 refine (inside_any (size : Int) (i : Int) _).mono ?_
 rw [hin.out]
 rintro e w2 ⟨rfl, rfl⟩
 go_wp2_with fail
 refine hW.out.mono ?_
 rintro e w3 ⟨v, ps, rfl, hps, ho, hb3⟩
 obtain ⟨Ap, cp, rfl, hcp, hcm, hlp, hR3, hApB⟩ := Own.reads ho
 have hpl : ps.length = (sides size i).length := by rw [← hps, List.length_map]
 have hpn : ps.length = n := by rw [hpl, hn.out]
 rw [hpn] at hR3 hcp hlp
 rw [hpn]
 clear hpl hn
 replace hpn := Lib.hid hpn
 have y1 : ((n : Int) == (n : Int)) = true := beq_self_eq_true _
 have hB3 : Hid (Blk w3 (w.heap.size + 1) 23 Z32) := (hb3.block _ (by omega)).trans hB2.out
 have hL3 : Hid (Blk w3 w.heap.size 23 (cells8 leaf).toArray) := (hb3.block _ (by omega)).trans hL2.out
 have hs3 : Hid (w.heap.size + 2 ≤ w3.heap.size) := by have := hb3.size; have := hz2.out; show _ ≤ _; omega
 have hb3' : Hid (Below w.heap.size w w3) := hb2.out.trans (hb3.mono (by omega))
 have hI0 : Hid (IncAt w3 w3 gc r w.heap.size s (climbN s (leaf, ts) ((sides size i).zip ds) 0)) := by
  show IncAt _ _ _ _ _ _ _
  rw [climbN_zero]
  exact ⟨hL3.out, ⟨r, ClAtM.kept hcl.out (Kept.of_below hb3'.out) (fun h => h) (fun _ _ h => h), .inl rfl⟩, Kept.refl _ _⟩
 replace hR3 := Lib.hid hR3
 replace hApB := Lib.hid hApB
 replace hps := Lib.hid hps
 clear ho hb3 hB2 hL2 hb2 hL3 hcl hcp hcm hlp hin hW
 have y2 : (n : Int) ≤ 1099511627776 := by have := htn.out; omega
 go_wp2_with fail
 go_loopw [31] (fun v wr => ∃ j : Nat, v = .int .i64 (j : Int) ∧ j ≤ n ∧ Hid (IncAt w3 wr gc r w.heap.size s (climbN s (leaf, ts) ((sides size i).zip ds) j))) (fun v _ => (n - intOf v).toNat)
 case atStart => exact ⟨0, rfl, Nat.zero_le _, hI0.out⟩
 case round =>
  clear hI0
  obtain ⟨j, rfl, hj, hI⟩ := hrel
  have hkw : Hid (Kept (fun k => k = gc ∨ some k = r) w wr) := (Kept.of_below hb3'.out).trans hI.out.kept (fun k hk h => by rcases h with h | h | h; exact .inl h; exact .inr h; omega)
  have hres : Hid (Blk wr (w.heap.size + 1) 23 Z32) := hB3.out.kept hI.out.kept (fun h => by have := hg8.out; rcases h with h | h | h; omega; (have := hr8.out _ h.symm; omega); omega)
  by_cases hlt : j < n
  ·obtain ⟨p, hp⟩ : ∃ p, ps[j]? = some p := ⟨_, List.getElem?_eq_getElem (by have := hpn.out; omega)⟩
   obtain ⟨d, hd⟩ : ∃ d, ds[j]? = some d := ⟨_, List.getElem?_eq_getElem (by have := hr.out.1; omega)⟩
   have hzj : ((sides size i).zip ds)[j]? = some (sd i p, d) := List.getElem?_zip_eq_some.2 ⟨by rw [← hps.out, List.getElem?_map, hp]; rfl, hd⟩
   have hst' := climbN_succ (s := s) (st := (leaf, ts)) hzj
   have hlj := hlen.out j hj
   obtain ⟨st, hst⟩ : ∃ st, climbN s (leaf, ts) ((sides size i).zip ds) j = st := ⟨_, rfl⟩
   rw [hst] at hst' hlj hI
   have hst1 := Lib.hid hlj.1
   have hst2 := Lib.hid hlj.2
   have hdl := Lib.hid (hr.out.2.1.at_ hd)
   have Fs := Lib.hid (fit (x := st.1) hst1.out)
   have Fd := Lib.hid (fit (x := d) hdl.out)
   obtain ⟨rj, hCj, hrj⟩ := hI.out.cl
   replace hCj := Lib.hid hCj
   replace hrj := Lib.hid hrj
   obtain ⟨bp, op, rfl, hbp, hpc0⟩ := hR3.out.at_ (by omega)
   have hpB := (hApB.out _ rfl).1
   have hpc : Hid (∀ k v, (pcells p)[k]? = some v → wr.cell? ⟨bp, op + j * 2 + k, none⟩ = some v) := fun k v hv => by
    have h1 := flatP_at ps [] j p hp k v hv
    rw [List.append_nil, List.getElem?_toArray] at h1
    have h2 := hpc0 _ v h1
    rw [← Nat.add_assoc] at h2
    exact (hI.out.kept.cell (p := ⟨bp, op + j * 2 + k, none⟩) hbp (fun h => by have h3 : w.heap.size + 2 ≤ bp := hpB; have := hg8.out; rcases h with h | h | h; (have h : bp = gc := h; omega); (have := hr8.out bp h.symm; omega); (have h : bp = w.heap.size := h; omega))).trans h2
   obtain ⟨b, o, rfl, hbb, hdc0⟩ := hr.out.at_ hd
   have hbw : b < w.heap.size := hbb
   have hdc : Hid (∀ w', Below wr.heap.size wr w' → ∀ k v, (cells8 d)[k]? = some v → w'.cell? ⟨b, o + j * 32 + k, none⟩ = some v) := fun w' hb k v hv => ((hkw.out.trans (T := fun _ => False) (Kept.of_below hb) (fun _ _ h => h.elim)).cell (p := ⟨b, o + j * 32 + k, none⟩) hbw (fun h => by have h2 := hA.out (by omega) b o rfl; rcases h with h | h; exact h2.1 h; exact h2.2 h)).trans (hdc0 k v hv)
   have hjn : Hid (j + 1 ≤ n) := hlt
   have z1 : (0 : Int) ≤ (j : Int) := by omega
   have z2 : (j : Int) < (n : Int) := by omega
   clear hj hlt hp hd hzj hlj hpc0 hdc0 hbb hbp hpB hst
   by_cases hside : i < p.1
   ·have hz' : Hid (climbN s (leaf, ts) ((sides size i).zip ds) (j + 1) = (ndOf s st.1 d, st.2 ++ [kb 1 :: (st.1 ++ d)])) := by
     show _ = _
     rw [hst', climb1]
     simp [sd, hside]
    obtain ⟨z, hz⟩ : ∃ z, Hid (ndOf s st.1 d = z) := ⟨_, Lib.hid rfl⟩
    have F := Lib.hid (fit (x := z) (by rw [← hz.out]; exact ndOf_len s _ _))
    have zt : (i : Int) < (p.1 : Int) := by omega
    clear hside hst'
    go_wp2_with (first
     | ((with_reducible change wpList _ _ _ (⟨some 35, _, _, _, _, _⟩ :: _) _ _); refine wpList_load_part (o := ⟨some 35, _, _, _, _, _⟩) rfl 380 (.tmp 34) rfl (bp) (op + j * 2) rfl (pcells p) _ hpc.out Tryz.underlying380 rfl sizeP ?_)
     | ((with_reducible change wpList _ _ _ ({ dst := none, op := Op.store 380 (.tmp 14) _, type := _, pos := _, after := _, guard := _ } :: _) _ _); refine wpList_store_whole (o := ⟨none, _, _, _, _, _⟩) rfl 380 (.tmp 14) (.tmp 35) rfl (wr.heap.size) ((pcells p).toArray) rfl rfl 380 (#[.int .i64 0, .int .i64 0]) (Blk.new wr _ _) sizeP rfl (oneP p) ?_; intro w4 hB4 hk4; have e0 : w4.cell? ⟨wr.heap.size, 0, none⟩ = some (.int .i64 (p.1 : Int)) := hB4.cell 0; have hb4 : Hid (Below wr.heap.size wr w4) := (Below.heap_below wr _).trans ((Bytes.Kept.below_of hk4 (Nat.le_refl _) (by simp))); have hL4 : Hid (Blk w4 w.heap.size 23 (cells8 st.1).toArray) := (hb4.out.block _ hI.out.leaf.lt).trans hI.out.leaf; replace hdc := Lib.hid (fun w' (hb : Below w4.heap.size w4 w') => hdc.out w' (hb4.out.trans (hb.mono hb4.out.size))); clear hk4 hB4))
    refine wp_region_class_tail 6 (Class w4) (by kernel_rfl) (by kernel_rfl) (Class.mk_ ((Below.refl _ _).drew)) ?_
    refine wpQuiet_move rfl (.tmp 0) rfl ?_
    (intro K k; go_simp; apply k; clear k K)
    refine wpQuiet_load_row rfl 23 (.tmp 8) rfl w.heap.size rfl 23 ((cells8 st.1).toArray) (0, 0) _ (fun w' hw' => (hw'.below.block _ hL4.out.lt).trans hL4.out) Tryz.underlying23 rfl Fs.out.size ?_
    (intro K k; go_simp; apply k; clear k K)
    refine wpQuiet_move rfl (.tmp 4) rfl ?_
    (intro K k; go_simp; apply k; clear k K)
    refine wpQuiet_move rfl (.tmp 13) rfl ?_
    (intro K k; go_simp; apply k; clear k K)
    refine wpQuiet_val (v := .pointer (some ⟨b, o + j * 32, none⟩)) rfl (fun w' hw' => by go_simp) ?_
    (intro K k; go_simp; apply k; clear k K)
    refine wpQuiet_load_part rfl 23 (.tmp 44) rfl b (o + j * 32) rfl (cells8 d) _ (fun w' hw' => hdc.out w' hw'.below) Tryz.underlying23 rfl Fd.out.part ?_
    (intro K k; go_simp; apply k; clear k K)
    refine wpQuiet_nil ?_
    intro w6 hw6
    have hb6 : Hid (Below wr.heap.size wr w6) := hb4.out.trans (hw6.below.mono hb4.out.size)
    have hk6 : Hid (Kept (fun k => k = gc ∨ some k = r) w w6) := hkw.out.trans (T := fun _ => False) (Kept.of_below hb6.out) (fun _ _ h => h.elim)
    simp only [List.drop]
    go_wp2_with fail
    refine (node_walk gc rj s st.2 st.1 d hst1.out hdl.out w6 (hBs.out.kept hk6.out hnr.out) hgb.out (ClAtM.kept hCj.out (Kept.of_below hb6.out) (fun h => h) (fun _ _ h => h)) (by have := hst2.out; have := htn.out; have := hjn.out; omega)).mono ?_
    rw [hz.out]
    rintro e w7 ⟨rfl, hC7⟩
    obtain ⟨hB7, hI7⟩ := IncAt.step (st' := (z, st.2 ++ [kb 1 :: (st.1 ++ d)])) hI.out hrj.out hb6.out hC7 (by have h := hlong.out (j + 1) hjn.out; rw [hz'.out] at h; exact h) hst1.out hg8.out hr8.out (by have := hs3.out; omega)
    rw [hz.out] at hz'
    replace hI7 := Lib.hid hI7
    replace hB7 := Lib.hid hB7
    have hq := Lib.hid (F.out.same st.1 hst1.out)
    clear hC7
    go_wp2_with ((with_reducible change wpList _ _ _ ({ dst := none, op := Op.store 23 _ _, type := _, pos := _, after := _, guard := _ } :: _) _ _); refine wpList_store_row (o := ⟨none, _, _, _, _, _⟩) rfl 23 (.tmp 8) (.tmp 46) rfl (w.heap.size) ((cells8 z).toArray) rfl rfl 23 ((cells8 st.1).toArray) hB7.out F.out.size hq.out F.out.one ?_)
    go_roundw
    case rel => exact ⟨j + 1, by go_num, hjn.out, (by show IncAt _ _ _ _ _ _ _; rw [hz'.out]; exact hI7.out)⟩
    case measure => (have := hjn.out; simp [intOf]; omega)
   ·have hz' : Hid (climbN s (leaf, ts) ((sides size i).zip ds) (j + 1) = (ndOf s d st.1, st.2 ++ [kb 1 :: (d ++ st.1)])) := by
     show _ = _
     rw [hst', climb1]
     simp [sd, hside]
    obtain ⟨z, hz⟩ : ∃ z, Hid (ndOf s d st.1 = z) := ⟨_, Lib.hid rfl⟩
    have F := Lib.hid (fit (x := z) (by rw [← hz.out]; exact ndOf_len s _ _))
    have zt : ¬ ((i : Int) < (p.1 : Int)) := by omega
    clear hside hst'
    go_wp2_with (first
     | ((with_reducible change wpList _ _ _ (⟨some 35, _, _, _, _, _⟩ :: _) _ _); refine wpList_load_part (o := ⟨some 35, _, _, _, _, _⟩) rfl 380 (.tmp 34) rfl (bp) (op + j * 2) rfl (pcells p) _ hpc.out Tryz.underlying380 rfl sizeP ?_)
     | ((with_reducible change wpList _ _ _ ({ dst := none, op := Op.store 380 (.tmp 14) _, type := _, pos := _, after := _, guard := _ } :: _) _ _); refine wpList_store_whole (o := ⟨none, _, _, _, _, _⟩) rfl 380 (.tmp 14) (.tmp 35) rfl (wr.heap.size) ((pcells p).toArray) rfl rfl 380 (#[.int .i64 0, .int .i64 0]) (Blk.new wr _ _) sizeP rfl (oneP p) ?_; intro w4 hB4 hk4; have e0 : w4.cell? ⟨wr.heap.size, 0, none⟩ = some (.int .i64 (p.1 : Int)) := hB4.cell 0; have hb4 : Hid (Below wr.heap.size wr w4) := (Below.heap_below wr _).trans ((Bytes.Kept.below_of hk4 (Nat.le_refl _) (by simp))); have hL4 : Hid (Blk w4 w.heap.size 23 (cells8 st.1).toArray) := (hb4.out.block _ hI.out.leaf.lt).trans hI.out.leaf; replace hdc := Lib.hid (fun w' (hb : Below w4.heap.size w4 w') => hdc.out w' (hb4.out.trans (hb.mono hb4.out.size))); clear hk4 hB4))
    refine wp_region_class_tail 6 (Class w4) (by kernel_rfl) (by kernel_rfl) (Class.mk_ ((Below.refl _ _).drew)) ?_
    refine wpQuiet_move rfl (.tmp 0) rfl ?_
    (intro K k; go_simp; apply k; clear k K)
    refine wpQuiet_move rfl (.tmp 4) rfl ?_
    (intro K k; go_simp; apply k; clear k K)
    refine wpQuiet_move rfl (.tmp 13) rfl ?_
    (intro K k; go_simp; apply k; clear k K)
    refine wpQuiet_val (v := .pointer (some ⟨b, o + j * 32, none⟩)) rfl (fun w' hw' => by go_simp) ?_
    (intro K k; go_simp; apply k; clear k K)
    refine wpQuiet_load_part rfl 23 (.tmp 50) rfl b (o + j * 32) rfl (cells8 d) _ (fun w' hw' => hdc.out w' hw'.below) Tryz.underlying23 rfl Fd.out.part ?_
    (intro K k; go_simp; apply k; clear k K)
    refine wpQuiet_load_row rfl 23 (.tmp 8) rfl w.heap.size rfl 23 ((cells8 st.1).toArray) (0, 0) _ (fun w' hw' => (hw'.below.block _ hL4.out.lt).trans hL4.out) Tryz.underlying23 rfl Fs.out.size ?_
    (intro K k; go_simp; apply k; clear k K)
    refine wpQuiet_nil ?_
    intro w6 hw6
    have hb6 : Hid (Below wr.heap.size wr w6) := hb4.out.trans (hw6.below.mono hb4.out.size)
    have hk6 : Hid (Kept (fun k => k = gc ∨ some k = r) w w6) := hkw.out.trans (T := fun _ => False) (Kept.of_below hb6.out) (fun _ _ h => h.elim)
    simp only [List.drop]
    go_wp2_with fail
    refine (node_walk gc rj s st.2 d st.1 hdl.out hst1.out w6 (hBs.out.kept hk6.out hnr.out) hgb.out (ClAtM.kept hCj.out (Kept.of_below hb6.out) (fun h => h) (fun _ _ h => h)) (by have := hst2.out; have := htn.out; have := hjn.out; omega)).mono ?_
    rw [hz.out]
    rintro e w7 ⟨rfl, hC7⟩
    obtain ⟨hB7, hI7⟩ := IncAt.step (st' := (z, st.2 ++ [kb 1 :: (d ++ st.1)])) hI.out hrj.out hb6.out hC7 (by have h := hlong.out (j + 1) hjn.out; rw [hz'.out] at h; exact h) hst1.out hg8.out hr8.out (by have := hs3.out; omega)
    rw [hz.out] at hz'
    replace hI7 := Lib.hid hI7
    replace hB7 := Lib.hid hB7
    have hq := Lib.hid (F.out.same st.1 hst1.out)
    clear hC7
    go_wp2_with ((with_reducible change wpList _ _ _ ({ dst := none, op := Op.store 23 _ _, type := _, pos := _, after := _, guard := _ } :: _) _ _); refine wpList_store_row (o := ⟨none, _, _, _, _, _⟩) rfl 23 (.tmp 8) (.tmp 53) rfl (w.heap.size) ((cells8 z).toArray) rfl rfl 23 ((cells8 st.1).toArray) hB7.out F.out.size hq.out F.out.one ?_)
    go_roundw
    case rel => exact ⟨j + 1, by go_num, hjn.out, (by show IncAt _ _ _ _ _ _ _; rw [hz'.out]; exact hI7.out)⟩
    case measure => (have := hjn.out; simp [intOf]; omega)
  ·obtain rfl : j = n := by omega
   have z2 : ¬ ((j : Int) < (j : Int)) := by omega
   have hlj := Lib.hid (hlen.out j hj)
   have hlg := Lib.hid (hlong.out j hj)
   obtain ⟨st, hst⟩ : ∃ st, climbN s (leaf, ts) ((sides size i).zip ds) j = st := ⟨_, rfl⟩
   rw [hst] at hI hlj hlg
   have F := Lib.hid (fit (x := st.1) hlj.out.1)
   have hI1 := Lib.hid hI.out.leaf
   clear hj hlt
   go_wp2_with (first
    | ((with_reducible change wpList _ _ _ (⟨some 55, _, _, _, _, _⟩ :: _) _ _); refine wpList_load_row (o := ⟨some 55, _, _, _, _, _⟩) rfl 23 (.tmp 8) rfl (w.heap.size) rfl 23 ((cells8 st.1).toArray) (0, 0) _ hI1.out Tryz.underlying23 rfl F.out.size ?_)
    | ((with_reducible change wpList _ _ _ ({ dst := none, op := Op.store 23 _ _, type := _, pos := _, after := _, guard := _ } :: _) _ _); refine wpList_store_row (o := ⟨none, _, _, _, _, _⟩) rfl 23 (.tmp 10) (.tmp 55) rfl (w.heap.size + 1) ((cells8 st.1).toArray) rfl rfl 23 (Z32) hres.out F.out.size F.out.zero F.out.one ?_))
   refine bodyPost_ret (results_cell_row2 rfl _ _ (w.heap.size + 1) 23 (cells8 st.1).toArray (0, 0) _ rfl (setRow_heap _ _ _ _ _ _ hres.out) Tryz.underlying23 rfl F.out.size) rfl ?_
   obtain ⟨rj, hCj, hrj⟩ := hI.out.cl
   refine ⟨rfl, rj, ?_, ?_, ?_⟩
   ·refine (ClAt.off hCj hres.out (fun q hq => by rw [hlg.out q hq]; simp [Z32])).kept (Bytes.Kept.setRow (S := fun k => k = w.heap.size + 1) (Kept.refl _ _) rfl _) (by have := hg8.out; omega) (fun k e h => ?_)
    rcases hrj with h1 | ⟨k', h1, h2⟩
    ·have := hr8.out k (by rw [← h1, e]); omega
    ·rw [h1] at e; have := Option.some.inj e; have := hs3.out; omega
   ·exact hkw.out.trans (Bytes.Kept.setRow (S := fun k => k = w.heap.size + 1) (Kept.refl _ _) rfl _) (fun k hk h => by omega)
   ·rcases hrj with h1 | ⟨k', h1, h2⟩
    ·exact .inl h1
    ·exact .inr ⟨k', h1, by have := hs3.out; omega⟩
end Go.Proofs.YtgldkfaiofkhbaaGreatDoor.Incl

namespace Go.Proofs.YtgldkfaiofkhbaaGreatDoor.Texts
open Go Go.RowKit Go.Proofs.YtgldkfaiofkhbaaGreatDoor Mem Sha Bytes Go.Proofs.YtgldkfaiofkhbaaGreatDoor.Append TreeRefRoot Node Same8

theorem Txs.push {w w3 w4 : World} {gc gt ct B : Nat} {ts : List Text} {q : Text} {v v1 : Value} {xs : List Value} {n : Nat} {M : Nat → Prop} (hM : ¬ M gt) (hn : ts.length = n) (hx : Txs M w gc v.ownBlock xs ts) (hO : w.ownsRow B 27 1 v n xs)
  (hb : Below w.heap.size w w3) (hq : Reads w3 1 (some ⟨gt, 0, none⟩) q.length (cells8 q)) (hgt : w.heap.size ≤ gt ∧ gt < w3.heap.size) (hgc : gt ≠ gc) (hct : q.length ≤ ct)
  (hG : Grew (w3.alloc (.cells #[.slice (some ⟨gt, 0, none⟩) q.length ct] 27)) B 27 1 v n 1 xs [.slice (some ⟨gt, 0, none⟩) q.length ct] v1 w4) :
  Txs M w4 gc v1.ownBlock (xs ++ [.slice (some ⟨gt, 0, none⟩) q.length ct]) (ts ++ [q]) ∧ w4.ownsRow B 27 1 v1 (n + 1) (xs ++ [.slice (some ⟨gt, 0, none⟩) q.length ct]) ∧ Kept (fun k => some k = v.ownBlock) w w4 := by
 have hz : (w3.alloc (.cells #[.slice (some ⟨gt, 0, none⟩) q.length ct] 27)).heap.size = w3.heap.size + 1 := by simp
 have hk4 : ∀ k, k < w3.heap.size → some k ≠ v.ownBlock → w4.heap[k]? = w3.heap[k]? := fun k hk hne => (hG.grow.block k (by rw [hz]; omega) hne).trans (Below.heap_alloc _ _ _ hk)
 have hs4 : w3.heap.size + 1 ≤ w4.heap.size := by have := hG.grow.size; rw [hz] at this; exact this
 have hr4 : v1.ownBlock = v.ownBlock ∨ v1.ownBlock = some (w3.heap.size + 1) := by
  rcases hG.at_ with h | h
  ·exact .inl h
  ·exact .inr (by rw [h, hz])
 have hxl : xs.length = n := by have := hO.1; simpa using this
 have hown1 : ∀ k, k < w3.heap.size → some k ≠ v.ownBlock → some k ≠ v1.ownBlock := fun k hk hne e => by
  rcases hr4 with h | h
  ·exact hne (e.trans h)
  ·rw [h] at e; have := Option.some.inj e; omega
 have hread : ∀ (g : Nat) (p : Text), g < w3.heap.size → some g ≠ v.ownBlock → Reads w3 1 (some ⟨g, 0, none⟩) p.length (cells8 p) → Reads w4 1 (some ⟨g, 0, none⟩) p.length (cells8 p) := fun g p h1 h2 h =>
  h.keep (w' := w4) (by omega) fun b o e hb => by
   injection e with e
   injection e with e1 e2
   subst e1
   exact hk4 _ hb h2
 refine ⟨fun i p hp => ?_, hG.own, ⟨hG.grow.os.trans hb.os, hG.grow.tape.trans hb.tape, hG.grow.output.trans hb.output, by have := hb.size; omega, fun k hk hne => (hk4 k (by have := hb.size; omega) hne).trans (hb.block k hk)⟩⟩
 rcases Nat.lt_or_ge i ts.length with hi | hi
 ·rw [List.getElem?_append_left hi] at hp
  obtain ⟨g, c, a1, a2, a3, a4, a5, a6, a7⟩ := hx i p hp
  have hg3 : g < w3.heap.size := by have := hb.size; omega
  exact ⟨g, c, by rw [List.getElem?_append_left (by omega)]; exact a1, a2, hread g p hg3 a6 (a3.below hb), by omega, a5, hown1 g hg3 a6, a7⟩
 ·rw [List.getElem?_append_right hi] at hp
  have hi0 : i = ts.length := by
   have := (List.getElem?_eq_some_iff.1 hp).1
   simp at this
   omega
  subst hi0
  rw [Nat.sub_self] at hp
  obtain rfl := Option.some.inj hp
  have hgr : some gt ≠ v.ownBlock := fun e => by have := (hO.lt gt e.symm).2; omega
  exact ⟨gt, ct, by rw [List.getElem?_append_right (by omega), hxl, hn, Nat.sub_self]; rfl, hct, hread gt q hgt.2 hgr hq, by omega, hgc, hown1 gt hgt.2 hgr, hM⟩
theorem Txs.keep {w w' : World} {gc : Nat} {r : Option Nat} {xs : List Value} {ts : List Text} {M S : Nat → Prop} (hx : Txs M w gc r xs ts) (hk : Kept S w w') (hS : ∀ k, S k → k = gc ∨ some k = r ∨ M k) : Txs M w' gc r xs ts := fun i q hq => by
 obtain ⟨g, c, a1, a2, a3, a4, a5, a6, a7⟩ := hx i q hq
 refine ⟨g, c, a1, a2, a3.kept hk (fun b o e h => ?_), Nat.lt_of_lt_of_le a4 hk.size, a5, a6, a7⟩
 injection e with e
 injection e with e1 e2
 subst e1
 rcases hS _ h with h | h | h
 ·exact a5 h
 ·exact a6 h
 ·exact a7 h
theorem Txs.pieces {w : World} {M : Nat → Prop} {gc base : Nat} {r : Option Nat} {v : Value} {xs : List Value} {ts : List Text} (hO : w.ownsRow base 27 1 v ts.length xs) (hx : Txs M w gc r xs ts) :
  ∃ A c, v = .slice A ts.length c ∧ ts.length ≤ c ∧ (A = none → ts.length = 0 ∧ c = 0) ∧ Pieces w A ts := by
 obtain ⟨A, c, e, hc, -, hnil, hr, -⟩ := Own.reads hO
 refine ⟨A, c, e, hc, hnil, fun h0 => ?_⟩
 obtain ⟨b, o, e1, hb, hcs⟩ := hr.at_ (by omega)
 refine ⟨b, o, e1, hb, fun i q hq => ?_⟩
 obtain ⟨g, cq, a1, a2, a3, -⟩ := hx i q hq
 exact ⟨some ⟨g, 0, none⟩, cq, hcs i _ a1, a2, a3, fun h => by cases h⟩

theorem Pieces.drewN {w : World} {A : Option Addr} {ps : List Text} (h : Pieces w A ps) (k : Nat) : Pieces (w.drewN k) A ps := h

end Go.Proofs.YtgldkfaiofkhbaaGreatDoor.Texts

namespace Go.Proofs.YtgldkfaiofkhbaaGreatDoor.AheadM
open Go Go.RowKit Go.Proofs.YtgldkfaiofkhbaaGreatDoor Digest Mem Sha Bytes Go.Proofs.YtgldkfaiofkhbaaGreatDoor.Append HashMem DigestMem TreeMath TreeMem TreeRoot TreeRefRoot Node Sides WayP Climb Incl Subs RowsP Texts

/-! ### The plain word -/
structure Ah where
 fr : Text
 sr : Text
 ft : List Text
 st : List Text
def ahead1 (s : Int) (z : Ah) (p : Bool × Text) : Ah :=
 if p.1 then ⟨z.fr, ndOf s z.sr p.2, z.ft, z.st ++ [kb 1 :: (z.sr ++ p.2)]⟩
 else ⟨ndOf s p.2 z.fr, ndOf s p.2 z.sr, z.ft ++ [kb 1 :: (p.2 ++ z.fr)], z.st ++ [kb 1 :: (p.2 ++ z.sr)]⟩
def aheadS (s : Int) (x : Text) (low : Nat) (P : List (Bool × Text)) (j : Nat) : Ah := ((P.take j).drop low).foldl (ahead1 s) ⟨x, x, [], []⟩
theorem aheadS_low (s : Int) (x : Text) (low : Nat) (P : List (Bool × Text)) : aheadS s x low P low = ⟨x, x, [], []⟩ := by
 unfold aheadS
 rw [List.drop_of_length_le (by rw [List.length_take]; exact Nat.min_le_left _ _)]
 rfl
theorem aheadS_succ {s : Int} {x : Text} {low : Nat} {P : List (Bool × Text)} {j : Nat} {p : Bool × Text} (hl : low ≤ j) (h : P[j]? = some p) : aheadS s x low P (j + 1) = ahead1 s (aheadS s x low P j) p := by
 have hj : j < P.length := (List.getElem?_eq_some_iff.1 h).1
 unfold aheadS
 rw [List.take_add_one, h, List.drop_append_of_le_length (by rw [List.length_take]; omega), List.foldl_append]
 rfl
structure Ah.Ok (z : Ah) (k : Nat) : Prop where
 fl : z.fr.length = 32
 sl : z.sr.length = 32
 ft : ∀ q ∈ z.ft, q.length = 65
 st : ∀ q ∈ z.st, q.length = 65
 fk : z.ft.length ≤ k
 sk : z.st.length ≤ k
theorem Ah.Ok.step {s : Int} {z : Ah} {k : Nat} {p : Bool × Text} (h : z.Ok k) (hp : p.2.length = 32) : (ahead1 s z p).Ok (k + 1) := by
 have h1 := h.fl
 have h2 := h.sl
 have h3 := h.fk
 have h4 := h.sk
 unfold ahead1
 split
 ·refine ⟨h1, ndOf_len _ _ _, h.ft, fun q hq => ?_, (by show z.ft.length ≤ k + 1; omega), by simp; omega⟩
  rcases List.mem_append.1 hq with hq | hq
  ·exact h.st q hq
  ·obtain rfl := List.mem_singleton.1 hq
   simp [h2, hp]
 ·refine ⟨ndOf_len _ _ _, ndOf_len _ _ _, fun q hq => ?_, fun q hq => ?_, by simp; omega, by simp; omega⟩
  ·rcases List.mem_append.1 hq with hq | hq
   ·exact h.ft q hq
   ·obtain rfl := List.mem_singleton.1 hq
    simp [h1, hp]
  ·rcases List.mem_append.1 hq with hq | hq
   ·exact h.st q hq
   ·obtain rfl := List.mem_singleton.1 hq
    simp [h2, hp]
theorem aheadS_ok {s : Int} {x : Text} {low : Nat} {P : List (Bool × Text)} (hx : x.length = 32) (hP : ∀ p ∈ P, p.2.length = 32) : ∀ d, low + d ≤ P.length → (aheadS s x low P (low + d)).Ok d
 | 0, _ => by
  rw [Nat.add_zero, aheadS_low]
  exact ⟨hx, hx, (fun q h => by cases h), (fun q h => by cases h), Nat.zero_le _, Nat.zero_le _⟩
 | d + 1, h => by
  have hj : low + d < P.length := by omega
  rw [← Nat.add_assoc, aheadS_succ (Nat.le_add_right _ _) (List.getElem?_eq_getElem hj)]
  exact (aheadS_ok hx hP d (by omega)).step (hP _ (List.getElem_mem hj))
def powB (m : Nat) : Bool := decide (m = 2 ^ Nat.log2 m)
def lowOf (old : Nat) : Nat := if powB old then 0 else 1
def aheadOf (s : Int) (old size : Nat) (oldRoot : Text) (ds : List Text) : Ah :=
 aheadS s (if powB old then oldRoot else ds.getD 0 []) (lowOf old) (((partsOf old size).map (bh old)).zip ds) ds.length

/-! ### Two climbers -/
theorem ClAt.avoid {M : Nat → Prop} {w : World} {gc : Nat} {r : Option Nat} {s : Int} {ts : List Text} (h : ClAt w gc r s ts) (hl : ∀ q ∈ ts, q.length = 65) (hM : ∀ k, M k → ∃ u, w.cell? ⟨k, 0, none⟩ = some u ∧ ∀ n, u ≠ .int .u8 n) : ClAtM M w gc r s ts := by
 obtain ⟨v, xs, a1, a2, a3, a4, hx⟩ := h
 refine ⟨v, xs, a1, a2, a3, a4, fun i q hq => ?_⟩
 obtain ⟨g, c, b1, b2, b3, b4, b5, b6, -⟩ := hx i q hq
 refine ⟨g, c, b1, b2, b3, b4, b5, b6, fun hm => ?_⟩
 have hlen := hl q (List.mem_of_getElem? hq)
 obtain ⟨u, hu, hne⟩ := hM g hm
 obtain ⟨b', o, e1, -, e2⟩ := b3.at_ (by omega)
 injection e1 with e1
 injection e1 with e3 e4
 subst e3 e4
 have h2 := e2 0 _ (cells8_at q 0 (by omega))
 rw [Nat.add_zero, hu] at h2
 exact hne _ (Option.some.inj h2)
theorem ClAt.front {w : World} {gc : Nat} {r : Option Nat} {s : Int} {ts : List Text} (h : ClAt w gc r s ts) (he : ts = [] → r = none) : ∀ k, (k = gc ∨ some k = r) → ∃ u, w.cell? ⟨k, 0, none⟩ = some u ∧ ∀ n, u ≠ .int .u8 n := by
 obtain ⟨v, xs, a1, a2, a3, a4, hx⟩ := h
 rintro k (rfl | hk)
 ·exact ⟨_, a1.cell 0, fun n e => by injection e with e1; cases e1⟩
 ·obtain ⟨q, hq⟩ : ∃ q, ts[0]? = some q := by
   cases ts with
   | nil => rw [he rfl] at hk; cases hk
   | cons q ts => exact ⟨q, rfl⟩
  obtain ⟨g, c, b1, -⟩ := hx 0 q hq
  obtain ⟨A, c2, rfl, -, -, -, hr, hA⟩ := Append.Own.reads a2
  have hpos : 0 < ts.length := by cases ts with
   | nil => cases hq
   | cons q ts => simp
  obtain ⟨b', o, rfl, -, e2⟩ := hr.at_ (by omega)
  have h2 := e2 0 _ b1
  have h3 := (hA _ rfl).2
  rw [h3] at a3
  rw [← a3] at hk
  have hkb : k = b' := Option.some.inj hk
  have ho : o = 0 := by
   rcases a2.2 with ⟨e, -⟩ | ⟨g', cap, cur, e, -⟩
   ·injection e with e; cases e
   ·injection e with e; injection e with e; injection e
  subst hkb ho
  exact ⟨_, h2, fun n e => by cases e⟩

structure AhAt (w1 wr : World) (g1 g2 : Nat) (r1 r2 : Option Nat) (b1 b2 : Nat) (s : Int) (x1 x2 : Text) (t1 t2 : List Text) : Prop where
 lf1 : Blk wr b1 23 (cells8 x1).toArray
 lf2 : Blk wr b2 23 (cells8 x2).toArray
 cl1 : ClAt wr g1 r1 s t1
 cl2 : ClAt wr g2 r2 s t2
 n1 : ∀ k, r1 = some k → w1.heap.size ≤ k
 n2 : ∀ k, r2 = some k → w1.heap.size ≤ k
 ap : ∀ k, r1 = some k → r2 ≠ some k
 e1 : t1 = [] → r1 = none
 e2 : t2 = [] → r2 = none
 kept : Kept (fun k => k = g1 ∨ k = g2 ∨ k = b1 ∨ k = b2) w1 wr
theorem AhAt.swap {w1 wr : World} {g1 g2 b1 b2 : Nat} {r1 r2 : Option Nat} {s : Int} {x1 x2 : Text} {t1 t2 : List Text} (h : AhAt w1 wr g1 g2 r1 r2 b1 b2 s x1 x2 t1 t2) : AhAt w1 wr g2 g1 r2 r1 b2 b1 s x2 x1 t2 t1 :=
 ⟨h.lf2, h.lf1, h.cl2, h.cl1, h.n2, h.n1, fun k e1 e2 => h.ap k e2 e1, h.e2, h.e1, h.kept.mono (fun i _ hi => by rcases hi with h | h | h | h; exact .inr (.inl h); exact .inl h; exact .inr (.inr (.inr h)); exact .inr (.inr (.inl h)))⟩
theorem AhAt.step {w1 wr w4 w5 : World} {g1 g2 b1 b2 : Nat} {r1 r2 : Option Nat} {s : Int} {x1 x2 z q : Text} {t1 t2 : List Text} (h : AhAt w1 wr g1 g2 r1 r2 b1 b2 s x1 x2 t1 t2) (hb : Below wr.heap.size wr w4) (hC : Clmb w4 g1 r1 s (t1 ++ [q]) w5)
  (hl1 : ∀ p ∈ t1 ++ [q], p.length = 65) (hl2 : ∀ p ∈ t2, p.length = 65) (hx1 : x1.length = 32) (hg12 : g1 ≠ g2) (hg1b1 : g1 ≠ b1) (hg1b2 : g1 ≠ b2) (hg2b1 : g2 ≠ b1) (hb12 : b1 ≠ b2) (hlt : g1 < w1.heap.size ∧ g2 < w1.heap.size ∧ b1 < w1.heap.size ∧ b2 < w1.heap.size) :
  Blk w5 b1 23 (cells8 x1).toArray ∧ ∃ r1', AhAt w1 (w5.setRow b1 (cells8 z).toArray) g1 g2 r1' r2 b1 b2 s z x2 (t1 ++ [q]) t2 := by
 obtain ⟨r', hC1, hK, hr'⟩ := hC
 have hs1 := h.kept.size
 have hs4 := hb.size
 have hs5 := hK.size
 obtain ⟨l1, l2, l3, l4⟩ := hlt
 have hr1 : ∀ k, k < w1.heap.size → some k ≠ r1 := fun k hk e => by have := h.n1 k e.symm; omega
 have hB4 : Blk w4 b1 23 (cells8 x1).toArray := (hb.block b1 h.lf1.lt).trans h.lf1
 have hB5 : Blk w5 b1 23 (cells8 x1).toArray := hB4.kept hK (fun e => by rcases e with e | e; exact hg1b1 e.symm; exact hr1 b1 l3 e)
 have hD4 : Blk w4 b2 23 (cells8 x2).toArray := (hb.block b2 h.lf2.lt).trans h.lf2
 have hD5 : Blk w5 b2 23 (cells8 x2).toArray := hD4.kept hK (fun e => by rcases e with e | e; exact hg1b2 e.symm; exact hr1 b2 l4 e)
 have hc1 : ClAt w4 g1 r1 s t1 := ClAtM.kept h.cl1 (Kept.of_below hb) (fun h => h) (fun _ _ h => h)
 have hc2 : ClAt w4 g2 r2 s t2 := ClAtM.kept h.cl2 (Kept.of_below hb) (fun h => h) (fun _ _ h => h)
 have hr2lt : ∀ k, r2 = some k → k < wr.heap.size := fun k e => by obtain ⟨_, _, _, _, _, a4, _⟩ := h.cl2; exact (a4 k e).2
 have hc25 : ClAt w5 g2 r2 s t2 := (ClAt.avoid hc2 hl2 (ClAt.front hc1 h.e1)).kept hK (fun e => by rcases e with e | e; exact hg12 e.symm; exact hr1 g2 l2 e) (fun k e e' => by
  rcases e' with e' | e'
  ·have := h.n2 k e; omega
  ·exact h.ap k e'.symm e)
 have hn' : ∀ k, r' = some k → w1.heap.size ≤ k := fun k e => by
  rcases hr' with e1 | ⟨k', e1, e2⟩
  ·exact h.n1 k (by rw [← e1, e])
  ·rw [e] at e1; have := Option.some.inj e1; omega
 refine ⟨hB5, r', setRow_heap _ _ _ _ _ _ hB5, (setRow_other _ _ _ _ (fun e => hb12 e.symm)).trans hD5, ?_, ?_, hn', h.n2, fun k e e' => ?_, (fun e => by simp at e), h.e2, ?_⟩
 ·exact (ClAt.off hC1 hB5 (fun p hp => by rw [hl1 p hp]; simp [cells8_len, hx1])).kept (Bytes.Kept.setRow (S := fun k => k = b1) (Kept.refl _ _) rfl _) hg1b1 (fun k e e' => by have := hn' k e; omega)
 ·exact (ClAt.off hc25 hB5 (fun p hp => by rw [hl2 p hp]; simp [cells8_len, hx1])).kept (Bytes.Kept.setRow (S := fun k => k = b1) (Kept.refl _ _) rfl _) hg2b1 (fun k e e' => by have := h.n2 k e; omega)
 ·rcases hr' with e1 | ⟨k', e1, e2⟩
  ·exact h.ap k (by rw [← e1, e]) e'
  ·rw [e] at e1; have := Option.some.inj e1; have := hr2lt k e'; omega
 ·refine Bytes.Kept.setRow (S := fun k => k = g1 ∨ k = g2 ∨ k = b1 ∨ k = b2) ((h.kept.trans (T := fun _ => False) (Kept.of_below hb) (fun _ _ h => h.elim)).trans hK (fun i hi e => ?_)) (.inr (.inr (.inl rfl))) _
  rcases e with e | e
  ·exact .inl e
  ·exact absurd e (hr1 i hi)
end Go.Proofs.YtgldkfaiofkhbaaGreatDoor.AheadM

namespace Go.Proofs.YtgldkfaiofkhbaaGreatDoor.InclAny
open Go Go.RowKit Go.Proofs.YtgldkfaiofkhbaaGreatDoor Digest Mem Sha Bytes HashMem DigestMem DigestTop RefTop TreeMath TreeMem TreeRoot TreeRefRoot Node Sides Way WayP Climb Incl

theorem zero32 : (cells8 (List.replicate 32 0)).toArray = Z32 := by rfl
theorem Clmb.same {w w' : World} {gc : Nat} {r : Option Nat} {s : Int} {ts : List Text} (h : ClAt w gc r s ts) (hb : Below w.heap.size w w') : Clmb w gc r s ts w' :=
 ⟨r, ClAtM.kept h (Kept.of_below hb) (fun h => h) (fun _ _ h => h), Kept.of_below hb, .inl rfl⟩
theorem insideB_true {size i : Int} (h : insideB size i = true) : 1 ≤ size ∧ size ≤ 1099511627776 ∧ 0 ≤ i ∧ i < size := by
 simp only [insideB, Bool.and_eq_true, decide_eq_true_eq] at h
 exact ⟨h.1.1.1, h.1.1.2, h.1.2, h.2⟩
theorem incl_any (gc : Nat) (r : Option Nat) (s : Int) (ts : List Text) (size i : Int) (leaf : Text) (hl : leaf.length = 32) (ds : List Text) (A : Option Addr) (n c : Nat) (w : World) (hBs : Base w) (hgb : 1 < gc) (hcl : ClAt w gc r s ts)
  (hts : ∀ q ∈ ts, q.length = 65) (htn : ts.length < 549755813888) (hr : RdD w A n ds) (hA : 0 < n → ∀ b o, A = some ⟨b, o, none⟩ → b ≠ gc ∧ some b ≠ r) :
  Calls Tryz.prog 222 #[.pointer (some ⟨gc, 0, none⟩), .int .i64 size, .int .i64 i, .agg (cells8 leaf).toArray, .slice A n c] w fun e w' => e = .returned (.tuple #[.agg (cells8 (inclOf s size i leaf ts ds).1).toArray, .int .i64 (inclOf s size i leaf ts ds).2.1]) ∧ Clmb w gc r s (inclOf s size i leaf ts ds).2.2 w' := by
 obtain ⟨x, hx⟩ : ∃ x, inclOf s size i leaf ts ds = x := ⟨_, rfl⟩
 rw [hx]
 unfold inclOf at hx
 cases hin : insideB size i with
 | false =>
  rw [if_pos hin] at hx
  subst hx
  refine (incl_out gc size i leaf A n c w hin).mono ?_
  rintro e w' ⟨rfl, hb⟩
  exact ⟨by rw [zero32], Clmb.same hcl hb⟩
 | true =>
  rw [if_neg (by rw [hin]; decide)] at hx
  obtain ⟨h1, h2, h3, h4⟩ := insideB_true hin
  obtain ⟨sz, rfl⟩ := Int.eq_ofNat_of_zero_le (show 0 ≤ size by omega)
  obtain ⟨j, rfl⟩ := Int.eq_ofNat_of_zero_le h3
  rw [Int.toNat_natCast, Int.toNat_natCast] at hx
  by_cases hn : (sides sz j).length = n
  ·rw [if_neg (by rw [hr.1, hn]; exact fun h => h rfl)] at hx
   subst hx
   refine (incl_ok gc r s ts sz j (by omega) (by omega) leaf hl ds A n c w hBs hgb hcl hts (by have h40 : (2 : Nat) ^ 40 = 1099511627776 := (by decide); have := sides_len (n := sz) (j := j) (L := 40) (by omega) (by omega); omega) hr hA hn).mono ?_
   rintro e w' ⟨rfl, hC⟩
   rw [hr.1]
   exact ⟨rfl, hC⟩
  ·rw [if_pos (by rw [hr.1]; exact hn)] at hx
   subst hx
   refine (incl_len gc sz j (by omega) (by omega) leaf A n c w hn).mono ?_
   rintro e w' ⟨rfl, hb⟩
   exact ⟨by rw [zero32], Clmb.same hcl hb⟩
end Go.Proofs.YtgldkfaiofkhbaaGreatDoor.InclAny

namespace Go.Proofs.YtgldkfaiofkhbaaGreatDoor.RefIncl0
open Go Go.RowKit Go.Proofs.YtgldkfaiofkhbaaGreatDoor Digest Mem Sha ShaWalk Bytes HashMem DigestMem DigestTop RefTop QuietTail Grown Chain TreeMath TreeMem TreeRoot Go.Proofs.YtgldkfaiofkhbaaGreatDoor.Append Book TreeRefRoot Held Node Sides WayP Climb Incl InclAny RefSides Levels Texts RefCut

theorem own_kept {S : Nat → Prop} {w w' : World} {base e size n : Nat} {v : Value} {xs : List Value} (h : w.ownsRow base e size v n xs) (hk : Kept S w w') (hS : ∀ k, v.ownBlock = some k → ¬ S k) : w'.ownsRow base e size v n xs := by
 refine ⟨h.1, h.2.imp id fun ⟨g, cap, cur, h1, h2, h3, h4⟩ => ⟨g, cap, cur, h1, h2, ?_, h4⟩⟩
 rw [hk.block g (Array.getElem?_eq_some_iff.1 h3).1 (hS g (by rw [h1]; rfl)), h3]
structure RAt (wo wr : World) (br : Nat) (st : Text × List Text) (v : Value) (xs : List Value) : Prop where
 leaf : Blk wr br 23 (cells8 st.1).toArray
 own : wr.ownsRow wo.heap.size 27 1 v st.2.length xs
 txs : Txs (fun k => k < wo.heap.size) wr br v.ownBlock xs st.2
 kept : Kept (· = br) wo wr
theorem RAt.step {wo wr w1 w3 w4 w5 w6 : World} {br gt ct n : Nat} {st st' : Text × List Text} {v v4 : Value} {xs : List Value} {q : Text} (h : RAt wo wr br st v xs) (hbr : br < wo.heap.size) (hn : st.2.length = n)
  (hb1 : Below wr.heap.size wr w1) (hb3 : Below w1.heap.size w1 w3) (hq : Reads w3 1 (some ⟨gt, 0, none⟩) q.length (cells8 q)) (hgt : w1.heap.size ≤ gt ∧ gt < w3.heap.size) (hct : q.length ≤ ct)
  (hG : Grew (w3.alloc (.cells #[.slice (some ⟨gt, 0, none⟩) q.length ct] 27)) wo.heap.size 27 1 v n 1 xs [.slice (some ⟨gt, 0, none⟩) q.length ct] v4 w4)
  (hb5 : Below w4.heap.size w4 w5) (hB6 : Blk w6 br 23 (cells8 st'.1).toArray) (hk6 : Kept (· = br) w5 w6) (hst : st'.2 = st.2 ++ [q]) : RAt wo w6 br st' v4 (xs ++ [.slice (some ⟨gt, 0, none⟩) q.length ct]) := by
 have hz1 := hb1.size
 have hz2 := h.kept.size
 obtain ⟨p1, p2, p3⟩ := Txs.push (by omega) hn (Txs.keep (S := fun _ => False) h.txs (Kept.of_below hb1) (fun _ h => h.elim)) (hn ▸ own_below h.own hb1) hb3 hq hgt (by omega) hct hG
 have hown : ∀ k, v4.ownBlock = some k → k ≠ br := fun k e => by have := (p2.lt k e).1; omega
 refine ⟨hB6, ?_, ?_, ?_⟩
 ·rw [hst, List.length_append, hn]
  exact own_kept (own_below p2 hb5) hk6 (fun k e h => hown k e h)
 ·rw [hst]
  exact Txs.keep (Txs.keep (S := fun _ => False) p1 (Kept.of_below hb5) (fun _ h => h.elim)) hk6 (fun k h => .inl h)
 ·refine (((h.kept.trans (T := fun _ => False) (Kept.of_below hb1) (fun _ _ h => h.elim)).trans p3 (fun i hi e => ?_)).trans (T := fun _ => False) (Kept.of_below hb5) (fun _ _ h => h.elim)).trans hk6 (fun i _ h => h)
  have := (h.own.lt i e.symm).1
  omega

end Go.Proofs.YtgldkfaiofkhbaaGreatDoor.RefIncl0

namespace Go.Proofs.YtgldkfaiofkhbaaGreatDoor.AheadT
open Go Go.RowKit Go.Proofs.YtgldkfaiofkhbaaGreatDoor Digest Mem Sha Bytes Go.Proofs.YtgldkfaiofkhbaaGreatDoor.Append HashMem TreeMem TreeRoot Node Climb Incl Subs RowsP AheadM RefIncl0

def Tx (w : World) (xs : List Value) (ts : List Text) : Prop := ∀ (i : Nat) (q : Text), ts[i]? = some q → 32 < q.length ∧ ∃ g c, xs[i]? = some (.slice (some ⟨g, 0, none⟩) q.length c) ∧ q.length ≤ c ∧ Reads w 1 (some ⟨g, 0, none⟩) q.length (cells8 q)
theorem Txs.toTx {S : Nat → Prop} {w w' : World} {gc : Nat} {r : Option Nat} {xs : List Value} {ts : List Text} (hx : Txs (fun _ => False) w gc r xs ts) (hl : ∀ q ∈ ts, q.length = 65) (hk : Kept S w w')
  (hS : ∀ g, S g → (∃ t cs, Blk w g t cs ∧ cs.size < 65) ∨ (∃ u, w.cell? ⟨g, 0, none⟩ = some u ∧ ∀ n, u ≠ .int .u8 n)) : Tx w' xs ts := fun i q hq => by
 obtain ⟨g, c, b1, b2, b3, b4, b5, b6, -⟩ := hx i q hq
 have hlen := hl q (List.mem_of_getElem? hq)
 refine ⟨by omega, g, c, b1, b2, b3.kept hk (fun b o e hs => ?_)⟩
 injection e with e
 injection e with e1 e2
 subst e1 e2
 obtain ⟨b', o, e1, -, e2⟩ := b3.at_ (by omega)
 injection e1 with e1
 injection e1 with e3 e4
 subst e3 e4
 rcases hS _ hs with ⟨t, cs, hB, hc⟩ | ⟨u, hu, hne⟩
 ·have h2 := e2 64 _ (cells8_at q 64 (by omega))
  rw [hB.cell, Array.getElem?_eq_none (by omega)] at h2
  cases h2
 ·have h2 := e2 0 _ (cells8_at q 0 (by omega))
  rw [Nat.add_zero, hu] at h2
  exact hne _ (Option.some.inj h2)
theorem Tx.append {w : World} {xs ys : List Value} {ts us : List Text} (h : Tx w xs ts) (k : Tx w ys us) (hl : xs.length = ts.length) : Tx w (xs ++ ys) (ts ++ us) := fun i q hq => by
 rcases Nat.lt_or_ge i ts.length with hi | hi
 ·rw [List.getElem?_append_left hi] at hq
  rw [List.getElem?_append_left (by omega)]
  exact h i q hq
 ·rw [List.getElem?_append_right hi] at hq
  rw [List.getElem?_append_right (by omega), hl]
  exact k _ q hq
theorem Tx.below {w w' : World} {xs : List Value} {ts : List Text} (h : Tx w xs ts) (hb : Below w.heap.size w w') : Tx w' xs ts := fun i q hq => by
 obtain ⟨hl, g, c, a1, a2, a3⟩ := h i q hq
 exact ⟨hl, g, c, a1, a2, a3.below hb⟩
theorem results_ccr {P : Program} {fn : Func} {p p2 u : Tmp} {ty : TypeId} (h : fn.results = #[.cell p ty, .cell p2 ty, .tmp u]) (tmps : Array Value) (w : World) (g g2 : Nat) (t t2 : TypeId) (cs cs2 : Array Value) (fr fr2 : Nat × Nat) (d : TypeDesc)
  (hp : tmps.getD p undef = .pointer (some ⟨g, 0, none⟩)) (hg : w.heap[g]? = some (.cells cs t fr)) (hp2 : tmps.getD p2 undef = .pointer (some ⟨g2, 0, none⟩)) (hg2 : w.heap[g2]? = some (.cells cs2 t2 fr2))
  (hu : P.underlying ty = some d) (hd : (match d with | .struct _ | .array _ _ => true | _ => false) = true) (hi : (P.info? ty).map (·.size) = some cs.size) (hi2 : (P.info? ty).map (·.size) = some cs2.size) :
  (results fn tmps).run P w = .ok (.tuple #[.agg cs, .agg cs2, tmps.getD u undef]) w := by
 have hp' : tmps[p]?.getD undef = .pointer (some ⟨g, 0, none⟩) := by simpa using hp
 have hp2' : tmps[p2]?.getD undef = .pointer (some ⟨g2, 0, none⟩) := by simpa using hp2
 simp [results, h, hp', hp2', asAddr, run_loadVar_row w g t ty cs fr d hg hu hd hi, run_loadVar_row w g2 t2 ty cs2 fr2 d hg2 hu hd hi2, Result.andThen]
theorem Kept.toBelow {S : Nat → Prop} {B : Nat} {w w1 wr : World} (hb : Below B w w1) (hk : Kept S w1 wr) (hS : ∀ k, S k → B ≤ k) (hB : B ≤ w1.heap.size) : Below B w wr :=
 ⟨hk.os.trans hb.os, hk.tape.trans hb.tape, hk.output.trans hb.output, by have := hk.size; have := hb.size; omega, fun k hk' => (hk.block k (by omega) (fun h => by have := hS k h; omega)).trans (hb.block k hk')⟩
theorem odd_of : ∀ m : Nat, 1 ≤ m → ∃ q a, m = (2 * q + 1) * 2 ^ a
 | 0, h => by omega
 | m + 1, _ => by
  by_cases h2 : (m + 1) % 2 = 1
  ·exact ⟨(m + 1) / 2, 0, by omega⟩
  ·obtain ⟨q, a, h⟩ := odd_of ((m + 1) / 2) (by omega)
   refine ⟨q, a + 1, ?_⟩
   rw [Nat.pow_succ, ← Nat.mul_assoc, ← h]
   omega
termination_by m => m
decreasing_by omega
theorem powB_iff {m q a : Nat} (h : m = (2 * q + 1) * 2 ^ a) : powB m = decide (q = 0) := by
 unfold powB
 by_cases hq : q = 0
 ·rw [decide_eq_true hq]
  refine decide_eq_true ?_
  subst hq
  rw [show m = 2 ^ a by omega, Nat.log2_two_pow]
 ·rw [decide_eq_false hq]
  refine decide_eq_false (fun e => hq ?_)
  rw [e] at h
  exact (odd_pow h.symm).1
theorem and_pred {m : Nat} (h : 1 ≤ m) : (m &&& (m - 1) = 0) ↔ powB m = true := by
 unfold powB
 rw [decide_eq_true_iff]
 have hlo := Nat.log2_self_le (n := m) (by omega)
 have hhi : m < 2 ^ (Nat.log2 m + 1) := Nat.lt_log2_self
 constructor
 ·intro h0
  rcases Nat.eq_or_lt_of_le hlo with e | e
  ·exact e.symm
  ·exfalso
   have h1 : m.testBit (Nat.log2 m) = true := Nat.testBit_of_two_pow_le_and_two_pow_add_one_gt hlo hhi
   have h2 : (m - 1).testBit (Nat.log2 m) = true := Nat.testBit_of_two_pow_le_and_two_pow_add_one_gt (by omega) (by omega)
   have h3 := Nat.testBit_and m (m - 1) (Nat.log2 m)
   rw [h0, h1, h2] at h3
   simp at h3
 ·intro e
  generalize Nat.log2 m = x at e
  rw [e, Nat.and_two_pow_sub_one_eq_mod, Nat.mod_self]
theorem and_i64 (m : Nat) (h1 : 1 ≤ m) (h : m ≤ 1099511627776) : bits .and .i64 (m : Int) ((m : Int) - 1) = ((m &&& (m - 1) : Nat) : Int) := by
 show IntKind.i64.wrap (((BitVec.ofInt 64 (m : Int) &&& BitVec.ofInt 64 ((m : Int) - 1)).toNat : Nat) : Int) = _
 have hm : ((m : Int) - 1) = ((m - 1 : Nat) : Int) := by omega
 have e : (BitVec.ofInt 64 (m : Int) &&& BitVec.ofInt 64 ((m : Int) - 1)).toNat = m &&& (m - 1) := by
  rw [hm, BitVec.toNat_and, BitVec.ofInt_natCast, BitVec.toNat_ofNat, BitVec.ofInt_natCast, BitVec.toNat_ofNat, Nat.mod_eq_of_lt (by omega), Nat.mod_eq_of_lt (by omega)]
 rw [e]
 have := Nat.and_le_left (n := m) (m := m - 1)
 exact IntWalk.i64_in _ (by omega)
theorem parts_low {old size : Nat} (h1 : 1 ≤ old) (h2 : old < size) : lowOf old < (partsOf old size).length ∧ (partsOf old size).length = lowOf old + (dirs old size).length ∧ ((partsOf old size).map (bh old)).drop (lowOf old) = dirs old size := by
 obtain ⟨q, a, hm⟩ := odd_of old h1
 have hy := rowsL_yes size 0 size old q a (by omega) (by omega) (by omega) (by rw [Nat.sub_zero]; exact hm) (fun e => by omega)
 rw [Nat.sub_zero, Nat.sub_zero] at hy
 have hp : partsOf old size = rowsL 0 size old true := if_neg (fun h => by omega)
 have hl := congrArg List.length hy
 rw [List.length_map, List.length_append] at hl
 rw [hp]
 have hd : (dirs old size).length ≠ 0 := by
  by_cases c : old ≤ TreeMath.half size
  ·rw [dirs_left h1 h2 c]; simp
  ·rw [dirs_right h2 (by omega)]; simp
 unfold lowOf
 rw [powB_iff hm]
 by_cases hq : q = 0
 ·rw [if_pos hq] at hl hy
  rw [decide_eq_true hq, if_pos rfl, hy]
  simp at hl ⊢
  omega
 ·rw [if_neg hq] at hl hy
  rw [decide_eq_false hq, hy]
  simp at hl ⊢
  omega
end Go.Proofs.YtgldkfaiofkhbaaGreatDoor.AheadT

namespace Go.Proofs.YtgldkfaiofkhbaaGreatDoor.RefAhead0
open Go Go.RowKit Go.Proofs.YtgldkfaiofkhbaaGreatDoor Digest Mem Sha Bytes Go.Proofs.YtgldkfaiofkhbaaGreatDoor.Append HashMem TreeMath TreeMem TreeRoot TreeRefRoot Node Sides RefSides Climb Incl Subs RowsP AheadM AheadT RefIncl0

theorem Tx.kept {S : Nat → Prop} {w w' : World} {xs : List Value} {ts : List Text} (h : Tx w xs ts) (hk : Kept S w w') (hS : ∀ g, S g → (∃ t cs, Blk w g t cs ∧ cs.size ≤ 32) ∨ (∃ u, w.cell? ⟨g, 0, none⟩ = some u ∧ ∀ n, u ≠ .int .u8 n)) : Tx w' xs ts := fun i q hq => by
 obtain ⟨hl, g, c, a1, a2, a3⟩ := h i q hq
 refine ⟨hl, g, c, a1, a2, a3.kept hk (fun b o e hs => ?_)⟩
 injection e with e
 injection e with e1 e2
 subst e1 e2
 obtain ⟨b', o, e1, -, e2⟩ := a3.at_ (by omega)
 injection e1 with e1
 injection e1 with e3 e4
 subst e3 e4
 rcases hS _ hs with ⟨t, cs, hB, hc⟩ | ⟨u, hu, hne⟩
 ·have h2 := e2 32 _ (cells8_at q 32 hl)
  rw [hB.cell, Array.getElem?_eq_none (by omega)] at h2
  cases h2
 ·have h2 := e2 0 _ (cells8_at q 0 (by omega))
  rw [Nat.add_zero, hu] at h2
  exact hne _ (Option.some.inj h2)
theorem row_front {w : World} {base n : Nat} {v : Value} {xs : List Value} {ts : List Text} (h : w.ownsRow base 27 1 v n xs) (hx : Tx w xs ts) (hn : ts.length = n) (he : ts = [] → v.ownBlock = none) {g : Nat} (hg : v.ownBlock = some g) : ∃ u, w.cell? ⟨g, 0, none⟩ = some u ∧ ∀ n, u ≠ .int .u8 n := by
 obtain ⟨q, hq⟩ : ∃ q, ts[0]? = some q := by
  cases ts with
  | nil => rw [he rfl] at hg; cases hg
  | cons q ts => exact ⟨q, rfl⟩
 obtain ⟨-, g', c, a1, -⟩ := hx 0 q hq
 have hpos : 0 < n := by rw [← hn]; cases ts with
  | nil => cases hq
  | cons q ts => simp
 obtain ⟨A, c2, rfl, -, -, -, hr, hA⟩ := Append.Own.reads h
 obtain ⟨b', o, rfl, -, e2⟩ := hr.at_ (by omega)
 have h2 := e2 0 _ a1
 have h3 := (hA _ rfl).2
 rw [hg] at h3
 have hkb : g = b' := Option.some.inj h3
 have ho : o = 0 := by
  rcases h.2 with ⟨e, -⟩ | ⟨g', cap, cur, e, -⟩
  ·injection e with e; cases e
  ·injection e with e; injection e with e; injection e
 subst hkb ho
 exact ⟨_, h2, fun n e => by cases e⟩

structure RAh (wo wr : World) (b1 b2 : Nat) (x1 x2 : Text) (v1 v2 : Value) (xs1 xs2 : List Value) (t1 t2 : List Text) : Prop where
 lf1 : Blk wr b1 23 (cells8 x1).toArray
 lf2 : Blk wr b2 23 (cells8 x2).toArray
 o1 : wr.ownsRow wo.heap.size 27 1 v1 t1.length xs1
 o2 : wr.ownsRow wo.heap.size 27 1 v2 t2.length xs2
 tx1 : Tx wr xs1 t1
 tx2 : Tx wr xs2 t2
 ap : ∀ k, v1.ownBlock = some k → v2.ownBlock ≠ some k
 e1 : t1 = [] → v1.ownBlock = none
 e2 : t2 = [] → v2.ownBlock = none
 kept : Kept (fun k => k = b1 ∨ k = b2) wo wr
theorem RAh.swap {wo wr : World} {b1 b2 : Nat} {x1 x2 : Text} {v1 v2 : Value} {xs1 xs2 : List Value} {t1 t2 : List Text} (h : RAh wo wr b1 b2 x1 x2 v1 v2 xs1 xs2 t1 t2) : RAh wo wr b2 b1 x2 x1 v2 v1 xs2 xs1 t2 t1 :=
 ⟨h.lf2, h.lf1, h.o2, h.o1, h.tx2, h.tx1, fun k e1 e2 => h.ap k e2 e1, h.e2, h.e1, h.kept.mono (fun _ _ hi => hi.symm)⟩
theorem RAh.below {wo wr w' : World} {b1 b2 : Nat} {x1 x2 : Text} {v1 v2 : Value} {xs1 xs2 : List Value} {t1 t2 : List Text} (h : RAh wo wr b1 b2 x1 x2 v1 v2 xs1 xs2 t1 t2) (hb : Below wr.heap.size wr w') : RAh wo w' b1 b2 x1 x2 v1 v2 xs1 xs2 t1 t2 :=
 ⟨(hb.block _ h.lf1.lt).trans h.lf1, (hb.block _ h.lf2.lt).trans h.lf2, own_below h.o1 hb, own_below h.o2 hb, Tx.below h.tx1 hb, Tx.below h.tx2 hb, h.ap, h.e1, h.e2, h.kept.trans (T := fun _ => False) (Kept.of_below hb) (fun _ _ h => h.elim)⟩
theorem RAh.push {wo wr w3 w4 : World} {b1 b2 gt ct n : Nat} {x1 x2 q : Text} {v1 v2 v4 : Value} {xs1 xs2 : List Value} {t1 t2 : List Text} (h : RAh wo wr b1 b2 x1 x2 v1 v2 xs1 xs2 t1 t2) (hb : Below wr.heap.size wr w3) (hn : t1.length = n)
  (hq : Reads w3 1 (some ⟨gt, 0, none⟩) q.length (cells8 q)) (hlen : 32 < q.length) (hgt : wr.heap.size ≤ gt ∧ gt < w3.heap.size) (hct : q.length ≤ ct) (hl : b1 < wo.heap.size ∧ b2 < wo.heap.size)
  (hG : Grew (w3.alloc (.cells #[.slice (some ⟨gt, 0, none⟩) q.length ct] 27)) wo.heap.size 27 1 v1 n 1 xs1 [.slice (some ⟨gt, 0, none⟩) q.length ct] v4 w4) :
  RAh wo w4 b1 b2 x1 x2 v4 v2 (xs1 ++ [.slice (some ⟨gt, 0, none⟩) q.length ct]) xs2 (t1 ++ [q]) t2 := by
 subst hn
 have h3 := h.below hb
 have h3a : RAh wo (w3.alloc (.cells #[.slice (some ⟨gt, 0, none⟩) q.length ct] 27)) b1 b2 x1 x2 v1 v2 xs1 xs2 t1 t2 := h3.below (Below.heap_below w3 _)
 have hs1 := h.kept.size
 have hs3 := hb.size
 have hz : (w3.alloc (.cells #[.slice (some ⟨gt, 0, none⟩) q.length ct] 27)).heap.size = w3.heap.size + 1 := by simp
 have hkg : Kept (fun k => some k = v1.ownBlock) (w3.alloc (.cells #[.slice (some ⟨gt, 0, none⟩) q.length ct] 27)) w4 := (Kept.refl _ _).grown hG.grow (fun k e => .inl e.symm)
 have hlo : ∀ k, v1.ownBlock = some k → wo.heap.size ≤ k := fun k e => (h3a.o1.lt k e).1
 have hgr : some gt ≠ v1.ownBlock := fun e => by have := (h.o1.lt gt e.symm).2; omega
 have hS : ∀ g, some g = v1.ownBlock → (∃ t cs, Blk (w3.alloc (.cells #[.slice (some ⟨gt, 0, none⟩) q.length ct] 27)) g t cs ∧ cs.size ≤ 32) ∨ (∃ u, (w3.alloc (.cells #[.slice (some ⟨gt, 0, none⟩) q.length ct] 27)).cell? ⟨g, 0, none⟩ = some u ∧ ∀ n, u ≠ .int .u8 n) := fun g hg => .inr (row_front h3a.o1 h3a.tx1 rfl h3a.e1 hg.symm)
 refine ⟨?_, ?_, ?_, ?_, ?_, ?_, fun k e e' => ?_, (fun e => by simp at e), h.e2, ?_⟩
 ·exact h3a.lf1.kept hkg (fun e => by have := hlo _ e.symm; omega)
 ·exact h3a.lf2.kept hkg (fun e => by have := hlo _ e.symm; omega)
 ·rw [List.length_append]
  exact hG.own
 ·exact own_kept h3a.o2 hkg (fun k e e' => h3a.ap k e'.symm e)
 ·refine Tx.append (Tx.kept h3a.tx1 hkg hS) (fun i p hp => ?_) (by have := h.o1.1; simpa using this)
  match i with
  | 0 =>
   obtain rfl := Option.some.inj hp
   exact ⟨hlen, gt, ct, rfl, hct, (hq.alloc _).kept hkg (fun b o e e' => by injection e with e; injection e with e1 e2; subst e1; exact hgr e')⟩
  | i + 1 => simp at hp
 ·exact Tx.kept h3a.tx2 hkg hS
 ·rcases hG.at_ with h1 | h1
  ·exact h.ap k (by rw [← h1, e]) e'
  ·rw [h1, hz] at e
   have h9 := Option.some.inj e
   have := (h3.o2.lt k e').2
   omega
 ·exact h3a.kept.trans hkg (fun i hi e => by have := hlo i e.symm; omega)
theorem RAh.store {wo w5 w6 : World} {b1 b2 : Nat} {x1 x2 z : Text} {v1 v2 : Value} {xs1 xs2 : List Value} {t1 t2 : List Text} (h : RAh wo w5 b1 b2 x1 x2 v1 v2 xs1 xs2 t1 t2) (hx1 : x1.length = 32) (hB : Blk w6 b1 23 (cells8 z).toArray) (hk : Kept (· = b1) w5 w6) (hne : b1 ≠ b2) (hl : b1 < wo.heap.size) :
  RAh wo w6 b1 b2 z x2 v1 v2 xs1 xs2 t1 t2 := by
 have hS : ∀ g, g = b1 → (∃ t cs, Blk w5 g t cs ∧ cs.size ≤ 32) ∨ (∃ u, w5.cell? ⟨g, 0, none⟩ = some u ∧ ∀ n, u ≠ .int .u8 n) := fun g hg => by subst hg; exact .inl ⟨_, _, h.lf1, by simp [cells8_len, hx1]⟩
 refine ⟨hB, h.lf2.kept hk (fun e => hne e.symm), own_kept h.o1 hk (fun k e e' => ?_), own_kept h.o2 hk (fun k e e' => ?_), Tx.kept h.tx1 hk hS, Tx.kept h.tx2 hk hS, h.ap, h.e1, h.e2, h.kept.trans hk (fun i _ e => .inl e)⟩
 ·have := (h.o1.lt k e).1; omega
 ·have := (h.o2.lt k e).1; omega

/-! ### Where the loops stand -/
theorem odd_level {q a k : Nat} (h : k < a) : ((2 * q + 1) * 2 ^ a - 1) / 2 ^ k % 2 = 1 := by
 obtain ⟨c, rfl⟩ : ∃ c, a = k + 1 + c := ⟨a - k - 1, by omega⟩
 have hp := Nat.two_pow_pos k
 have hc := Nat.two_pow_pos c
 have e : (2 * q + 1) * 2 ^ (k + 1 + c) = ((2 * q + 1) * 2 ^ c) * 2 * 2 ^ k := by rw [Nat.pow_add, Nat.pow_succ]; simp only [Nat.mul_assoc, Nat.mul_comm, Nat.mul_left_comm]
 have hpos : 0 < (2 * q + 1) * 2 ^ c := Nat.mul_pos (by omega) hc
 generalize (2 * q + 1) * 2 ^ c = y at e hpos
 have h2 : y * 2 * 2 ^ k - 1 = (y * 2 - 1) * 2 ^ k + (2 ^ k - 1) := by
  have h3 : y * 2 * 2 ^ k = (y * 2 - 1) * 2 ^ k + 2 ^ k := by
   conv => lhs; rw [show y * 2 = (y * 2 - 1) + 1 by omega, Nat.add_mul, Nat.one_mul]
  omega
 rw [e, h2, Nat.add_comm, Nat.add_mul_div_right _ _ hp, Nat.div_eq_of_lt (by omega), Nat.zero_add]
 omega
theorem At.up {n m q a : Nat} (hm : m = (2 * q + 1) * 2 ^ a) (hmn : m ≤ n) : ∀ k, k ≤ a → At n (m - 1) k ((m - 1) / 2 ^ k) ((n - 1) / 2 ^ k)
 | 0, _ => by simpa using At.zero n (m - 1)
 | k + 1, h => by
  have hp := Nat.two_pow_pos a
  have hm1 : 1 ≤ m := by rw [hm, Nat.add_mul, Nat.one_mul]; omega
  have h1 := At.up hm hmn k (by omega)
  have h2 := (h1.odd (by omega) (by rw [hm]; exact odd_level (by omega))).2
  rwa [half2, half2]
theorem side_dirs {old size q a k : Nat} {b : Bool} (hm : old = (2 * q + 1) * 2 ^ a) (h2 : old < size) (h : (sides size (old - 1))[a + k]? = some b) : (dirs old size)[k]? = some b := by
 have hp := Nat.two_pow_pos a
 have h1 : 1 ≤ old := by rw [hm, Nat.add_mul, Nat.one_mul]; omega
 rw [dirs_sides size old size q a (Nat.le_refl _) h1 (by omega) hm (fun e => by omega), List.getElem?_append_right (by simp), List.length_replicate, Nat.add_sub_cancel_left] at h
 exact h
theorem sides_dirs_len {old size q a : Nat} (hm : old = (2 * q + 1) * 2 ^ a) (h2 : old < size) : (sides size (old - 1)).length = a + (dirs old size).length := by
 have hp := Nat.two_pow_pos a
 have h1 : 1 ≤ old := by rw [hm, Nat.add_mul, Nat.one_mul]; omega
 rw [dirs_sides size old size q a (Nat.le_refl _) h1 (by omega) hm (fun e => by omega), List.length_append, List.length_replicate]
end Go.Proofs.YtgldkfaiofkhbaaGreatDoor.RefAhead0

namespace Go.Proofs.YtgldkfaiofkhbaaGreatDoor.RefAhead0
open Go Go.RowKit Go.Proofs.YtgldkfaiofkhbaaGreatDoor Digest Mem Sha Bytes Go.Proofs.YtgldkfaiofkhbaaGreatDoor.Append HashMem TreeMath TreeMem TreeRoot TreeRefRoot Node Sides RefSides Climb Incl Subs RowsP AheadM AheadT RefIncl0

structure Plan (s : Int) (old size : Nat) (root : Text) (ds : List Text) (q a : Nat) (Zf : Nat → Ah) (D : List Text) (x0 : Text) (N : Nat) : Prop where
 d : D = if q = 0 then root :: ds else ds
 len : D.length = N
 dig : Digs D
 n2 : 2 ≤ N
 n42 : N ≤ 42
 zero : D[0]? = some x0
 x32 : x0.length = 32
 start : Zf 1 = ⟨x0, x0, [], []⟩
 step : ∀ j, 1 ≤ j → j < N → ∃ d, D[j]? = some d ∧ d.length = 32 ∧ ∀ b, (sides size (old - 1))[a + j - 1]? = some b → Zf (j + 1) = ahead1 s (Zf j) (b, d)
 ok : ∀ j, 1 ≤ j → j ≤ N → (Zf j).Ok (j - 1)
 last : aheadOf s old size root ds = Zf N
 sd : (sides size (old - 1)).length = a + N - 1
theorem plan (s : Int) {old size : Nat} {root : Text} {ds : List Text} {q a : Nat} (h1 : 1 ≤ old) (h2 : old < size) (hs : size ≤ 1099511627776) (hrt : root.length = 32) (hd : Digs ds) (hn : betw old size = ds.length) (hm : old = (2 * q + 1) * 2 ^ a) :
  ∃ Zf D x0 N, Plan s old size root ds q a Zf D x0 N := by
 obtain ⟨hlow, hll, hdr⟩ := parts_low h1 h2
 have hpl := partsOf_len (Nat.le_of_lt h2)
 have hsl := sides_dirs_len hm h2
 have h41 := betw_le (Nat.le_of_lt h2) hs
 have hpw := powB_iff hm
 have hlo : lowOf old = if q = 0 then 0 else 1 := by
  unfold lowOf
  rw [hpw]
  by_cases hq : q = 0
  ·simp [hq]
  ·simp [hq]
 have hz : (((partsOf old size).map (bh old)).zip ds).length = ds.length := by rw [List.length_zip, List.length_map]; omega
 obtain ⟨x0, hx0⟩ : ∃ x0, (if powB old then root else ds.getD 0 []) = x0 := ⟨_, rfl⟩
 obtain ⟨D, hD⟩ : ∃ D, (if q = 0 then root :: ds else ds) = D := ⟨_, rfl⟩
 have hDl : D.length + lowOf old = ds.length + 1 := by
  rw [hlo, ← hD]
  split <;> simp
 have hDi : ∀ j, 1 ≤ j → D[j]? = ds[lowOf old + (j - 1)]? := fun j hj => by
  obtain ⟨k, rfl⟩ : ∃ k, j = k + 1 := ⟨j - 1, by omega⟩
  rw [hlo, ← hD]
  split
  ·simp
  ·rw [Nat.add_sub_cancel, Nat.add_comm 1 k]
 have hDd : Digs D := by
  rw [← hD]
  split
  ·intro d hd'
   rcases List.mem_cons.1 hd' with rfl | h
   ·exact hrt
   ·exact hd _ h
  ·exact hd
 have hD0 : D[0]? = some x0 := by
  rw [← hD, ← hx0, hpw]
  by_cases hq : q = 0
  ·simp [hq]
  ·rw [if_neg hq, if_neg (by simp [hq])]
   have : 0 < ds.length := by omega
   simp [List.getD, List.getElem?_eq_getElem this]
 have hx32 := hDd.at_ hD0
 have hok : ∀ k, lowOf old + k ≤ ds.length → (aheadS s x0 (lowOf old) (((partsOf old size).map (bh old)).zip ds) (lowOf old + k)).Ok k := fun k hk => aheadS_ok hx32 (fun p hp => hd _ (List.of_mem_zip (show (p.1, p.2) ∈ _ from hp)).2) k (by omega)
 refine ⟨fun j => aheadS s x0 (lowOf old) (((partsOf old size).map (bh old)).zip ds) (lowOf old + (j - 1)), D, x0, (dirs old size).length + 1, hD.symm, by omega, hDd, by omega, by omega, hD0, hx32, ?_, fun j hj hjN => ?_, fun j hj hjN => hok (j - 1) (by omega), ?_, by rw [hsl]; omega⟩
 ·show aheadS _ _ _ _ (lowOf old + 0) = _
  rw [Nat.add_zero, aheadS_low]
 ·have hlt : lowOf old + (j - 1) < ds.length := by omega
  obtain ⟨d, hd0⟩ : ∃ d, ds[lowOf old + (j - 1)]? = some d := ⟨_, List.getElem?_eq_getElem hlt⟩
  refine ⟨d, by rw [hDi j hj, hd0], hd.at_ hd0, fun b hb => ?_⟩
  rw [show a + j - 1 = a + (j - 1) by omega] at hb
  have hb2 := side_dirs hm h2 hb
  rw [← hdr, List.getElem?_drop] at hb2
  show aheadS _ _ _ _ (lowOf old + (j + 1 - 1)) = _
  rw [show lowOf old + (j + 1 - 1) = lowOf old + (j - 1) + 1 by omega]
  exact aheadS_succ (Nat.le_add_right _ _) (List.getElem?_zip_eq_some.2 ⟨hb2, hd0⟩)
 ·show aheadOf _ _ _ _ _ = aheadS _ _ _ _ (lowOf old + ((dirs old size).length + 1 - 1))
  unfold aheadOf
  rw [hx0, show lowOf old + ((dirs old size).length + 1 - 1) = ds.length by omega]

end Go.Proofs.YtgldkfaiofkhbaaGreatDoor.RefAhead0

namespace Go.Proofs.YtgldkfaiofkhbaaGreatDoor.RefAhead
open Go Go.RowKit Go.Proofs.YtgldkfaiofkhbaaGreatDoor Digest Mem Sha ShaWalk Bytes Go.Proofs.YtgldkfaiofkhbaaGreatDoor.Append HashMem DigestMem DigestTop RefTop QuietTail Grown Chain TreeMath TreeMem TreeRoot Held Guard Book Node WayP TreeRefRoot Sides RefSides Climb Incl Subs RowsP Joint SubRef RefIncl0 AheadM AheadT RefAhead0 RefCut

end Go.Proofs.YtgldkfaiofkhbaaGreatDoor.RefAhead

namespace Go.Proofs.YtgldkfaiofkhbaaGreatDoor.RowsT
open Go Go.RowKit Go.Proofs.YtgldkfaiofkhbaaGreatDoor Mem Sha Bytes Go.Proofs.YtgldkfaiofkhbaaGreatDoor.Append TreeMem Node Texts AheadT

theorem own_up {w : World} {B e size n : Nat} {v : Value} {xs : List Value} (h : w.ownsRow 0 e size v n xs) (hB : ∀ k, v.ownBlock = some k → B ≤ k) : w.ownsRow B e size v n xs :=
 ⟨h.1, h.2.imp id fun ⟨g, cap, cur, h1, _, h3⟩ => ⟨g, cap, cur, h1, hB g (by rw [h1]; rfl), h3⟩⟩
theorem Txs.tx {w : World} {M : Nat → Prop} {gc : Nat} {r : Option Nat} {xs : List Value} {ts : List Text} (hx : Txs M w gc r xs ts) (hl : ∀ q ∈ ts, q.length = 65) : Tx w xs ts := fun i q hq => by
 obtain ⟨g, c, b1, b2, b3, -⟩ := hx i q hq
 have := hl q (List.mem_of_getElem? hq)
 exact ⟨by omega, g, c, b1, b2, b3⟩
theorem Tx.keep {S : Nat → Prop} {w w' : World} {xs : List Value} {ts : List Text} (h : Tx w xs ts) (hk : Kept S w w') (hS : ∀ g, S g → ∃ u, w.cell? ⟨g, 0, none⟩ = some u ∧ ∀ n, u ≠ .int .u8 n) : Tx w' xs ts := fun i q hq => by
 obtain ⟨hl, g, c, b1, b2, b3⟩ := h i q hq
 refine ⟨hl, g, c, b1, b2, b3.kept hk (fun b o e hs => ?_)⟩
 injection e with e
 injection e with e1 e2
 subst e1 e2
 obtain ⟨b', o, e1, -, e2⟩ := b3.at_ (by omega)
 injection e1 with e1
 injection e1 with e3 e4
 subst e3 e4
 obtain ⟨u, hu, hne⟩ := hS _ hs
 have h2 := e2 0 _ (cells8_at q 0 (by omega))
 rw [Nat.add_zero, hu] at h2
 exact hne _ (Option.some.inj h2)
theorem Tx.pieces {w : World} {B : Nat} {v : Value} {xs : List Value} {ts : List Text} (hO : w.ownsRow B 27 1 v ts.length xs) (hx : Tx w xs ts) : ∃ A c, v = .slice A ts.length c ∧ ts.length ≤ c ∧ (A = none → ts.length = 0 ∧ c = 0) ∧ Pieces w A ts := by
 obtain ⟨A, c, e, hc, -, hnil, hr, -⟩ := Append.Own.reads hO
 refine ⟨A, c, e, hc, hnil, fun h0 => ?_⟩
 obtain ⟨b, o, e1, hb, hcs⟩ := hr.at_ (by omega)
 refine ⟨b, o, e1, hb, fun i q hq => ?_⟩
 obtain ⟨-, g, cq, a1, a2, a3⟩ := hx i q hq
 exact ⟨some ⟨g, 0, none⟩, cq, hcs i _ a1, a2, a3, fun h => by cases h⟩
theorem own_down {w : World} {B B' e size n : Nat} {v : Value} {xs : List Value} (h : w.ownsRow B e size v n xs) (hB : B' ≤ B) : w.ownsRow B' e size v n xs :=
 ⟨h.1, h.2.imp id fun ⟨g, cap, cur, h1, h2, h3⟩ => ⟨g, cap, cur, h1, Nat.le_trans hB h2, h3⟩⟩
end Go.Proofs.YtgldkfaiofkhbaaGreatDoor.RowsT

namespace Go.Proofs.YtgldkfaiofkhbaaGreatDoor.Ahead
open Go Go.RowKit Go.Proofs.YtgldkfaiofkhbaaGreatDoor Digest Mem Sha ShaWalk Bytes Go.Proofs.YtgldkfaiofkhbaaGreatDoor.Append HashMem DigestMem DigestTop QuietTail Grown Chain TreeMath TreeMem TreeRoot Held Guard Book Node NodeW WayP RevP TreeRefRoot Climb Incl Subs RowsP Joint RefIncl0 AheadM AheadT

def AhPost (w : World) (Z : Ah) (e : Ending) (w' : World) : Prop := ∃ A c xs, e = .returned (.tuple #[.agg (cells8 Z.fr).toArray, .agg (cells8 Z.sr).toArray, .slice A (Z.ft.length + Z.st.length) c]) ∧ Reads w' 1 A (Z.ft.length + Z.st.length) xs ∧ Tx w' xs (Z.ft ++ Z.st) ∧ Below w.heap.size w w'
def AhOwn (w : World) (Z : Ah) (e : Ending) (w' : World) : Prop := ∃ A c xs, e = .returned (.tuple #[.agg (cells8 Z.fr).toArray, .agg (cells8 Z.sr).toArray, .slice A (Z.ft.length + Z.st.length) c]) ∧ w'.ownsRow w.heap.size 27 1 (.slice A (Z.ft.length + Z.st.length) c) (Z.ft.length + Z.st.length) xs ∧ Tx w' xs (Z.ft ++ Z.st) ∧ Below w.heap.size w w'
theorem AhOwn.post {w : World} {Z : Ah} {e : Ending} {w' : World} (h : AhOwn w Z e w') : AhPost w Z e w' := by
 obtain ⟨A, c, xs, h1, h2, h3, h4⟩ := h
 obtain ⟨A9, c9, e9, -, -, -, hR9, -⟩ := Append.Own.reads h2
 injection e9 with e91 e92 e93
 subst e91
 exact ⟨A, c, xs, h1, hR9, h3, h4⟩
set_option maxRecDepth 100000 in
set_option maxHeartbeats 4000000 in
theorem ahead_own (s : Int) (old size : Nat) (h1 : 1 ≤ old) (h2 : old < size) (hs : size ≤ 1099511627776) (root : Text) (hrt : root.length = 32) (ds : List Text) (A : Option Addr) (n c : Nat) (hn : (partsOf old size).length = n) (w : World) (hB : Base w) (hr : RdD w A n ds) :
  Calls Tryz.prog 221 #[.int .i64 s, .int .i64 (old : Int), .int .i64 (size : Int), .agg (cells8 root).toArray, .slice A n c] w (AhOwn w (aheadOf s old size root ds)) := by
 obtain ⟨i0, ii, iz0, iz1, iz2⟩ := info_partsN infoT
 have hn41 : Hid (n ≤ 41) := by show _ ≤ _; rw [← hn, partsOf_len (by omega)]; exact betw_le (by omega) hs
 obtain ⟨hlow, -, -⟩ := parts_low h1 h2
 rw [hn] at hlow
 obtain ⟨low, hlo⟩ : ∃ low, lowOf old = low := ⟨_, rfl⟩
 rw [hlo] at hlow
 obtain ⟨P, hP⟩ : ∃ P, ((partsOf old size).map (bh old)).zip ds = P := ⟨_, rfl⟩
 obtain ⟨x0, hx0⟩ : ∃ x0, (if powB old then root else ds.getD 0 []) = x0 := ⟨_, rfl⟩
 have hZ : aheadOf s old size root ds = aheadS s x0 low P n := by unfold aheadOf; rw [hP, hlo, hx0, hr.1]
 rw [hZ]
 clear hZ
 have hPl : P.length = n := by rw [← hP, List.length_zip, List.length_map, hn, hr.1]; omega
 have hPd : ∀ p ∈ P, p.2.length = 32 := fun p hp => by rw [← hP] at hp; exact hr.2.1 _ (List.of_mem_zip (show (p.1, p.2) ∈ _ from hp)).2
 obtain ⟨d0, hd0⟩ : ∃ d0, ds[0]? = some d0 := ⟨_, List.getElem?_eq_getElem (by have := hr.1; omega)⟩
 have hx0l : x0.length = 32 := by
  rw [← hx0]
  split
  ·exact hrt
  ·have := hr.2.1.at_ hd0
   simpa [List.getD, hd0] using this
 have hok : Hid (∀ j, low ≤ j → j ≤ n → (aheadS s x0 low P j).Ok (j - low)) := fun j h1 h2 => by
  have := aheadS_ok (s := s) (low := low) hx0l hPd (j - low) (by omega)
  rwa [show low + (j - low) = j by omega] at this
 have hPj : Hid (∀ j p d, (partsOf old size)[j]? = some p → ds[j]? = some d → P[j]? = some (bh old p, d)) := fun j p d h1 h2 => by
  rw [← hP]
  exact List.getElem?_zip_eq_some.2 ⟨by rw [List.getElem?_map, h1]; rfl, h2⟩
 obtain ⟨ps, hps⟩ : ∃ ps, partsOf old size = ps := ⟨_, rfl⟩
 have hPt := Lib.hid (fun w' => parts_any old size (by omega) hs w')
 rw [hps] at hPt hPj hn
 have hpw := and_pred h1
 have hai := and_i64 old h1 (by omega)
 have hb0 : Hid (Below w.heap.size w (((w.alloc (.cells (cells8 root).toArray 23)).alloc (.cells Z32 23)).alloc (.cells Z32 23))) := ((Below.heap_below w _).alloc (by simp) _).alloc (by simp; omega) _
 have hz0 : Hid ((((w.alloc (.cells (cells8 root).toArray 23)).alloc (.cells Z32 23)).alloc (.cells Z32 23)).heap.size = w.heap.size + 3) := by show _ = _; simp
 have hz2 : ((w.alloc (.cells (cells8 root).toArray 23)).alloc (.cells Z32 23)).heap.size = w.heap.size + 2 := by simp
 have hz1 : (w.alloc (.cells (cells8 root).toArray 23)).heap.size = w.heap.size + 1 := by simp
 have hR0 : Hid (Blk (((w.alloc (.cells (cells8 root).toArray 23)).alloc (.cells Z32 23)).alloc (.cells Z32 23)) w.heap.size 23 (cells8 root).toArray) := ((Blk.new w _ _).alloc _).alloc _
 have hA0 : Hid (Blk (((w.alloc (.cells (cells8 root).toArray 23)).alloc (.cells Z32 23)).alloc (.cells Z32 23)) (w.heap.size + 1) 23 Z32) := by
  have := (Blk.new (w.alloc (.cells (cells8 root).toArray 23)) 23 Z32).alloc (.cells Z32 23)
  rwa [hz1] at this
 have hE0 : Hid (Blk (((w.alloc (.cells (cells8 root).toArray 23)).alloc (.cells Z32 23)).alloc (.cells Z32 23)) (w.heap.size + 2) 23 Z32) := by
  have := Blk.new ((w.alloc (.cells (cells8 root).toArray 23)).alloc (.cells Z32 23)) 23 Z32
  rwa [hz2] at this
 have Fr := Lib.hid (fit (x := root) hrt)
 have Fx := Lib.hid (fit (x := x0) hx0l)
 have hBs := Lib.hid (fun w' (hb : Below w.heap.size w w') => hB.below hb hB.1)
 have hgb : Hid (1 < w.heap.size) := hB.1
 have hlw := Lib.hid hlo
 have hx0h := Lib.hid hx0
 have hd0h := Lib.hid hd0
 replace hr := Lib.hid hr
 replace hn := Lib.hid hn
 replace hlow := Lib.hid hlow
 have hob : Hid (1 ≤ old ∧ old ≤ 1099511627776) := by show _ ∧ _; omega
 have hx0lh := Lib.hid hx0l
 clear hs hrt hB hx0 hx0l hd0 hlo hz1 hz2 hP hPl hPd hps h1 h2
 go_enter Tryz.func221, Tryz.ntmps221
 go_wp2_with fail
 change Calls _ _ _ (((w.alloc (.cells (cells8 root).toArray 23)).alloc (.cells Z32 23)).alloc (.cells Z32 23)) _
 generalize (((w.alloc (.cells (cells8 root).toArray 23)).alloc (.cells Z32 23)).alloc (.cells Z32 23)) = w0 at *
 refine (hPt.out _).mono ?_
 rintro e w3 ⟨v, rfl, hO, hk1⟩
 rw [hn.out] at hO
 obtain ⟨Ap, cp, rfl, -, -, -, hPr, hApB⟩ := Append.Own.reads hO
 have hb3 : Hid (Below w.heap.size w w3) := hb0.out.trans (hk1.mono hb0.out.size)
 have hR3 : Hid (Blk w3 w.heap.size 23 (cells8 root).toArray) := (hk1.block _ hR0.out.lt).trans hR0.out
 have hA3 : Hid (Blk w3 (w.heap.size + 1) 23 Z32) := (hk1.block _ hA0.out.lt).trans hA0.out
 have hE3 : Hid (Blk w3 (w.heap.size + 2) 23 Z32) := (hk1.block _ hE0.out.lt).trans hE0.out
 have hs3 : Hid (w.heap.size + 3 ≤ w3.heap.size) := by have := hk1.size; have := hz0.out; show _ ≤ _; omega
 replace hPr := Lib.hid hPr
 clear hO hk1 hb0 hR0 hA0 hE0 hz0 hPt hApB
 go_wp2_with fail
 obtain ⟨w4, hw4⟩ : ∃ w4, Hid (w4 = (w3.alloc (.cells #[.int .i64 s, .slice none 0 0] 322)).alloc (.cells #[.int .i64 s, .slice none 0 0] 322)) := ⟨_, rfl⟩
 have hb4 : Hid (Below w3.heap.size w3 w4) := by show Below _ _ _; rw [hw4.out]; exact (Below.heap_below w3 _).alloc (by simp) _
 have hW4 : Hid (Blk w4 w3.heap.size 322 #[.int .i64 s, .slice none 0 0]) := by show Blk _ _ _ _; rw [hw4.out]; exact heap_alloc2_old w3 _ _
 have hI4 : Hid (Blk w4 (w3.heap.size + 1) 322 #[.int .i64 s, .slice none 0 0]) := by show Blk _ _ _ _; rw [hw4.out]; exact heap_alloc2_new w3 _ _
 have hs4 : Hid (w4.heap.size = w3.heap.size + 2) := by show _ = _; rw [hw4.out]; simp
 have hR4 : Hid (Blk w4 w.heap.size 23 (cells8 root).toArray) := (hb4.out.block _ hR3.out.lt).trans hR3.out
 change (Code.region _ _ _).wp _ _ _ ((w3.alloc (.cells #[.int .i64 s, .slice none 0 0] 322)).alloc (.cells #[.int .i64 s, .slice none 0 0] 322))
 rw [← hw4.out]
 clear hw4 hR3
 go_cut [16, 17, 18] from 29 to 30 (fun v u z wr => ∃ m16 m17 : Nat, v = .pointer (some ⟨m16, 0, none⟩) ∧ u = .pointer (some ⟨m17, 0, none⟩) ∧ z = .int .i64 0 ∧ Hid (m16 ≠ m17) ∧ Hid (w4.heap.size ≤ m16) ∧ Hid (w4.heap.size ≤ m17) ∧ Hid (Blk wr m16 23 (cells8 root).toArray) ∧ Hid (Blk wr m17 23 (cells8 root).toArray) ∧ Hid (Below w4.heap.size w4 wr))
 case first =>
  have s0 : Hid (Below w4.heap.size w4 w4.drew) := (Below.refl _ _).drew
  refine held_start (fun w' => Below w4.heap.size w4 w') 7 rfl (by kernel_rfl) ?_
  refine Held.tk0 (i := 0) (v := .agg ((cells8 root).toArray)) rfl s0.out (fun w' hw' => exec_row 23 (.tmp 8) rfl (w.heap.size) rfl 23 ((cells8 root).toArray) (0, 0) _ ((hw'.block _ hR4.out.lt).trans hR4.out) Tryz.underlying23 rfl Fr.out.size) ?_
  (intro K k; go_simp; apply k; clear k K)
  refine Held.tk0 (i := 1) (v := .agg ((cells8 root).toArray)) rfl s0.out (fun w' hw' => exec_row 23 (.tmp 8) rfl (w.heap.size) rfl 23 ((cells8 root).toArray) (0, 0) _ ((hw'.block _ hR4.out.lt).trans hR4.out) Tryz.underlying23 rfl Fr.out.size) ?_
  (intro K k; go_simp; apply k; clear k K)
  refine held_two (i := 2) (j := 3) rfl rfl (by kernel_rfl) (by rfl) (by rfl) (fun K hK => ?_) (fun K hK => ?_)
  ·have h5 : Hid (Below w4.heap.size w4 (w4.drew.alloc (.cells Z32 23))) := s0.out.alloc s0.out.size _
   have bA : Hid (Blk (w4.drew.alloc (.cells Z32 23)) w4.drew.heap.size 23 Z32) := Blk.new _ _ _
   go_simp
   refine hK _ _ h5.out ?_
   clear hK K
   refine held_only (i := 3) rfl (by kernel_rfl) (by rfl) (fun K hK => ?_)
   have h6 : Hid (Below w4.heap.size w4 ((w4.drew.alloc (.cells Z32 23)).alloc (.cells Z32 23))) := h5.out.alloc h5.out.size _
   have bB : Hid (Blk ((w4.drew.alloc (.cells Z32 23)).alloc (.cells Z32 23)) (w4.drew.alloc (.cells Z32 23)).heap.size 23 Z32) := Blk.new _ _ _
   go_simp
   refine hK _ _ h6.out ?_
   clear hK K
   have hzA : Hid ((w4.drew.alloc (.cells Z32 23)).heap.size = w4.heap.size + 1) := by show _ = _; simp
   replace bA : Hid (Blk ((w4.drew.alloc (.cells Z32 23)).alloc (.cells Z32 23)) w4.heap.size 23 Z32) := bA.out.alloc _
   replace bB : Hid (Blk ((w4.drew.alloc (.cells Z32 23)).alloc (.cells Z32 23)) (w4.heap.size + 1) 23 Z32) := by have := bB.out; rw [hzA.out] at this; exact this
   refine held_only (i := 4) rfl (by kernel_rfl) (by rfl) (fun K hK => ?_)
   refine wp_store_whole 23 (.tmp 16) (.tmp 29) rfl (w4.heap.size) ((cells8 root).toArray) rfl rfl 23 Z32 bA.out Fr.out.size Fr.out.zero Fr.out.one ?_
   intro w7 q7 k7
   have h7 : Hid (Below w4.heap.size w4 w7) := h6.out.trans (Kept.below_of k7 (by omega) h6.out.size)
   have o7 : Hid (Blk w7 (w4.heap.size + 1) 23 Z32) := bB.out.kept k7 (by omega)
   go_simp
   refine hK _ _ h7.out ?_
   clear hK K
   refine held_only (i := 5) rfl (by kernel_rfl) (by rfl) (fun K hK => ?_)
   refine wp_store_whole 23 (.tmp 17) (.tmp 30) rfl (w4.heap.size + 1) ((cells8 root).toArray) rfl rfl 23 Z32 o7.out Fr.out.size Fr.out.zero Fr.out.one ?_
   intro w8 q8 k8
   have h8 : Hid (Below w4.heap.size w4 w8) := h7.out.trans (Kept.below_of k8 (by omega) h7.out.size)
   have o8 : Hid (Blk w8 (w4.heap.size) 23 (cells8 root).toArray) := q7.kept k8 (by omega)
   go_simp
   refine hK _ _ h8.out ?_
   clear hK K
   refine Held.tk0 (i := 6) (v := .int .i64 0) rfl h8.out (fun w' hw' => by first | go_simp | rfl) ?_
   (intro K k; go_simp; apply k; clear k K)
   refine held_end (by kernel_rfl) ?_
   go_wp2_with fail
   go_meet
   case rel => exact ⟨w4.heap.size, w4.heap.size + 1, rfl, rfl, rfl, (by show _ ≠ _; omega), (by show _ ≤ _; omega), (by show _ ≤ _; omega), o8.out, q8, h8.out⟩
  ·have h5 : Hid (Below w4.heap.size w4 (w4.drew.alloc (.cells Z32 23))) := s0.out.alloc s0.out.size _
   have bA : Hid (Blk (w4.drew.alloc (.cells Z32 23)) w4.drew.heap.size 23 Z32) := Blk.new _ _ _
   go_simp
   refine hK _ _ h5.out ?_
   clear hK K
   refine held_only (i := 2) rfl (by kernel_rfl) (by rfl) (fun K hK => ?_)
   have h6 : Hid (Below w4.heap.size w4 ((w4.drew.alloc (.cells Z32 23)).alloc (.cells Z32 23))) := h5.out.alloc h5.out.size _
   have bB : Hid (Blk ((w4.drew.alloc (.cells Z32 23)).alloc (.cells Z32 23)) (w4.drew.alloc (.cells Z32 23)).heap.size 23 Z32) := Blk.new _ _ _
   go_simp
   refine hK _ _ h6.out ?_
   clear hK K
   have hzA : Hid ((w4.drew.alloc (.cells Z32 23)).heap.size = w4.heap.size + 1) := by show _ = _; simp
   replace bA : Hid (Blk ((w4.drew.alloc (.cells Z32 23)).alloc (.cells Z32 23)) w4.heap.size 23 Z32) := bA.out.alloc _
   replace bB : Hid (Blk ((w4.drew.alloc (.cells Z32 23)).alloc (.cells Z32 23)) (w4.heap.size + 1) 23 Z32) := by have := bB.out; rw [hzA.out] at this; exact this
   refine held_only (i := 4) rfl (by kernel_rfl) (by rfl) (fun K hK => ?_)
   refine wp_store_whole 23 (.tmp 16) (.tmp 29) rfl (w4.heap.size + 1) ((cells8 root).toArray) rfl rfl 23 Z32 bB.out Fr.out.size Fr.out.zero Fr.out.one ?_
   intro w7 q7 k7
   have h7 : Hid (Below w4.heap.size w4 w7) := h6.out.trans (Kept.below_of k7 (by omega) h6.out.size)
   have o7 : Hid (Blk w7 (w4.heap.size) 23 Z32) := bA.out.kept k7 (by omega)
   go_simp
   refine hK _ _ h7.out ?_
   clear hK K
   refine held_only (i := 5) rfl (by kernel_rfl) (by rfl) (fun K hK => ?_)
   refine wp_store_whole 23 (.tmp 17) (.tmp 30) rfl (w4.heap.size) ((cells8 root).toArray) rfl rfl 23 Z32 o7.out Fr.out.size Fr.out.zero Fr.out.one ?_
   intro w8 q8 k8
   have h8 : Hid (Below w4.heap.size w4 w8) := h7.out.trans (Kept.below_of k8 (by omega) h7.out.size)
   have o8 : Hid (Blk w8 (w4.heap.size + 1) 23 (cells8 root).toArray) := q7.kept k8 (by omega)
   go_simp
   refine hK _ _ h8.out ?_
   clear hK K
   refine Held.tk0 (i := 6) (v := .int .i64 0) rfl h8.out (fun w' hw' => by first | go_simp | rfl) ?_
   (intro K k; go_simp; apply k; clear k K)
   refine held_end (by kernel_rfl) ?_
   go_wp2_with fail
   go_meet
   case rel => exact ⟨w4.heap.size + 1, w4.heap.size, rfl, rfl, rfl, (by show _ ≠ _; omega), (by show _ ≤ _; omega), (by show _ ≤ _; omega), o8.out, q8, h8.out⟩
 case rest =>
  obtain ⟨m16, m17, rfl, rfl, rfl, hne, hl16, hl17, hM16, hM17, hk5⟩ := hcut
  obtain ⟨w5, rfl⟩ : ∃ w5 : World, w5 = wc := ⟨_, rfl⟩
  have b1 : (0 : Int) ≤ (old : Int) := by omega
  have b2 : (old : Int) ≤ 1099511627776 := by have := hob.out; omega
  have b3 : (1 : Int) ≤ (old : Int) := by have := hob.out; omega
  obtain ⟨an, han⟩ : ∃ an, old &&& (old - 1) = an := ⟨_, rfl⟩
  rw [han] at hai hpw
  replace hpw := Lib.hid hpw
  clear han
  go_upto_if 35 with fail
  clear b1 b2 b3
  try clear hai
  go_cut [18] from 31 to 41 (fun v wr => v = .int .i64 (low : Int) ∧ Hid (Blk wr m16 23 (cells8 x0).toArray) ∧ Hid (Blk wr m17 23 (cells8 x0).toArray) ∧ Hid (Kept (fun k => k = m16 ∨ k = m17) w5 wr))
  case first =>
   by_cases hp : powB old = true
   ·have hand := hpw.2 hp
    have hl0 : low = 0 := by rw [← hlw.out]; unfold lowOf; rw [if_pos hp]
    have hxr : root = x0 := by rw [← hx0h.out, if_pos hp]
    subst hl0 hxr
    clear hp hpw
    go_wp2_with fail
    go_meet
    case rel => exact ⟨rfl, hM16.out, hM17.out, Kept.refl _ _⟩
   ·have hand : ¬ an = 0 := fun e => hp (hpw.out.1 e)
    have ha1 : ((an : Int) == 0) = false := beq_eq_false_iff_ne.2 (by omega)
    have hl0 : low = 1 := by rw [← hlw.out]; unfold lowOf; rw [if_neg hp]
    have hxd : d0 = x0 := by
     have h := hx0h.out
     rw [if_neg hp] at h
     rw [← h]
     simp [List.getD, hd0h.out]
    subst hl0 hxd
    have hn1 : (0 : Int) < (n : Int) := by have := hlow.out; omega
    obtain ⟨b, o, rfl, hbb, hdc0⟩ := hr.out.at_ hd0h.out
    have hbw5 : Hid (Below w.heap.size w w5) := (hb3.out.trans (hb4.out.mono hb3.out.size)).trans (hk5.out.mono (by have := hb3.out.size; have := hb4.out.size; omega))
    have hdc : Hid (∀ w', Below w5.heap.size w5 w' → ∀ k v, (cells8 d0)[k]? = some v → w'.cell? ⟨b, o + k, none⟩ = some v) := fun w' hb k v hv => by
     have := ((hbw5.out.trans (hb.mono hbw5.out.size)).cell (p := ⟨b, o + 0 * 32 + k, none⟩) hbb).trans (hdc0 k v hv)
     simpa using this
    have hbbh := Lib.hid hbb
    have hn0 : ¬ n = 0 := by omega
    clear hp hpw hdc0 hbb
    go_wp2_with fail
    have hbq : Hid (b < w.heap.size) := hbbh.out
    have hdk : Hid (∀ w', Kept (fun k => k = m16 ∨ k = m17) w5 w' → ∀ k v, (cells8 d0)[k]? = some v → w'.cell? ⟨b, o + k, none⟩ = some v) := fun w' hk k v hv => (hk.cell (p := ⟨b, o + k, none⟩) (by have := hbq.out; have := hbw5.out.size; show b < _; omega) (fun h => by have := hbq.out; have := hl16.out; have := hl17.out; have := hb3.out.size; have := hb4.out.size; rcases h with h | h <;> (have h : b = _ := h; omega))).trans (hdc.out w5 (Below.refl _ _) k v hv)
    have s0 : Hid (Kept (fun k => k = m16 ∨ k = m17) w5 w5.drew) := (Kept.refl _ _).drew
    refine held_start (fun w' => Kept (fun k => k = m16 ∨ k = m17) w5 w') 9 rfl (by kernel_rfl) ?_
    refine Held.tk0 (i := 0) (v := .slice (some ⟨b, o, none⟩) n c) rfl s0.out (fun w' hw' => run_mv (.tmp 4) rfl w') ?_
    (intro K k; go_simp; apply k; clear k K)
    refine Held.tk0 (i := 1) (v := .pointer (some ⟨b, o, none⟩)) rfl s0.out (fun w' hw' => by go_simp) ?_
    (intro K k; go_simp; apply k; clear k K)
    refine Held.tk0 (i := 2) (v := .agg (cells8 d0).toArray) rfl s0.out (fun w' hw' => exec_part 23 (.tmp 37) rfl (b) (o) rfl (cells8 d0) _ (hdk.out w' hw') Tryz.underlying23 rfl Fx.out.part) ?_
    (intro K k; go_simp; apply k; clear k K)
    refine Held.tk0 (i := 3) (v := .slice (some ⟨b, o, none⟩) n c) rfl s0.out (fun w' hw' => run_mv (.tmp 4) rfl w') ?_
    (intro K k; go_simp; apply k; clear k K)
    refine Held.tk0 (i := 4) (v := .pointer (some ⟨b, o, none⟩)) rfl s0.out (fun w' hw' => by go_simp) ?_
    (intro K k; go_simp; apply k; clear k K)
    refine Held.tk0 (i := 5) (v := .agg (cells8 d0).toArray) rfl s0.out (fun w' hw' => exec_part 23 (.tmp 40) rfl (b) (o) rfl (cells8 d0) _ (hdk.out w' hw') Tryz.underlying23 rfl Fx.out.part) ?_
    (intro K k; go_simp; apply k; clear k K)
    refine held_only (i := 6) rfl (by kernel_rfl) (by rfl) (fun K hK => ?_)
    refine wp_store_whole 23 (.tmp 16) (.tmp 38) rfl (m16) ((cells8 d0).toArray) rfl rfl 23 (cells8 root).toArray hM16.out Fx.out.size (Fx.out.same root (by have := Fr.out.part; rw [← cells8_len]; have h2 := size31; rw [h2] at this; simpa using this.symm)) Fx.out.one ?_
    intro w7 q7 k7
    have h7 : Hid (Kept (fun k => k = m16 ∨ k = m17) w5 w7) := s0.out.trans k7 (fun i _ h => .inl h)
    have o7 : Hid (Blk w7 m17 23 (cells8 root).toArray) := Blk.kept (w := w5.drew) hM17.out k7 (fun h => hne.out (Eq.symm h))
    go_simp
    refine hK _ _ h7.out ?_
    clear hK K
    refine held_only (i := 7) rfl (by kernel_rfl) (by rfl) (fun K hK => ?_)
    refine wp_store_whole 23 (.tmp 17) (.tmp 41) rfl (m17) ((cells8 d0).toArray) rfl rfl 23 (cells8 root).toArray o7.out Fx.out.size (Fx.out.same root (by have := Fr.out.part; rw [← cells8_len]; have h2 := size31; rw [h2] at this; simpa using this.symm)) Fx.out.one ?_
    intro w8 q8 k8
    have h8 : Hid (Kept (fun k => k = m16 ∨ k = m17) w5 w8) := h7.out.trans k8 (fun i _ h => .inr h)
    have o8 : Hid (Blk w8 m16 23 (cells8 d0).toArray) := q7.kept k8 (fun h => hne.out h)
    go_simp
    refine hK _ _ h8.out ?_
    clear hK K
    refine Held.tk0 (i := 8) (v := .int .i64 1) rfl h8.out (fun w' hw' => by first | go_simp | rfl) ?_
    (intro K k; go_simp; apply k; clear k K)
    refine held_end (by kernel_rfl) ?_
    go_wp2_with fail
    go_meet
    case rel => exact ⟨rfl, o8.out, q8, h8.out⟩
  case rest =>
   obtain ⟨rfl, hX16, hX17, hk6⟩ := hcut
   clear hpw hM16 hM17 hd0h hx0h hR4
   have hb6 : Hid (Below w3.heap.size w3 wc) := Kept.toBelow (hb4.out.trans (hk5.out.mono hb4.out.size)) hk6.out (fun k h => by have := hl16.out; have := hl17.out; have := hs4.out; rcases h with h | h <;> omega) (by have := hb4.out.size; have := hk5.out.size; omega)
   have hW6 : Hid (Blk wc w3.heap.size 322 #[.int .i64 s, .slice none 0 0]) := Blk.kept (w := w5) (show Blk w5 _ _ _ from (hk5.out.block _ hW4.out.lt).trans hW4.out) hk6.out (fun h => by have := hl16.out; have := hl17.out; have := hs4.out; rcases h with h | h <;> omega)
   have hI6 : Hid (Blk wc (w3.heap.size + 1) 322 #[.int .i64 s, .slice none 0 0]) := Blk.kept (w := w5) (show Blk w5 _ _ _ from (hk5.out.block _ hI4.out.lt).trans hI4.out) hk6.out (fun h => by have := hl16.out; have := hl17.out; have := hs4.out; rcases h with h | h <;> omega)
   have hlt : Hid (w3.heap.size < wc.heap.size ∧ w3.heap.size + 1 < wc.heap.size ∧ m16 < wc.heap.size ∧ m17 < wc.heap.size) := ⟨hW6.out.lt, hI6.out.lt, hX16.out.lt, hX17.out.lt⟩
   have hA0 : Hid (AhAt wc wc w3.heap.size (w3.heap.size + 1) none none m16 m17 s (aheadS s x0 low P low).fr (aheadS s x0 low P low).sr (aheadS s x0 low P low).ft (aheadS s x0 low P low).st) := by
    show AhAt _ _ _ _ _ _ _ _ _ _ _ _ _
    rw [aheadS_low]
    have e1 : ClAt wc w3.heap.size none s [] := ⟨_, [], hW6.out, World.ownsRow_nil _ _ _ _, rfl, (fun k e => by cases e), fun i q h => by simp at h⟩
    have e2 : ClAt wc (w3.heap.size + 1) none s [] := ⟨_, [], hI6.out, World.ownsRow_nil _ _ _ _, rfl, (fun k e => by cases e), fun i q h => by simp at h⟩
    exact ⟨hX16.out, hX17.out, e1, e2, (fun k e => by cases e), (fun k e => by cases e), (fun k e => by cases e), fun _ => rfl, fun _ => rfl, Kept.refl _ _⟩
   have hdis : Hid (w3.heap.size ≠ m16 ∧ w3.heap.size ≠ m17 ∧ w3.heap.size + 1 ≠ m16 ∧ w3.heap.size + 1 ≠ m17 ∧ m16 ≠ m17 ∧ w3.heap.size ≤ m16 ∧ w3.heap.size ≤ m17) := by have := hl16.out; have := hl17.out; have := hs4.out; have := hne.out; show _ ∧ _; omega
   obtain ⟨w6, rfl⟩ : ∃ w6 : World, w6 = wc := ⟨_, rfl⟩
   clear hW4 hI4 hW6 hI6 hX16 hX17 hk5 hk6 hl16 hl17 hne hs4 hb4
   go_wp2_with fail
   go_loopw [19] (fun v wr => ∃ (j : Nat) (r1 r2 : Option Nat), v = .int .i64 (j : Int) ∧ Hid (low ≤ j ∧ j ≤ n) ∧ Hid (AhAt w6 wr w3.heap.size (w3.heap.size + 1) r1 r2 m16 m17 s (aheadS s x0 low P j).fr (aheadS s x0 low P j).sr (aheadS s x0 low P j).ft (aheadS s x0 low P j).st)) (fun v _ => (n - intOf v).toNat)
   case atStart => exact ⟨low, none, none, rfl, ⟨Nat.le_refl _, by have := hlow.out; omega⟩, hA0.out⟩
   case round =>
    clear hA0
    obtain ⟨j, r1, r2, rfl, hj, hI⟩ := hrel
    have hbw : Hid (Below w3.heap.size w3 wr) := Kept.toBelow hb6.out hI.out.kept (fun k h => by have := hdis.out; rcases h with h | h | h | h <;> omega) hb6.out.size
    have hbW : Hid (Below w.heap.size w wr) := hb3.out.trans (hbw.out.mono hb3.out.size)
    have hZok := Lib.hid (hok.out j hj.out.1 hj.out.2)
    by_cases hlt2 : j < n
    ·obtain ⟨p, hp⟩ : ∃ p, ps[j]? = some p := ⟨_, List.getElem?_eq_getElem (by rw [hn.out]; exact hlt2)⟩
     obtain ⟨d, hd⟩ : ∃ d, ds[j]? = some d := ⟨_, List.getElem?_eq_getElem (by rw [hr.out.1]; exact hlt2)⟩
     have hst := Lib.hid (aheadS_succ (s := s) (x := x0) hj.out.1 (hPj.out j p d hp hd))
     have hZok2 := Lib.hid (hok.out (j + 1) (by have := hj.out.1; omega) hlt2)
     have hdl := Lib.hid (hr.out.2.1.at_ hd)
     have Fd := Lib.hid (fit (x := d) hdl.out)
     obtain ⟨Z, hZe⟩ : ∃ Z, Hid (aheadS s x0 low P j = Z) := ⟨_, Lib.hid rfl⟩
     obtain ⟨Y, hYe⟩ : ∃ Y, Hid (aheadS s x0 low P (j + 1) = Y) := ⟨_, Lib.hid rfl⟩
     rw [hZe.out] at hI hst hZok
     rw [hYe.out] at hst hZok2
     obtain ⟨bp, op, rfl, hbp, hpc0⟩ := hPr.out.at_ (by omega)
     have hpc : wr.cell? ⟨bp, op + j * 2, none⟩ = some (.int .i64 (p.1 : Int)) := by
      have h1 := flatP_at ps [] j p hp 0 (.int .i64 (p.1 : Int)) rfl
      rw [List.append_nil, List.getElem?_toArray] at h1
      have h2 := hpc0 _ _ h1
      rw [Nat.add_zero] at h2
      exact (hbw.out.cell (p := ⟨bp, op + j * 2, none⟩) hbp).trans h2
     obtain ⟨b, o, rfl, hbb, hdc0⟩ := hr.out.at_ hd
     have hdc : Hid (∀ w', Below w.heap.size w w' → ∀ k v, (cells8 d)[k]? = some v → w'.cell? ⟨b, o + j * 32 + k, none⟩ = some v) := fun w' hb k v hv => (hb.cell (p := ⟨b, o + j * 32 + k, none⟩) hbb).trans (hdc0 k v hv)
     have hjn : Hid (j + 1 ≤ n) := hlt2
     have z1 : (0 : Int) ≤ (j : Int) := by omega
     have z2 : (j : Int) < (n : Int) := by omega
     have z3 : (n : Int) ≤ 41 := by have := hn41.out; omega
     have Fa := Lib.hid (fit (x := Z.fr) hZok.out.fl)
     have Fb := Lib.hid (fit (x := Z.sr) hZok.out.sl)
     clear hlt2 hp hd hpc0 hdc0 hbb hbp
     by_cases hside : old ≤ p.1
     ·have hY : Hid (Y = ⟨Z.fr, ndOf s Z.sr d, Z.ft, Z.st ++ [kb 1 :: (Z.sr ++ d)]⟩) := by show _ = _; rw [hst.out, ahead1, if_pos (by simp [bh, hside])]
      obtain ⟨zb, hzb⟩ : ∃ z, Hid (ndOf s Z.sr d = z) := ⟨_, Lib.hid rfl⟩
      have Fzb := Lib.hid (fit (x := zb) (by rw [← hzb.out]; exact ndOf_len s _ _))
      rw [hzb.out] at hY
      have hq65 : Hid (∀ q ∈ Z.st ++ [kb 1 :: (Z.sr ++ d)], q.length = 65) := by have := hZok2.out.st; rw [hY.out] at this; exact this
      have zt : (old : Int) ≤ (p.1 : Int) := by omega
      clear hside hst
      go_wp2_with fail
      refine wp_region_class_tail 6 (Class wr) (by kernel_rfl) (by kernel_rfl) (Class.mk_ ((Below.refl _ _).drew)) ?_
      refine wpQuiet_move rfl (.tmp 15) rfl ?_
      (intro K k; go_simp; apply k; clear k K)
      refine wpQuiet_load_row rfl 23 (.tmp 17) rfl m17 rfl 23 ((cells8 Z.sr).toArray) (0, 0) _ (fun w' hw' => (hw'.below.block _ hI.out.lf2.lt).trans hI.out.lf2) Tryz.underlying23 rfl Fb.out.size ?_
      (intro K k; go_simp; apply k; clear k K)
      refine wpQuiet_move rfl (.tmp 4) rfl ?_
      (intro K k; go_simp; apply k; clear k K)
      refine wpQuiet_move rfl (.tmp 19) rfl ?_
      (intro K k; go_simp; apply k; clear k K)
      refine wpQuiet_val (v := .pointer (some ⟨b, o + j * 32, none⟩)) rfl (fun w' hw' => by go_simp) ?_
      (intro K k; go_simp; apply k; clear k K)
      refine wpQuiet_load_part rfl 23 (.tmp 60) rfl b (o + j * 32) rfl (cells8 d) _ (fun w' hw' => hdc.out w' (hbW.out.trans (hw'.below.mono hbW.out.size))) Tryz.underlying23 rfl Fd.out.part ?_
      (intro K k; go_simp; apply k; clear k K)
      refine wpQuiet_nil ?_
      intro u7 hu7
      have hbu7 : Hid (Below w.heap.size w u7) := hbW.out.trans (hu7.below.mono hbW.out.size)
      simp only [List.drop]
      go_wp2_with fail
      refine (node_walk (w3.heap.size + 1) r2 s Z.st Z.sr d hZok.out.sl hdl.out u7 (hBs.out _ hbu7.out) (by have := hgb.out; have := hs3.out; omega) (ClAtM.kept hI.out.cl2 (Kept.of_below hu7.below) (fun h => h) (fun _ _ h => h)) (by have := hZok.out.sk; have := hn41.out; have := hjn.out; omega)).mono ?_
      rw [hzb.out]
      rintro e y7 ⟨rfl, hC7⟩
      obtain ⟨hB7, rn7, hN7⟩ := AhAt.step (z := zb) hI.out.swap hu7.below hC7 hq65.out hZok.out.ft hZok.out.sl (by omega) hdis.out.2.2.2.1 hdis.out.2.2.1 hdis.out.2.1 (fun e => hdis.out.2.2.2.2.1 e.symm) ⟨hlt.out.2.1, hlt.out.1, hlt.out.2.2.2, hlt.out.2.2.1⟩
      replace hB7 := Lib.hid hB7
      replace hN7 := Lib.hid hN7.swap
      have hq7 := Lib.hid (Fzb.out.same Z.sr hZok.out.sl)
      clear hC7
      go_wp2_with ((with_reducible change wpList _ _ _ ({ dst := none, op := Op.store 23 _ _, type := _, pos := _, after := _, guard := _ } :: _) _ _); refine wpList_store_row (o := ⟨none, _, _, _, _, _⟩) rfl 23 (.tmp 17) (.tmp 62) rfl (m17) ((cells8 zb).toArray) rfl rfl 23 ((cells8 Z.sr).toArray) hB7.out Fzb.out.size hq7.out Fzb.out.one ?_)
      go_roundw
      case rel => exact ⟨j + 1, r1, rn7, by go_num, ⟨by have := hj.out.1; omega, hjn.out⟩, (by show AhAt _ _ _ _ _ _ _ _ _ _ _ _ _; rw [hYe.out, hY.out]; exact hN7.out)⟩
      case measure => (have := hjn.out; simp [intOf]; omega)
     ·have hY : Hid (Y = ⟨ndOf s d Z.fr, ndOf s d Z.sr, Z.ft ++ [kb 1 :: (d ++ Z.fr)], Z.st ++ [kb 1 :: (d ++ Z.sr)]⟩) := by show _ = _; rw [hst.out, ahead1, if_neg (by simp [bh]; omega)]
      obtain ⟨za, hza⟩ : ∃ z, Hid (ndOf s d Z.fr = z) := ⟨_, Lib.hid rfl⟩
      have Fza := Lib.hid (fit (x := za) (by rw [← hza.out]; exact ndOf_len s _ _))
      obtain ⟨zb, hzb⟩ : ∃ z, Hid (ndOf s d Z.sr = z) := ⟨_, Lib.hid rfl⟩
      have Fzb := Lib.hid (fit (x := zb) (by rw [← hzb.out]; exact ndOf_len s _ _))
      have hzal : Hid (za.length = 32) := by show _ = _; rw [← hza.out]; exact ndOf_len s _ _
      rw [hza.out, hzb.out] at hY
      have hq65 : Hid (∀ q ∈ Z.st ++ [kb 1 :: (d ++ Z.sr)], q.length = 65) := by have := hZok2.out.st; rw [hY.out] at this; exact this
      have hf65 : Hid (∀ q ∈ Z.ft ++ [kb 1 :: (d ++ Z.fr)], q.length = 65) := by have := hZok2.out.ft; rw [hY.out] at this; exact this
      have zt : ¬ ((old : Int) ≤ (p.1 : Int)) := by omega
      clear hside hst
      go_wp2_with fail
      refine wp_region_class_tail 6 (Class wr) (by kernel_rfl) (by kernel_rfl) (Class.mk_ ((Below.refl _ _).drew)) ?_
      refine wpQuiet_move rfl (.tmp 14) rfl ?_
      (intro K k; go_simp; apply k; clear k K)
      refine wpQuiet_move rfl (.tmp 4) rfl ?_
      (intro K k; go_simp; apply k; clear k K)
      refine wpQuiet_move rfl (.tmp 19) rfl ?_
      (intro K k; go_simp; apply k; clear k K)
      refine wpQuiet_val (v := .pointer (some ⟨b, o + j * 32, none⟩)) rfl (fun w' hw' => by go_simp) ?_
      (intro K k; go_simp; apply k; clear k K)
      refine wpQuiet_load_part rfl 23 (.tmp 66) rfl b (o + j * 32) rfl (cells8 d) _ (fun w' hw' => hdc.out w' (hbW.out.trans (hw'.below.mono hbW.out.size))) Tryz.underlying23 rfl Fd.out.part ?_
      (intro K k; go_simp; apply k; clear k K)
      refine wpQuiet_load_row rfl 23 (.tmp 16) rfl m16 rfl 23 ((cells8 Z.fr).toArray) (0, 0) _ (fun w' hw' => (hw'.below.block _ hI.out.lf1.lt).trans hI.out.lf1) Tryz.underlying23 rfl Fa.out.size ?_
      (intro K k; go_simp; apply k; clear k K)
      refine wpQuiet_nil ?_
      intro u7 hu7
      have hbu7 : Hid (Below w.heap.size w u7) := hbW.out.trans (hu7.below.mono hbW.out.size)
      simp only [List.drop]
      go_wp2_with fail
      refine (node_walk w3.heap.size r1 s Z.ft d Z.fr hdl.out hZok.out.fl u7 (hBs.out _ hbu7.out) (by have := hgb.out; have := hs3.out; omega) (ClAtM.kept hI.out.cl1 (Kept.of_below hu7.below) (fun h => h) (fun _ _ h => h)) (by have := hZok.out.fk; have := hn41.out; have := hjn.out; omega)).mono ?_
      rw [hza.out]
      rintro e y7 ⟨rfl, hC7⟩
      obtain ⟨hB7, rn7, hN7⟩ := AhAt.step (z := za) hI.out hu7.below hC7 hf65.out hZok.out.st hZok.out.fl (by omega) hdis.out.1 hdis.out.2.1 hdis.out.2.2.1 hdis.out.2.2.2.2.1 hlt.out
      replace hB7 := Lib.hid hB7
      replace hN7 := Lib.hid hN7
      have hq7 := Lib.hid (Fza.out.same Z.fr hZok.out.fl)
      clear hC7
      go_wp2_with ((with_reducible change wpList _ _ _ ({ dst := none, op := Op.store 23 _ _, type := _, pos := _, after := _, guard := _ } :: _) _ _); refine wpList_store_row (o := ⟨none, _, _, _, _, _⟩) rfl 23 (.tmp 16) (.tmp 69) rfl (m16) ((cells8 za).toArray) rfl rfl 23 ((cells8 Z.fr).toArray) hB7.out Fza.out.size hq7.out Fza.out.one ?_)
      generalize y7.setRow m16 (cells8 za).toArray = y8 at *
      have hbw8 : Hid (Below w3.heap.size w3 y8) := Kept.toBelow hb6.out hN7.out.kept (fun k h => by have := hdis.out; rcases h with h | h | h | h <;> omega) hb6.out.size
      have hbW8 : Hid (Below w.heap.size w y8) := hb3.out.trans (hbw8.out.mono hb3.out.size)
      clear hB7 hq7 hI hbw hbW hu7 hbu7
      refine wp_region_class_tail 6 (Class y8) (by kernel_rfl) (by kernel_rfl) (Class.mk_ ((Below.refl _ _).drew)) ?_
      refine wpQuiet_move rfl (.tmp 15) rfl ?_
      (intro K k; go_simp; apply k; clear k K)
      refine wpQuiet_move rfl (.tmp 4) rfl ?_
      (intro K k; go_simp; apply k; clear k K)
      refine wpQuiet_move rfl (.tmp 19) rfl ?_
      (intro K k; go_simp; apply k; clear k K)
      refine wpQuiet_val (v := .pointer (some ⟨b, o + j * 32, none⟩)) rfl (fun w' hw' => by go_simp) ?_
      (intro K k; go_simp; apply k; clear k K)
      refine wpQuiet_load_part rfl 23 (.tmp 73) rfl b (o + j * 32) rfl (cells8 d) _ (fun w' hw' => hdc.out w' (hbW8.out.trans (hw'.below.mono hbW8.out.size))) Tryz.underlying23 rfl Fd.out.part ?_
      (intro K k; go_simp; apply k; clear k K)
      refine wpQuiet_load_row rfl 23 (.tmp 17) rfl m17 rfl 23 ((cells8 Z.sr).toArray) (0, 0) _ (fun w' hw' => (hw'.below.block _ hN7.out.lf2.lt).trans hN7.out.lf2) Tryz.underlying23 rfl Fb.out.size ?_
      (intro K k; go_simp; apply k; clear k K)
      refine wpQuiet_nil ?_
      intro u9 hu9
      have hbu9 : Hid (Below w.heap.size w u9) := hbW8.out.trans (hu9.below.mono hbW8.out.size)
      simp only [List.drop]
      go_wp2_with fail
      refine (node_walk (w3.heap.size + 1) r2 s Z.st d Z.sr hdl.out hZok.out.sl u9 (hBs.out _ hbu9.out) (by have := hgb.out; have := hs3.out; omega) (ClAtM.kept hN7.out.cl2 (Kept.of_below hu9.below) (fun h => h) (fun _ _ h => h)) (by have := hZok.out.sk; have := hn41.out; have := hjn.out; omega)).mono ?_
      rw [hzb.out]
      rintro e y9 ⟨rfl, hC9⟩
      obtain ⟨hB9, rn9, hN9⟩ := AhAt.step (z := zb) hN7.out.swap hu9.below hC9 hq65.out hf65.out hZok.out.sl (by omega) hdis.out.2.2.2.1 hdis.out.2.2.1 hdis.out.2.1 (fun e => hdis.out.2.2.2.2.1 e.symm) ⟨hlt.out.2.1, hlt.out.1, hlt.out.2.2.2, hlt.out.2.2.1⟩
      replace hB9 := Lib.hid hB9
      replace hN9 := Lib.hid hN9.swap
      have hq9 := Lib.hid (Fzb.out.same Z.sr hZok.out.sl)
      clear hC9
      go_wp2_with ((with_reducible change wpList _ _ _ ({ dst := none, op := Op.store 23 _ _, type := _, pos := _, after := _, guard := _ } :: _) _ _); refine wpList_store_row (o := ⟨none, _, _, _, _, _⟩) rfl 23 (.tmp 17) (.tmp 76) rfl (m17) ((cells8 zb).toArray) rfl rfl 23 ((cells8 Z.sr).toArray) hB9.out Fzb.out.size hq9.out Fzb.out.one ?_)
      go_roundw
      case rel => exact ⟨j + 1, rn7, rn9, by go_num, ⟨by have := hj.out.1; omega, hjn.out⟩, (by show AhAt _ _ _ _ _ _ _ _ _ _ _ _ _; rw [hYe.out, hY.out]; exact hN9.out)⟩
      case measure => (have := hjn.out; simp [intOf]; omega)
    ·obtain rfl : j = n := by have := hj.out; omega
     have z2 : ¬ ((j : Int) < (j : Int)) := by omega
     obtain ⟨Z, hZe⟩ : ∃ Z, aheadS s x0 low P j = Z := ⟨_, rfl⟩
     rw [hZe] at hI hZok ⊢
     have Fa := Lib.hid (fit (x := Z.fr) hZok.out.fl)
     have Fb := Lib.hid (fit (x := Z.sr) hZok.out.sl)
     have hAr : Hid (Blk wr (w.heap.size + 1) 23 Z32) := (hbw.out.block _ hA3.out.lt).trans hA3.out
     have hEr : Hid (Blk wr (w.heap.size + 2) 23 Z32) := (hbw.out.block _ hE3.out.lt).trans hE3.out
     obtain ⟨v1, xs1, cb1, co1, cv1, cn1, cx1⟩ := hI.out.cl1
     obtain ⟨v2, xs2, cb2, co2, cv2, cn2, cx2⟩ := hI.out.cl2
     obtain ⟨A1, c1, rfl, -⟩ := Append.Own.reads co1
     obtain ⟨A2, c2, rfl, -, -, hnil2, hrd2, -⟩ := Append.Own.reads co2
     obtain ⟨S, hS⟩ : ∃ S : Nat → Prop, Hid (S = fun k => some k = r1 ∨ k = w.heap.size + 1 ∨ k = w.heap.size + 2) := ⟨_, rfl⟩
     have hr1 : Hid (∀ k, some k = r1 → w6.heap.size ≤ k) := fun k e => hI.out.n1 k e.symm
     have hw6s : Hid (w.heap.size + 3 ≤ w6.heap.size) := by have := hs3.out; have := hb6.out.size; show _ ≤ _; omega
     have hSf : Hid (∀ g, S g → (∃ t cs, Blk wr g t cs ∧ cs.size < 65) ∨ (∃ u, wr.cell? ⟨g, 0, none⟩ = some u ∧ ∀ n, u ≠ .int .u8 n)) := fun g hg => by
      rw [hS.out] at hg
      rcases hg with hg | rfl | rfl
      ·exact .inr (ClAt.front hI.out.cl1 hI.out.e1 g (.inr hg))
      ·exact .inl ⟨_, _, hAr.out, by simp [Z32]⟩
      ·exact .inl ⟨_, _, hEr.out, by simp [Z32]⟩
     have hnS : Hid (∀ k, w.heap.size + 3 ≤ k → k < w6.heap.size → ¬ S k) := fun k h1 h2 h => by
      rw [hS.out] at h
      rcases h with h | h | h
      ·have := hr1.out k h; omega
      ·omega
      ·omega
     have hx65 := Lib.hid (And.intro hZok.out.ft hZok.out.st)
     obtain ⟨n1, hn1⟩ : ∃ n1, Z.ft.length = n1 := ⟨_, rfl⟩
     obtain ⟨n2, hn2⟩ : ∃ n2, Z.st.length = n2 := ⟨_, rfl⟩
     have hk1 : Hid (n1 ≤ 41 ∧ n2 ≤ 41) := by have := hZok.out.fk; have := hZok.out.sk; have := hn41.out; show _ ∧ _; omega
     rw [hn1] at co1
     rw [hn2] at co2 hrd2 hnil2
     have hn1h := Lib.hid hn1
     have hn2h := Lib.hid hn2
     have hL1 : Hid (∀ w', Kept S wr w' → Blk w' m16 23 (cells8 Z.fr).toArray) := fun w' h => hI.out.lf1.kept h (hnS.out m16 (by have := hdis.out; have := hs3.out; omega) hlt.out.2.2.1)
     have hL2 : Hid (∀ w', Kept S wr w' → Blk w' m17 23 (cells8 Z.sr).toArray) := fun w' h => hI.out.lf2.kept h (hnS.out m17 (by have := hdis.out; have := hs3.out; omega) hlt.out.2.2.2)
     have hL3 : Hid (∀ w', Kept S wr w' → w'.cell? ⟨w3.heap.size, 1, none⟩ = some (.slice A1 n1 c1)) := fun w' h => by
      have h2 : Blk w' w3.heap.size 322 #[.int .i64 s, .slice A1 Z.ft.length c1] := cb1.kept h (hnS.out _ (by have := hs3.out; omega) hlt.out.1)
      rw [hn1] at h2
      exact h2.cell 1
     have hL4 : Hid (∀ w', Kept S wr w' → w'.cell? ⟨w3.heap.size + 1, 1, none⟩ = some (.slice A2 n2 c2)) := fun w' h => by
      have h2 : Blk w' (w3.heap.size + 1) 322 #[.int .i64 s, .slice A2 Z.st.length c2] := cb2.kept h (hnS.out _ (by have := hs3.out; omega) hlt.out.2.1)
      rw [hn2] at h2
      exact h2.cell 1
     have hv1 : Hid ((Value.slice A1 n1 c1).ownBlock = r1) := by rw [hn1] at cv1; exact cv1
     have hone2 : Hid (∀ u ∈ xs2, u.oneCell' = true) := fun u hu => by
      obtain ⟨i, hi, rfl⟩ := List.getElem_of_mem hu
      have hl : xs2.length = n2 := by simpa using hrd2.1
      obtain ⟨q, hq⟩ : ∃ q, Z.st[i]? = some q := ⟨_, List.getElem?_eq_getElem (by omega)⟩
      obtain ⟨g, cq, a1, -⟩ := cx2 i q hq
      rw [List.getElem?_eq_getElem hi] at a1
      rw [Option.some.inj a1]
      rfl
     have hxl1 : Hid (xs1.length = Z.ft.length) := by show _ = _; have := co1.1; rw [hn1]; simpa using this
     replace co1 := Lib.hid co1
     replace hrd2 := Lib.hid hrd2
     replace hnil2 := Lib.hid hnil2
     replace cx1 := Lib.hid cx1
     replace cx2 := Lib.hid cx2
     clear co2 cb1 cb2 cv1 cv2 cn1 cn2 hn1 hn2
     go_wp2_with fail
     have s0 : Hid (Kept S wr wr.drew) := (Kept.refl _ _).drew
     refine held_start (fun w' => Kept S wr w') 14 rfl (by kernel_rfl) ?_
     refine Held.tk0 (i := 0) (v := .agg ((cells8 Z.fr).toArray)) rfl s0.out (fun w' hw' => exec_row 23 (.tmp 16) rfl (m16) rfl 23 ((cells8 Z.fr).toArray) (0, 0) _ (hL1.out w' hw') Tryz.underlying23 rfl Fa.out.size) ?_
     (intro K k; go_simp; apply k; clear k K)
     refine Held.tk0 (i := 1) (v := .agg ((cells8 Z.sr).toArray)) rfl s0.out (fun w' hw' => exec_row 23 (.tmp 17) rfl (m17) rfl 23 ((cells8 Z.sr).toArray) (0, 0) _ (hL2.out w' hw') Tryz.underlying23 rfl Fb.out.size) ?_
     (intro K k; go_simp; apply k; clear k K)
     refine Held.tk0 (i := 2) (v := .pointer (some ⟨w3.heap.size, 0, none⟩)) rfl s0.out (fun w' hw' => run_mv (.tmp 14) rfl w') ?_
     (intro K k; go_simp; apply k; clear k K)
     refine Held.tk0 (i := 3) (v := .pointer (some ⟨w3.heap.size, 0, none⟩)) rfl s0.out (fun w' hw' => by go_simp) ?_
     (intro K k; go_simp; apply k; clear k K)
     refine Held.tk0 (i := 4) (v := .pointer (some ⟨w3.heap.size, 1, none⟩)) rfl s0.out (fun w' hw' => by go_simp) ?_
     (intro K k; go_simp; apply k; clear k K)
     refine Held.tk0 (i := 5) (v := .slice A1 n1 c1) rfl s0.out (fun w' hw' => by have h := hL3.out w' hw'; go_simp) ?_
     (intro K k; go_simp; apply k; clear k K)
     refine Held.tk0 (i := 6) (v := .pointer (some ⟨w3.heap.size + 1, 0, none⟩)) rfl s0.out (fun w' hw' => run_mv (.tmp 15) rfl w') ?_
     (intro K k; go_simp; apply k; clear k K)
     refine Held.tk0 (i := 7) (v := .pointer (some ⟨w3.heap.size + 1, 0, none⟩)) rfl s0.out (fun w' hw' => by go_simp) ?_
     (intro K k; go_simp; apply k; clear k K)
     refine Held.tk0 (i := 8) (v := .pointer (some ⟨w3.heap.size + 1, 1, none⟩)) rfl s0.out (fun w' hw' => by go_simp) ?_
     (intro K k; go_simp; apply k; clear k K)
     refine Held.tk0 (i := 9) (v := .slice A2 n2 c2) rfl s0.out (fun w' hw' => by have h := hL4.out w' hw'; go_simp) ?_
     (intro K k; go_simp; apply k; clear k K)
     refine held_only (i := 10) rfl (by kernel_rfl) (by rfl) (fun K hK => ?_)
     refine wp_append_src _ (.tmp 82) (.tmp 86) 24 rfl 0 27 i0 (.slice none 0 0) 1 24 Tryz.underlying24 ii iz0 iz1 iz2 rfl (by decide) (.slice A1 n1 c1) n1 xs1 rfl co1.out A2 n2 c2 xs2 rfl hrd2.out hnil2.out hone2.out (by have := hk1.out; unfold maxLen; omega) (by have := hk1.out; omega) (Nat.zero_le _) ?_
     intro v8 w8 hG
     obtain ⟨A8, c8, rfl, -⟩ := Append.Own.reads hG.own
     have h8 : Hid (Kept S wr w8) := (Kept.refl S wr).drew.grown hG.grow (fun k e => .inl (by rw [hS.out]; exact .inl (by rw [← hv1.out, e])))
     have hat : Hid (∀ k, (Value.slice A8 (n1 + n2) c8).ownBlock = some k → w6.heap.size ≤ k) := fun k e => by
      rcases hG.at_ with h | h
      ·rw [h] at e; exact hr1.out k (by rw [← hv1.out, e])
      ·rw [h] at e; have h9 : wr.heap.size = k := Option.some.inj e; have := hI.out.kept.size; omega
     have hA8 : Hid (Blk w8 (w.heap.size + 1) 23 Z32) := Blk.grown (w := wr.drew) hAr.out hG.grow (fun e => by have h := hr1.out _ (e.trans hv1.out); have := hw6s.out; omega)
     have hE8 : Hid (Blk w8 (w.heap.size + 2) 23 Z32) := Blk.grown (w := wr.drew) hEr.out hG.grow (fun e => by have h := hr1.out _ (e.trans hv1.out); have := hw6s.out; omega)
     replace hG := Lib.hid hG
     go_simp
     refine hK _ _ h8.out ?_
     clear hK K
     refine held_only (i := 11) rfl (by kernel_rfl) (by rfl) (fun K hK => ?_)
     refine wp_store_whole 23 (.tmp 10) (.tmp 77) rfl (w.heap.size + 1) ((cells8 Z.fr).toArray) rfl rfl 23 Z32 hA8.out Fa.out.size Fa.out.zero Fa.out.one ?_
     intro w9 q9 k9
     have h9 : Hid (Kept S wr w9) := h8.out.trans k9 (fun i _ h => by rw [hS.out]; exact .inr (.inl h))
     go_simp
     refine hK _ _ h9.out ?_
     clear hK K
     refine held_only (i := 12) rfl (by kernel_rfl) (by rfl) (fun K hK => ?_)
     refine wp_store_whole 23 (.tmp 11) (.tmp 78) rfl (w.heap.size + 2) ((cells8 Z.sr).toArray) rfl rfl 23 Z32 (hE8.out.kept k9 (by omega)) Fb.out.size Fb.out.zero Fb.out.one ?_
     intro w10 q10 k10
     have h10 : Hid (Kept S wr w10) := h9.out.trans k10 (fun i _ h => by rw [hS.out]; exact .inr (.inr h))
     go_simp
     refine hK _ _ h10.out ?_
     clear hK K
     refine Held.tk0 (i := 13) (v := .slice A8 (n1 + n2) c8) rfl h10.out (fun w' hw' => by first | go_simp | rfl) ?_
     (intro K k; go_simp; apply k; clear k K)
     refine held_end (by kernel_rfl) ?_
     have hQ1 : Hid (Blk w10 (w.heap.size + 1) 23 (cells8 Z.fr).toArray) := Blk.kept q9 k10 (by omega)
     have hQ2 : Hid (Blk w10 (w.heap.size + 2) 23 (cells8 Z.sr).toArray) := q10
     have hO10 : w10.ownsRow 0 27 1 (.slice A8 (n1 + n2) c8) (n1 + n2) (xs1 ++ xs2) := own_kept (own_kept hG.out.own k9 (fun k e h => by have := hat.out k e; have := hw6s.out; omega)) k10 (fun k e h => by have := hat.out k e; have := hw6s.out; omega)
     have hO11 : Hid (w10.ownsRow w.heap.size 27 1 (.slice A8 (n1 + n2) c8) (n1 + n2) (xs1 ++ xs2)) := Go.Proofs.YtgldkfaiofkhbaaGreatDoor.RowsT.own_up hO10 (fun k e => by have := hat.out k e; have := hw6s.out; omega)
     have hT9 : Hid (Tx w10 (xs1 ++ xs2) (Z.ft ++ Z.st)) := (Txs.toTx cx1.out hx65.out.1 h10.out hSf.out).append (Txs.toTx cx2.out hx65.out.2 h10.out hSf.out) hxl1.out
     have hfin : Hid (Below w.heap.size w w10) := Kept.toBelow hbW.out h10.out (fun k h => by rw [hS.out] at h; rcases h with h | h | h; (have := hr1.out k h; have := hw6s.out; omega); omega; omega) hbW.out.size
     clear hG hO10
     go_wp2_with fail
     refine bodyPost_ret (results_ccr rfl _ _ (w.heap.size + 1) (w.heap.size + 2) 23 23 (cells8 Z.fr).toArray (cells8 Z.sr).toArray (0, 0) (0, 0) _ rfl hQ1.out rfl hQ2.out Tryz.underlying23 rfl Fa.out.size Fb.out.size) rfl ?_
     show AhOwn w _ _ _
     try rw [hZe]
     exact ⟨A8, c8, xs1 ++ xs2, by rw [hn1h.out, hn2h.out]; rfl, by rw [hn1h.out, hn2h.out]; exact hO11.out, hT9.out, hfin.out⟩
theorem ahead_any (s : Int) (old size : Nat) (h1 : 1 ≤ old) (h2 : old < size) (hs : size ≤ 1099511627776) (root : Text) (hrt : root.length = 32) (ds : List Text) (A : Option Addr) (n c : Nat) (hn : (partsOf old size).length = n) (w : World) (hB : Base w) (hr : RdD w A n ds) :
  Calls Tryz.prog 221 #[.int .i64 s, .int .i64 (old : Int), .int .i64 (size : Int), .agg (cells8 root).toArray, .slice A n c] w (AhPost w (aheadOf s old size root ds)) :=
 (ahead_own s old size h1 h2 hs root hrt ds A n c hn w hB hr).mono fun _ _ h => h.post
end Go.Proofs.YtgldkfaiofkhbaaGreatDoor.Ahead

namespace Go.Proofs.YtgldkfaiofkhbaaGreatDoor.Agree
open Go Go.RowKit Go.Proofs.YtgldkfaiofkhbaaGreatDoor Digest Mem Sha Bytes Go.Proofs.YtgldkfaiofkhbaaGreatDoor.Append HashMem DigestMem DigestTop DigEq QuietTail Grown TreeMath TreeMem TreeRoot Held Guard Book Subs RowsP Joint AheadM AheadT Ahead

theorem _root_.Go.Proofs.YtgldkfaiofkhbaaGreatDoor.Mem.Blk.onA {w w' : World} {g : Nat} {t : TypeId} {cs : Array Value} (h : Blk w g t cs) (hb : Below w.heap.size w w') : Blk w' g t cs := (hb.block g h.lt).trans h
def agA (s : Int) (old size : Nat) (r0 : Text) (ds : List Text) : Text := if old = 0 then noneOf s else if old = size then r0 else (aheadOf s old size r0 ds).fr
def agB (s : Int) (old size : Nat) (r0 r1 : Text) (ds : List Text) : Text := if old = size then r0 else if old = 0 then r1 else (aheadOf s old size r0 ds).sr
def agreeOf (s : Int) (old size : Int) (r0 r1 : Text) (ds : List Text) : Int :=
 if joinsB old size = false then 60 else if betw old.toNat size.toNat ≠ ds.length then 170
 else if agA s old.toNat size.toNat r0 ds = r0 ∧ agB s old.toNat size.toNat r0 r1 ds = r1 then 0 else 171
theorem aheadOf_ok {s : Int} {old size : Nat} {r0 : Text} {ds : List Text} (h1 : 1 ≤ old) (h2 : old < size) (h0 : r0.length = 32) (hd : Digs ds) (hn : betw old size = ds.length) : (aheadOf s old size r0 ds).fr.length = 32 ∧ (aheadOf s old size r0 ds).sr.length = 32 ∧ (∀ q ∈ (aheadOf s old size r0 ds).ft, q.length = 65) ∧ (∀ q ∈ (aheadOf s old size r0 ds).st, q.length = 65) ∧ (aheadOf s old size r0 ds).ft.length ≤ ds.length ∧ (aheadOf s old size r0 ds).st.length ≤ ds.length := by
 obtain ⟨hl, -, -⟩ := parts_low h1 h2
 have hpl := partsOf_len (Nat.le_of_lt h2)
 have hz : (((partsOf old size).map (bh old)).zip ds).length = ds.length := by rw [List.length_zip, List.length_map]; omega
 have hx : (if powB old then r0 else ds.getD 0 []).length = 32 := by
  split
  ·exact h0
  ·obtain ⟨d, hd0⟩ : ∃ d, ds[0]? = some d := ⟨_, List.getElem?_eq_getElem (by omega)⟩
   have := hd.at_ hd0
   simpa [List.getD, hd0] using this
 have h := aheadS_ok (s := s) (low := lowOf old) (P := ((partsOf old size).map (bh old)).zip ds) hx (fun p hp => hd _ (List.of_mem_zip (show (p.1, p.2) ∈ _ from hp)).2) (ds.length - lowOf old) (by omega)
 rw [show lowOf old + (ds.length - lowOf old) = ds.length by omega] at h
 exact ⟨h.fl, h.sl, h.ft, h.st, by have := h.fk; show (aheadS _ _ _ _ _).ft.length ≤ _; omega, by have := h.sk; show (aheadS _ _ _ _ _).st.length ≤ _; omega⟩
theorem agA_len {s : Int} {old size : Nat} {r0 : Text} {ds : List Text} (hle : old ≤ size) (h0 : r0.length = 32) (hd : Digs ds) (hn : betw old size = ds.length) : (agA s old size r0 ds).length = 32 := by
 unfold agA
 split
 ·exact noneOf_len s
 ·split
  ·exact h0
  ·exact (aheadOf_ok (by omega) (by omega) h0 hd hn).1
theorem agB_len {s : Int} {old size : Nat} {r0 r1 : Text} {ds : List Text} (hle : old ≤ size) (h0 : r0.length = 32) (h1 : r1.length = 32) (hd : Digs ds) (hn : betw old size = ds.length) : (agB s old size r0 r1 ds).length = 32 := by
 unfold agB
 split
 ·exact h0
 ·split
  ·exact h1
  ·exact (aheadOf_ok (by omega) (by omega) h0 hd hn).2.1

set_option maxRecDepth 100000 in
set_option maxHeartbeats 1000000 in
theorem agree_out (s old size : Int) (h : joinsB old size = false) (r0 r1 : Text) (A : Option Addr) (n c : Nat) (w : World) :
  Calls Tryz.prog 135 #[.int .i64 s, .int .i64 old, .int .i64 size, .agg (cells8 r0).toArray, .agg (cells8 r1).toArray, .slice A n c] w fun e w' => e = .returned (.int .i64 60) ∧ Below w.heap.size w w' := by
 have hb : Hid (Below w.heap.size w ((w.alloc (.cells (cells8 r0).toArray 23)).alloc (.cells (cells8 r1).toArray 23))) := (Below.heap_below w _).alloc (by simp) _
 replace h := Lib.hid h
 go_enter Tryz.func135, Tryz.ntmps135
 go_wp2_with fail
 refine (sizes_any old size _).mono ?_
 rw [h.out]
 rintro e w1 ⟨rfl, rfl⟩
 go_wp2_with fail
 go_ret
 exact ⟨rfl, hb.out⟩

set_option maxRecDepth 100000 in
set_option maxHeartbeats 4000000 in
theorem agree_in (s : Int) (old size : Nat) (hle : old ≤ size) (hs : size ≤ 1099511627776) (r0 r1 : Text) (h0 : r0.length = 32) (h1 : r1.length = 32) (ds : List Text) (A : Option Addr) (n c : Nat) (w : World) (hB : Base w) (hr : RdD w A n ds) :
  Calls Tryz.prog 135 #[.int .i64 s, .int .i64 (old : Int), .int .i64 (size : Int), .agg (cells8 r0).toArray, .agg (cells8 r1).toArray, .slice A n c] w fun e w' => e = .returned (.int .i64 (agreeOf s old size r0 r1 ds)) ∧ Below w.heap.size w w' := by
 have hj : joinsB (old : Int) (size : Int) = true := by
  have a1 : (0 : Int) ≤ old := by omega
  have a2 : (old : Int) ≤ size := by omega
  have a3 : (size : Int) ≤ 1099511627776 := by omega
  simp [joinsB, a1, a2, a3]
 have hSz : Hid (∀ w', Calls Tryz.prog 219 #[.int .i64 (old : Int), .int .i64 (size : Int)] w' fun e w'' => e = .returned (.bool true) ∧ w' = w'') := fun w' => by have := sizes_any old size w'; rwa [hj] at this
 have hPt := Lib.hid (fun w' => parts_any old size hle hs w')
 have hpl := partsOf_len hle
 obtain ⟨m, hm⟩ : ∃ m, betw old size = m := ⟨_, rfl⟩
 have hans : agreeOf s old size r0 r1 ds = if m ≠ n then 170 else if agA s old size r0 ds = r0 ∧ agB s old size r0 r1 ds = r1 then 0 else 171 := by
  unfold agreeOf
  rw [if_neg (by rw [hj]; decide), Int.toNat_natCast, Int.toNat_natCast, hm, hr.1]
 obtain ⟨ans, han⟩ : ∃ a, agreeOf s old size r0 r1 ds = a := ⟨_, rfl⟩
 rw [han] at hans ⊢
 obtain ⟨w0, hw0⟩ : ∃ w0, Hid (w0 = (w.alloc (.cells (cells8 r0).toArray 23)).alloc (.cells (cells8 r1).toArray 23)) := ⟨_, rfl⟩
 have hb0 : Hid (Below w.heap.size w w0) := by show Below _ _ _; rw [hw0.out]; exact (Below.heap_below w _).alloc (by simp) _
 have hX0 : Hid (Blk w0 w.heap.size 23 (cells8 r0).toArray) := by show Blk _ _ _ _; rw [hw0.out]; exact heap_alloc2_old w _ _
 have hY0 : Hid (Blk w0 (w.heap.size + 1) 23 (cells8 r1).toArray) := by show Blk _ _ _ _; rw [hw0.out]; exact heap_alloc2_new w _ _
 have F0 := Lib.hid (fit (x := r0) h0)
 have F1 := Lib.hid (fit (x := r1) h1)
 have hBs := Lib.hid (fun w' (hb : Below w.heap.size w w') => hB.below hb hB.1)
 have g1 : (0 : Int) ≤ (old : Int) := by omega
 have g2 : (old : Int) ≤ 1099511627776 := by omega
 have g3 : (0 : Int) ≤ (size : Int) := by omega
 have g4 : (size : Int) ≤ 1099511627776 := by omega
 have hpm : Hid ((partsOf old size).length = m) := by show _ = _; rw [hpl, hm]
 by_cases hmn : m = n
 ·rw [if_neg (fun h => h hmn)] at hans
  have hn : betw old size = ds.length := by rw [hm, hmn, hr.1]
  subst hmn
  have hal := agA_len (s := s) hle h0 hr.2.1 hn
  have hbl := agB_len (s := s) (r1 := r1) hle h0 h1 hr.2.1 hn
  have hva : Hid (∀ w', Below w.heap.size w w' → 1 ≤ old → old < size → Calls Tryz.prog 221 #[.int .i64 s, .int .i64 (old : Int), .int .i64 (size : Int), .agg (cells8 r0).toArray, .slice A m c] w' (AhPost w' (aheadOf s old size r0 ds))) := fun w' hb e1 e2 => ahead_any s old size e1 e2 hs r0 h0 ds A m c hpm.out w' (hBs.out w' hb) (hr.below hb)
  have hA0 : Hid (old = 0 → agA s old size r0 ds = noneOf s) := fun h => if_pos h
  have hA1 : Hid (old ≠ 0 → old = size → agA s old size r0 ds = r0) := fun h k => by unfold agA; rw [if_neg h, if_pos k]
  have hA2 : Hid (old ≠ 0 → old ≠ size → agA s old size r0 ds = (aheadOf s old size r0 ds).fr) := fun h k => by unfold agA; rw [if_neg h, if_neg k]
  have hB1 : Hid (old = size → agB s old size r0 r1 ds = r0) := fun h => if_pos h
  have hB0 : Hid (old ≠ size → old = 0 → agB s old size r0 r1 ds = r1) := fun h k => by unfold agB; rw [if_neg h, if_pos k]
  have hB2 : Hid (old ≠ size → old ≠ 0 → agB s old size r0 r1 ds = (aheadOf s old size r0 ds).sr) := fun h k => by unfold agB; rw [if_neg h, if_neg k]
  obtain ⟨va, hvA⟩ : ∃ v, agA s old size r0 ds = v := ⟨_, rfl⟩
  obtain ⟨vb, hvB⟩ : ∃ v, agB s old size r0 r1 ds = v := ⟨_, rfl⟩
  rw [hvA] at hans hal hA0 hA1 hA2
  rw [hvB] at hans hbl hB0 hB1 hB2
  have Fa := Lib.hid (fit (x := va) hal)
  have Fb := Lib.hid (fit (x := vb) hbl)
  have hqa := Lib.hid (fun w => equal_dig va r0 hal h0 w)
  have hqb := Lib.hid (fun w => equal_dig vb r1 hbl h1 w)
  have hNo := Lib.hid (fun w' (hb : Below w.heap.size w w') => nothing_any s w' (hBs.out w' hb))
  have e1 : ((m : Int) == (m : Int)) = true := beq_self_eq_true _
  have l0 := Lib.hid h0
  have l1 := Lib.hid h1
  replace hans := Lib.hid hans
  replace hle := Lib.hid hle
  clear hj hB hr hs h0 h1 hpl hm han hn hal hbl hvA hvB
  go_enter Tryz.func135, Tryz.ntmps135
  go_wp2_with fail
  change Calls _ _ _ ((w.alloc (.cells (cells8 r0).toArray 23)).alloc (.cells (cells8 r1).toArray 23)) _
  rw [← hw0.out]
  clear hw0
  refine (hSz.out _).mono ?_
  rintro e w1 ⟨rfl, rfl⟩
  go_wp2_with fail
  refine (hPt.out _).mono ?_
  rintro e w4 ⟨v, rfl, hO, hk1⟩
  rw [hpm.out] at hO
  obtain ⟨Ap, cp, rfl, -⟩ := Append.Own.reads hO
  have hb4 : Hid (Below w.heap.size w w4) := hb0.out.trans (hk1.mono hb0.out.size)
  have hX4 : Hid (Blk w4 w.heap.size 23 (cells8 r0).toArray) := Blk.onA hX0.out hk1
  have hY4 : Hid (Blk w4 (w.heap.size + 1) 23 (cells8 r1).toArray) := Blk.onA hY0.out hk1
  clear hO hk1 hb0 hX0 hY0 hSz hPt hpm
  go_wp2_with fail
  go_cut [13, 14] from 26 to 27 (fun v u wr => ∃ m13 m14 : Nat, v = .pointer (some ⟨m13, 0, none⟩) ∧ u = .pointer (some ⟨m14, 0, none⟩) ∧ Hid (m13 ≠ m14) ∧ Hid (w4.heap.size ≤ m13) ∧ Hid (w4.heap.size ≤ m14) ∧ Hid (Blk wr m13 23 (cells8 r0).toArray) ∧ Hid (Blk wr m14 23 (cells8 r1).toArray) ∧ Hid (Below w4.heap.size w4 wr))
  case first =>
   have s0 : Hid (Below w4.heap.size w4 w4.drew) := (Below.refl _ _).drew
   refine held_start (fun w' => Below w4.heap.size w4 w') 6 rfl (by kernel_rfl) ?_
   refine Held.tk0 (i := 0) (v := .agg ((cells8 r0).toArray)) rfl s0.out (fun w' hw' => exec_row 23 (.tmp 9) rfl (w.heap.size) rfl 23 ((cells8 r0).toArray) (0, 0) _ ((hw'.block _ hX4.out.lt).trans hX4.out) Tryz.underlying23 rfl F0.out.size) ?_
   (intro K k; go_simp; apply k; clear k K)
   refine Held.tk0 (i := 1) (v := .agg ((cells8 r1).toArray)) rfl s0.out (fun w' hw' => exec_row 23 (.tmp 10) rfl ((w.heap.size + 1)) rfl 23 ((cells8 r1).toArray) (0, 0) _ ((hw'.block _ hY4.out.lt).trans hY4.out) Tryz.underlying23 rfl F1.out.size) ?_
   (intro K k; go_simp; apply k; clear k K)
   refine held_two (i := 2) (j := 3) rfl rfl (by kernel_rfl) (by rfl) (by rfl) (fun K hK => ?_) (fun K hK => ?_)
   ·have h5 : Hid (Below w4.heap.size w4 (w4.drew.alloc (.cells Z32 23))) := s0.out.alloc s0.out.size _
    have bA : Hid (Blk (w4.drew.alloc (.cells Z32 23)) w4.drew.heap.size 23 Z32) := Blk.new _ _ _
    go_simp
    refine hK _ _ h5.out ?_
    clear hK K
    refine held_only (i := 3) rfl (by kernel_rfl) (by rfl) (fun K hK => ?_)
    have h6 : Hid (Below w4.heap.size w4 ((w4.drew.alloc (.cells Z32 23)).alloc (.cells Z32 23))) := h5.out.alloc h5.out.size _
    have bB : Hid (Blk ((w4.drew.alloc (.cells Z32 23)).alloc (.cells Z32 23)) (w4.drew.alloc (.cells Z32 23)).heap.size 23 Z32) := Blk.new _ _ _
    go_simp
    refine hK _ _ h6.out ?_
    clear hK K
    have hzA : Hid ((w4.drew.alloc (.cells Z32 23)).heap.size = w4.heap.size + 1) := by show _ = _; simp
    replace bA : Hid (Blk ((w4.drew.alloc (.cells Z32 23)).alloc (.cells Z32 23)) w4.heap.size 23 Z32) := bA.out.alloc _
    replace bB : Hid (Blk ((w4.drew.alloc (.cells Z32 23)).alloc (.cells Z32 23)) (w4.heap.size + 1) 23 Z32) := by have := bB.out; rw [hzA.out] at this; exact this
    refine held_only (i := 4) rfl (by kernel_rfl) (by rfl) (fun K hK => ?_)
    refine wp_store_whole 23 (.tmp 13) (.tmp 26) rfl (w4.heap.size) ((cells8 r0).toArray) rfl rfl 23 Z32 bA.out F0.out.size F0.out.zero F0.out.one ?_
    intro w7 q7 k7
    have h7 : Hid (Below w4.heap.size w4 w7) := h6.out.trans (Kept.below_of k7 (by omega) h6.out.size)
    have o7 : Hid (Blk w7 (w4.heap.size + 1) 23 Z32) := bB.out.kept k7 (by omega)
    go_simp
    refine hK _ _ h7.out ?_
    clear hK K
    refine held_only (i := 5) rfl (by kernel_rfl) (by rfl) (fun K hK => ?_)
    refine wp_store_whole 23 (.tmp 14) (.tmp 27) rfl (w4.heap.size + 1) ((cells8 r1).toArray) rfl rfl 23 Z32 o7.out F1.out.size F1.out.zero F1.out.one ?_
    intro w8 q8 k8
    have h8 : Hid (Below w4.heap.size w4 w8) := h7.out.trans (Kept.below_of k8 (by omega) h7.out.size)
    have o8 : Hid (Blk w8 (w4.heap.size) 23 (cells8 r0).toArray) := q7.kept k8 (by omega)
    go_simp
    refine hK _ _ h8.out ?_
    clear hK K
    refine held_end (by kernel_rfl) ?_
    go_wp2_with fail
    go_meet
    case rel => exact ⟨w4.heap.size, w4.heap.size + 1, rfl, rfl, (by show _ ≠ _; omega), (by show _ ≤ _; omega), (by show _ ≤ _; omega), o8.out, q8, h8.out⟩
   ·have h5 : Hid (Below w4.heap.size w4 (w4.drew.alloc (.cells Z32 23))) := s0.out.alloc s0.out.size _
    have bA : Hid (Blk (w4.drew.alloc (.cells Z32 23)) w4.drew.heap.size 23 Z32) := Blk.new _ _ _
    go_simp
    refine hK _ _ h5.out ?_
    clear hK K
    refine held_only (i := 2) rfl (by kernel_rfl) (by rfl) (fun K hK => ?_)
    have h6 : Hid (Below w4.heap.size w4 ((w4.drew.alloc (.cells Z32 23)).alloc (.cells Z32 23))) := h5.out.alloc h5.out.size _
    have bB : Hid (Blk ((w4.drew.alloc (.cells Z32 23)).alloc (.cells Z32 23)) (w4.drew.alloc (.cells Z32 23)).heap.size 23 Z32) := Blk.new _ _ _
    go_simp
    refine hK _ _ h6.out ?_
    clear hK K
    have hzA : Hid ((w4.drew.alloc (.cells Z32 23)).heap.size = w4.heap.size + 1) := by show _ = _; simp
    replace bA : Hid (Blk ((w4.drew.alloc (.cells Z32 23)).alloc (.cells Z32 23)) w4.heap.size 23 Z32) := bA.out.alloc _
    replace bB : Hid (Blk ((w4.drew.alloc (.cells Z32 23)).alloc (.cells Z32 23)) (w4.heap.size + 1) 23 Z32) := by have := bB.out; rw [hzA.out] at this; exact this
    refine held_only (i := 4) rfl (by kernel_rfl) (by rfl) (fun K hK => ?_)
    refine wp_store_whole 23 (.tmp 13) (.tmp 26) rfl (w4.heap.size + 1) ((cells8 r0).toArray) rfl rfl 23 Z32 bB.out F0.out.size F0.out.zero F0.out.one ?_
    intro w7 q7 k7
    have h7 : Hid (Below w4.heap.size w4 w7) := h6.out.trans (Kept.below_of k7 (by omega) h6.out.size)
    have o7 : Hid (Blk w7 (w4.heap.size) 23 Z32) := bA.out.kept k7 (by omega)
    go_simp
    refine hK _ _ h7.out ?_
    clear hK K
    refine held_only (i := 5) rfl (by kernel_rfl) (by rfl) (fun K hK => ?_)
    refine wp_store_whole 23 (.tmp 14) (.tmp 27) rfl (w4.heap.size) ((cells8 r1).toArray) rfl rfl 23 Z32 o7.out F1.out.size F1.out.zero F1.out.one ?_
    intro w8 q8 k8
    have h8 : Hid (Below w4.heap.size w4 w8) := h7.out.trans (Kept.below_of k8 (by omega) h7.out.size)
    have o8 : Hid (Blk w8 (w4.heap.size + 1) 23 (cells8 r0).toArray) := q7.kept k8 (by omega)
    go_simp
    refine hK _ _ h8.out ?_
    clear hK K
    refine held_end (by kernel_rfl) ?_
    go_wp2_with fail
    go_meet
    case rel => exact ⟨w4.heap.size + 1, w4.heap.size, rfl, rfl, (by show _ ≠ _; omega), (by show _ ≤ _; omega), (by show _ ≤ _; omega), o8.out, q8, h8.out⟩
  case rest =>
   obtain ⟨m13, m14, rfl, rfl, hne, hl13, hl14, hM13, hM14, hk5⟩ := hcut
   obtain ⟨w5, rfl⟩ : ∃ w5 : World, w5 = wc := ⟨_, rfl⟩
   have hb5 : Hid (Below w.heap.size w w5) := hb4.out.trans (hk5.out.mono hb4.out.size)
   have hX5 : Hid (Blk w5 w.heap.size 23 (cells8 r0).toArray) := Blk.onA hX4.out hk5.out
   have hY5 : Hid (Blk w5 (w.heap.size + 1) 23 (cells8 r1).toArray) := Blk.onA hY4.out hk5.out
   have hd : Hid (m13 ≠ m14 ∧ w.heap.size + 1 < m13 ∧ w.heap.size + 1 < m14) := by have := hne.out; have := hl13.out; have := hl14.out; have := hY4.out.lt; show _ ∧ _; omega
   clear hne hl13 hl14 hk5 hb4 hX4 hY4 e1
   by_cases ho : old = 0
   ·have t1 : ((old : Int) == 0) = true := by rw [ho]; rfl
    have t0 : old = 0 := ho
    by_cases hz : size = 0
    ·have t2 : ¬ ((0 : Int) < (size : Int)) := by omega
     have t3 : ((old : Int) == (size : Int)) = true := beq_iff_eq.2 (by omega)
     have t4 : ((size : Int) == 0) = true := by rw [hz]; rfl
     have hbe : r0 = vb := (hB1.out (by omega)).symm
     have hae : noneOf s = va := (hA0.out ho).symm
     have hM5 := hM13
     have hN5 := hM14
     replace hae := Lib.hid hae
     subst hbe
     clear hA0 hA1 hA2 hB0 hB1 hB2 ho hz hM13 hM14
     by_cases hv1 : va = r0
     ·by_cases hv2 : r0 = r1
      ·have qa : ∀ w, (Op.equalIn 10000 23 (.agg (cells8 va).toArray) (.agg (cells8 r0).toArray)).run Tryz.prog w = .ok true w := fun w => by rw [hqa.out w, decide_eq_true hv1]
       have qb : ∀ w, (Op.equalIn 10000 23 (.agg (cells8 r0).toArray) (.agg (cells8 r1).toArray)).run Tryz.prog w = .ok true w := fun w => by rw [hqb.out w, decide_eq_true hv2]
       have ha : ans = 0 := by rw [hans.out, if_pos ⟨hv1, hv2⟩]
       clear hv1 hv2
       go_wp2_with (first
        | ((with_reducible change wpList _ _ _ (⟨some 51, _, _, _, _, _⟩ :: _) _ _); refine wpList_load_row (o := ⟨some 51, _, _, _, _, _⟩) rfl 23 (.tmp 9) rfl (w.heap.size) rfl 23 ((cells8 r0).toArray) (0, 0) _ hX5.out Tryz.underlying23 rfl F0.out.size ?_)
        | ((with_reducible change wpList _ _ _ ({ dst := none, op := Op.store 23 (.tmp 14) _, type := _, pos := _, after := _, guard := _ } :: _) _ _); refine wpList_store_whole (o := ⟨none, _, _, _, _, _⟩) rfl 23 (.tmp 14) (.tmp 51) rfl (m14) ((cells8 r0).toArray) rfl rfl 23 ((cells8 r1).toArray) hN5.out F0.out.size (F0.out.same r1 l1.out) F0.out.one ?_; intro w6 q6 k6; have hN6 : Hid (Blk w6 m14 23 (cells8 r0).toArray) := q6; have hX6 : Hid (Blk w6 w.heap.size 23 (cells8 r0).toArray) := hX5.out.kept k6 (by have := hd.out; omega); have hY6 : Hid (Blk w6 (w.heap.size + 1) 23 (cells8 r1).toArray) := hY5.out.kept k6 (by have := hd.out; omega); have hb6 : Hid (Below w.heap.size w w6) := hb5.out.trans (Kept.below_of k6 (by have := hd.out; omega) hb5.out.size); have hM6 : Hid (Blk w6 m13 23 (cells8 r0).toArray) := hM5.out.kept k6 (by have := hd.out; omega); clear q6 k6)
        | (go_at_call 48; refine (hNo.out _ hb6.out).mono ?_; rw [show cutTo (sum []) (clampN s) = va from hae.out]; rintro e w7 ⟨rfl, kk7⟩; have hX7 : Hid (Blk w7 w.heap.size 23 (cells8 r0).toArray) := Blk.onA hX6.out kk7; have hY7 : Hid (Blk w7 (w.heap.size + 1) 23 (cells8 r1).toArray) := Blk.onA hY6.out kk7; have hb7 : Hid (Below w.heap.size w w7) := hb6.out.trans (kk7.mono hb6.out.size); have hM7 : Hid (Blk w7 m13 23 (cells8 r0).toArray) := Blk.onA hM6.out kk7; have hN7 : Hid (Blk w7 m14 23 (cells8 r0).toArray) := Blk.onA hN6.out kk7; clear kk7)
        | ((with_reducible change wpList _ _ _ ({ dst := none, op := Op.store 23 (.tmp 13) _, type := _, pos := _, after := _, guard := _ } :: _) _ _); refine wpList_store_whole (o := ⟨none, _, _, _, _, _⟩) rfl 23 (.tmp 13) (.tmp 55) rfl (m13) ((cells8 va).toArray) rfl rfl 23 ((cells8 r0).toArray) hM7.out Fa.out.size (Fa.out.same r0 l0.out) Fa.out.one ?_; intro w8 q8 k8; have hM8 : Hid (Blk w8 m13 23 (cells8 va).toArray) := q8; have hX8 : Hid (Blk w8 w.heap.size 23 (cells8 r0).toArray) := hX7.out.kept k8 (by have := hd.out; omega); have hY8 : Hid (Blk w8 (w.heap.size + 1) 23 (cells8 r1).toArray) := hY7.out.kept k8 (by have := hd.out; omega); have hb8 : Hid (Below w.heap.size w w8) := hb7.out.trans (Kept.below_of k8 (by have := hd.out; omega) hb7.out.size); have hN8 : Hid (Blk w8 m14 23 (cells8 r0).toArray) := hN7.out.kept k8 (by have := hd.out; omega); clear q8 k8)
        | ((with_reducible change wpList _ _ _ (⟨some 56, _, _, _, _, _⟩ :: _) _ _); refine wpList_load_row (o := ⟨some 56, _, _, _, _, _⟩) rfl 23 (.tmp 13) rfl (m13) rfl 23 ((cells8 va).toArray) (0, 0) _ hM8.out Tryz.underlying23 rfl Fa.out.size ?_)
        | ((with_reducible change wpList _ _ _ (⟨some 57, _, _, _, _, _⟩ :: _) _ _); refine wpList_load_row (o := ⟨some 57, _, _, _, _, _⟩) rfl 23 (.tmp 9) rfl (w.heap.size) rfl 23 ((cells8 r0).toArray) (0, 0) _ hX8.out Tryz.underlying23 rfl F0.out.size ?_)
        | ((with_reducible change wpList _ _ _ (⟨some 60, _, _, _, _, _⟩ :: _) _ _); refine wpList_load_rowG (o := ⟨some 60, _, _, _, _, _⟩) rfl 23 (.tmp 14) rfl (m14) rfl 23 ((cells8 r0).toArray) (0, 0) _ hN8.out Tryz.underlying23 rfl F0.out.size ?_)
        | ((with_reducible change wpList _ _ _ (⟨some 61, _, _, _, _, _⟩ :: _) _ _); refine wpList_load_rowG (o := ⟨some 61, _, _, _, _, _⟩) rfl 23 (.tmp 10) rfl (w.heap.size + 1) rfl 23 ((cells8 r1).toArray) (0, 0) _ hY8.out Tryz.underlying23 rfl F1.out.size ?_))
       go_ret
       exact ⟨by first | (rw [ha]; rfl) | rfl, hb8.out⟩
      ·have qa : ∀ w, (Op.equalIn 10000 23 (.agg (cells8 va).toArray) (.agg (cells8 r0).toArray)).run Tryz.prog w = .ok true w := fun w => by rw [hqa.out w, decide_eq_true hv1]
       have qb : ∀ w, (Op.equalIn 10000 23 (.agg (cells8 r0).toArray) (.agg (cells8 r1).toArray)).run Tryz.prog w = .ok false w := fun w => by rw [hqb.out w, decide_eq_false hv2]
       have ha : ans = 171 := by rw [hans.out, if_neg (fun h => hv2 h.2)]
       clear hv1 hv2
       go_wp2_with (first
        | ((with_reducible change wpList _ _ _ (⟨some 51, _, _, _, _, _⟩ :: _) _ _); refine wpList_load_row (o := ⟨some 51, _, _, _, _, _⟩) rfl 23 (.tmp 9) rfl (w.heap.size) rfl 23 ((cells8 r0).toArray) (0, 0) _ hX5.out Tryz.underlying23 rfl F0.out.size ?_)
        | ((with_reducible change wpList _ _ _ ({ dst := none, op := Op.store 23 (.tmp 14) _, type := _, pos := _, after := _, guard := _ } :: _) _ _); refine wpList_store_whole (o := ⟨none, _, _, _, _, _⟩) rfl 23 (.tmp 14) (.tmp 51) rfl (m14) ((cells8 r0).toArray) rfl rfl 23 ((cells8 r1).toArray) hN5.out F0.out.size (F0.out.same r1 l1.out) F0.out.one ?_; intro w6 q6 k6; have hN6 : Hid (Blk w6 m14 23 (cells8 r0).toArray) := q6; have hX6 : Hid (Blk w6 w.heap.size 23 (cells8 r0).toArray) := hX5.out.kept k6 (by have := hd.out; omega); have hY6 : Hid (Blk w6 (w.heap.size + 1) 23 (cells8 r1).toArray) := hY5.out.kept k6 (by have := hd.out; omega); have hb6 : Hid (Below w.heap.size w w6) := hb5.out.trans (Kept.below_of k6 (by have := hd.out; omega) hb5.out.size); have hM6 : Hid (Blk w6 m13 23 (cells8 r0).toArray) := hM5.out.kept k6 (by have := hd.out; omega); clear q6 k6)
        | (go_at_call 48; refine (hNo.out _ hb6.out).mono ?_; rw [show cutTo (sum []) (clampN s) = va from hae.out]; rintro e w7 ⟨rfl, kk7⟩; have hX7 : Hid (Blk w7 w.heap.size 23 (cells8 r0).toArray) := Blk.onA hX6.out kk7; have hY7 : Hid (Blk w7 (w.heap.size + 1) 23 (cells8 r1).toArray) := Blk.onA hY6.out kk7; have hb7 : Hid (Below w.heap.size w w7) := hb6.out.trans (kk7.mono hb6.out.size); have hM7 : Hid (Blk w7 m13 23 (cells8 r0).toArray) := Blk.onA hM6.out kk7; have hN7 : Hid (Blk w7 m14 23 (cells8 r0).toArray) := Blk.onA hN6.out kk7; clear kk7)
        | ((with_reducible change wpList _ _ _ ({ dst := none, op := Op.store 23 (.tmp 13) _, type := _, pos := _, after := _, guard := _ } :: _) _ _); refine wpList_store_whole (o := ⟨none, _, _, _, _, _⟩) rfl 23 (.tmp 13) (.tmp 55) rfl (m13) ((cells8 va).toArray) rfl rfl 23 ((cells8 r0).toArray) hM7.out Fa.out.size (Fa.out.same r0 l0.out) Fa.out.one ?_; intro w8 q8 k8; have hM8 : Hid (Blk w8 m13 23 (cells8 va).toArray) := q8; have hX8 : Hid (Blk w8 w.heap.size 23 (cells8 r0).toArray) := hX7.out.kept k8 (by have := hd.out; omega); have hY8 : Hid (Blk w8 (w.heap.size + 1) 23 (cells8 r1).toArray) := hY7.out.kept k8 (by have := hd.out; omega); have hb8 : Hid (Below w.heap.size w w8) := hb7.out.trans (Kept.below_of k8 (by have := hd.out; omega) hb7.out.size); have hN8 : Hid (Blk w8 m14 23 (cells8 r0).toArray) := hN7.out.kept k8 (by have := hd.out; omega); clear q8 k8)
        | ((with_reducible change wpList _ _ _ (⟨some 56, _, _, _, _, _⟩ :: _) _ _); refine wpList_load_row (o := ⟨some 56, _, _, _, _, _⟩) rfl 23 (.tmp 13) rfl (m13) rfl 23 ((cells8 va).toArray) (0, 0) _ hM8.out Tryz.underlying23 rfl Fa.out.size ?_)
        | ((with_reducible change wpList _ _ _ (⟨some 57, _, _, _, _, _⟩ :: _) _ _); refine wpList_load_row (o := ⟨some 57, _, _, _, _, _⟩) rfl 23 (.tmp 9) rfl (w.heap.size) rfl 23 ((cells8 r0).toArray) (0, 0) _ hX8.out Tryz.underlying23 rfl F0.out.size ?_)
        | ((with_reducible change wpList _ _ _ (⟨some 60, _, _, _, _, _⟩ :: _) _ _); refine wpList_load_rowG (o := ⟨some 60, _, _, _, _, _⟩) rfl 23 (.tmp 14) rfl (m14) rfl 23 ((cells8 r0).toArray) (0, 0) _ hN8.out Tryz.underlying23 rfl F0.out.size ?_)
        | ((with_reducible change wpList _ _ _ (⟨some 61, _, _, _, _, _⟩ :: _) _ _); refine wpList_load_rowG (o := ⟨some 61, _, _, _, _, _⟩) rfl 23 (.tmp 10) rfl (w.heap.size + 1) rfl 23 ((cells8 r1).toArray) (0, 0) _ hY8.out Tryz.underlying23 rfl F1.out.size ?_))
       go_ret
       exact ⟨by first | (rw [ha]; rfl) | rfl, hb8.out⟩
     ·have qa : ∀ w, (Op.equalIn 10000 23 (.agg (cells8 va).toArray) (.agg (cells8 r0).toArray)).run Tryz.prog w = .ok false w := fun w => by rw [hqa.out w, decide_eq_false hv1]
      have ha : ans = 171 := by rw [hans.out, if_neg (fun h => hv1 h.1)]
      clear hv1
      go_wp2_with (first
       | ((with_reducible change wpList _ _ _ (⟨some 51, _, _, _, _, _⟩ :: _) _ _); refine wpList_load_row (o := ⟨some 51, _, _, _, _, _⟩) rfl 23 (.tmp 9) rfl (w.heap.size) rfl 23 ((cells8 r0).toArray) (0, 0) _ hX5.out Tryz.underlying23 rfl F0.out.size ?_)
       | ((with_reducible change wpList _ _ _ ({ dst := none, op := Op.store 23 (.tmp 14) _, type := _, pos := _, after := _, guard := _ } :: _) _ _); refine wpList_store_whole (o := ⟨none, _, _, _, _, _⟩) rfl 23 (.tmp 14) (.tmp 51) rfl (m14) ((cells8 r0).toArray) rfl rfl 23 ((cells8 r1).toArray) hN5.out F0.out.size (F0.out.same r1 l1.out) F0.out.one ?_; intro w6 q6 k6; have hN6 : Hid (Blk w6 m14 23 (cells8 r0).toArray) := q6; have hX6 : Hid (Blk w6 w.heap.size 23 (cells8 r0).toArray) := hX5.out.kept k6 (by have := hd.out; omega); have hY6 : Hid (Blk w6 (w.heap.size + 1) 23 (cells8 r1).toArray) := hY5.out.kept k6 (by have := hd.out; omega); have hb6 : Hid (Below w.heap.size w w6) := hb5.out.trans (Kept.below_of k6 (by have := hd.out; omega) hb5.out.size); have hM6 : Hid (Blk w6 m13 23 (cells8 r0).toArray) := hM5.out.kept k6 (by have := hd.out; omega); clear q6 k6)
       | (go_at_call 48; refine (hNo.out _ hb6.out).mono ?_; rw [show cutTo (sum []) (clampN s) = va from hae.out]; rintro e w7 ⟨rfl, kk7⟩; have hX7 : Hid (Blk w7 w.heap.size 23 (cells8 r0).toArray) := Blk.onA hX6.out kk7; have hY7 : Hid (Blk w7 (w.heap.size + 1) 23 (cells8 r1).toArray) := Blk.onA hY6.out kk7; have hb7 : Hid (Below w.heap.size w w7) := hb6.out.trans (kk7.mono hb6.out.size); have hM7 : Hid (Blk w7 m13 23 (cells8 r0).toArray) := Blk.onA hM6.out kk7; have hN7 : Hid (Blk w7 m14 23 (cells8 r0).toArray) := Blk.onA hN6.out kk7; clear kk7)
       | ((with_reducible change wpList _ _ _ ({ dst := none, op := Op.store 23 (.tmp 13) _, type := _, pos := _, after := _, guard := _ } :: _) _ _); refine wpList_store_whole (o := ⟨none, _, _, _, _, _⟩) rfl 23 (.tmp 13) (.tmp 55) rfl (m13) ((cells8 va).toArray) rfl rfl 23 ((cells8 r0).toArray) hM7.out Fa.out.size (Fa.out.same r0 l0.out) Fa.out.one ?_; intro w8 q8 k8; have hM8 : Hid (Blk w8 m13 23 (cells8 va).toArray) := q8; have hX8 : Hid (Blk w8 w.heap.size 23 (cells8 r0).toArray) := hX7.out.kept k8 (by have := hd.out; omega); have hY8 : Hid (Blk w8 (w.heap.size + 1) 23 (cells8 r1).toArray) := hY7.out.kept k8 (by have := hd.out; omega); have hb8 : Hid (Below w.heap.size w w8) := hb7.out.trans (Kept.below_of k8 (by have := hd.out; omega) hb7.out.size); have hN8 : Hid (Blk w8 m14 23 (cells8 r0).toArray) := hN7.out.kept k8 (by have := hd.out; omega); clear q8 k8)
       | ((with_reducible change wpList _ _ _ (⟨some 56, _, _, _, _, _⟩ :: _) _ _); refine wpList_load_row (o := ⟨some 56, _, _, _, _, _⟩) rfl 23 (.tmp 13) rfl (m13) rfl 23 ((cells8 va).toArray) (0, 0) _ hM8.out Tryz.underlying23 rfl Fa.out.size ?_)
       | ((with_reducible change wpList _ _ _ (⟨some 57, _, _, _, _, _⟩ :: _) _ _); refine wpList_load_row (o := ⟨some 57, _, _, _, _, _⟩) rfl 23 (.tmp 9) rfl (w.heap.size) rfl 23 ((cells8 r0).toArray) (0, 0) _ hX8.out Tryz.underlying23 rfl F0.out.size ?_)
       | ((with_reducible change wpList _ _ _ (⟨some 60, _, _, _, _, _⟩ :: _) _ _); refine wpList_load_rowG (o := ⟨some 60, _, _, _, _, _⟩) rfl 23 (.tmp 14) rfl (m14) rfl 23 ((cells8 r0).toArray) (0, 0) _ hN8.out Tryz.underlying23 rfl F0.out.size ?_)
       | ((with_reducible change wpList _ _ _ (⟨some 61, _, _, _, _, _⟩ :: _) _ _); refine wpList_load_rowG (o := ⟨some 61, _, _, _, _, _⟩) rfl 23 (.tmp 10) rfl (w.heap.size + 1) rfl 23 ((cells8 r1).toArray) (0, 0) _ hY8.out Tryz.underlying23 rfl F1.out.size ?_))
      go_ret
      exact ⟨by first | (rw [ha]; rfl) | rfl, hb8.out⟩
    ·have t2 : (0 : Int) < (size : Int) := by omega
     have hbe : r1 = vb := (hB0.out (by omega) ho).symm
     have hae : noneOf s = va := (hA0.out ho).symm
     have hM5 := hM13
     have hN5 := hM14
     replace hae := Lib.hid hae
     subst hbe
     clear hA0 hA1 hA2 hB0 hB1 hB2 ho hz hM13 hM14
     by_cases hv1 : va = r0
     ·by_cases hv2 : r1 = r1
      ·have qa : ∀ w, (Op.equalIn 10000 23 (.agg (cells8 va).toArray) (.agg (cells8 r0).toArray)).run Tryz.prog w = .ok true w := fun w => by rw [hqa.out w, decide_eq_true hv1]
       have qb : ∀ w, (Op.equalIn 10000 23 (.agg (cells8 r1).toArray) (.agg (cells8 r1).toArray)).run Tryz.prog w = .ok true w := fun w => by rw [hqb.out w, decide_eq_true hv2]
       have ha : ans = 0 := by rw [hans.out, if_pos ⟨hv1, hv2⟩]
       clear hv1 hv2
       go_wp2_with (first
        | (go_at_call 48; refine (hNo.out _ hb5.out).mono ?_; rw [show cutTo (sum []) (clampN s) = va from hae.out]; rintro e w6 ⟨rfl, kk6⟩; have hX6 : Hid (Blk w6 w.heap.size 23 (cells8 r0).toArray) := Blk.onA hX5.out kk6; have hY6 : Hid (Blk w6 (w.heap.size + 1) 23 (cells8 r1).toArray) := Blk.onA hY5.out kk6; have hb6 : Hid (Below w.heap.size w w6) := hb5.out.trans (kk6.mono hb5.out.size); have hM6 : Hid (Blk w6 m13 23 (cells8 r0).toArray) := Blk.onA hM5.out kk6; have hN6 : Hid (Blk w6 m14 23 (cells8 r1).toArray) := Blk.onA hN5.out kk6; clear kk6)
        | ((with_reducible change wpList _ _ _ ({ dst := none, op := Op.store 23 (.tmp 13) _, type := _, pos := _, after := _, guard := _ } :: _) _ _); refine wpList_store_whole (o := ⟨none, _, _, _, _, _⟩) rfl 23 (.tmp 13) (.tmp 46) rfl (m13) ((cells8 va).toArray) rfl rfl 23 ((cells8 r0).toArray) hM6.out Fa.out.size (Fa.out.same r0 l0.out) Fa.out.one ?_; intro w7 q7 k7; have hM7 : Hid (Blk w7 m13 23 (cells8 va).toArray) := q7; have hX7 : Hid (Blk w7 w.heap.size 23 (cells8 r0).toArray) := hX6.out.kept k7 (by have := hd.out; omega); have hY7 : Hid (Blk w7 (w.heap.size + 1) 23 (cells8 r1).toArray) := hY6.out.kept k7 (by have := hd.out; omega); have hb7 : Hid (Below w.heap.size w w7) := hb6.out.trans (Kept.below_of k7 (by have := hd.out; omega) hb6.out.size); have hN7 : Hid (Blk w7 m14 23 (cells8 r1).toArray) := hN6.out.kept k7 (by have := hd.out; omega); clear q7 k7)
        | ((with_reducible change wpList _ _ _ (⟨some 56, _, _, _, _, _⟩ :: _) _ _); refine wpList_load_row (o := ⟨some 56, _, _, _, _, _⟩) rfl 23 (.tmp 13) rfl (m13) rfl 23 ((cells8 va).toArray) (0, 0) _ hM7.out Tryz.underlying23 rfl Fa.out.size ?_)
        | ((with_reducible change wpList _ _ _ (⟨some 57, _, _, _, _, _⟩ :: _) _ _); refine wpList_load_row (o := ⟨some 57, _, _, _, _, _⟩) rfl 23 (.tmp 9) rfl (w.heap.size) rfl 23 ((cells8 r0).toArray) (0, 0) _ hX7.out Tryz.underlying23 rfl F0.out.size ?_)
        | ((with_reducible change wpList _ _ _ (⟨some 60, _, _, _, _, _⟩ :: _) _ _); refine wpList_load_rowG (o := ⟨some 60, _, _, _, _, _⟩) rfl 23 (.tmp 14) rfl (m14) rfl 23 ((cells8 r1).toArray) (0, 0) _ hN7.out Tryz.underlying23 rfl F1.out.size ?_)
        | ((with_reducible change wpList _ _ _ (⟨some 61, _, _, _, _, _⟩ :: _) _ _); refine wpList_load_rowG (o := ⟨some 61, _, _, _, _, _⟩) rfl 23 (.tmp 10) rfl (w.heap.size + 1) rfl 23 ((cells8 r1).toArray) (0, 0) _ hY7.out Tryz.underlying23 rfl F1.out.size ?_))
       go_ret
       exact ⟨by first | (rw [ha]; rfl) | rfl, hb7.out⟩
      ·have qa : ∀ w, (Op.equalIn 10000 23 (.agg (cells8 va).toArray) (.agg (cells8 r0).toArray)).run Tryz.prog w = .ok true w := fun w => by rw [hqa.out w, decide_eq_true hv1]
       have qb : ∀ w, (Op.equalIn 10000 23 (.agg (cells8 r1).toArray) (.agg (cells8 r1).toArray)).run Tryz.prog w = .ok false w := fun w => by rw [hqb.out w, decide_eq_false hv2]
       have ha : ans = 171 := by rw [hans.out, if_neg (fun h => hv2 h.2)]
       clear hv1 hv2
       go_wp2_with (first
        | (go_at_call 48; refine (hNo.out _ hb5.out).mono ?_; rw [show cutTo (sum []) (clampN s) = va from hae.out]; rintro e w6 ⟨rfl, kk6⟩; have hX6 : Hid (Blk w6 w.heap.size 23 (cells8 r0).toArray) := Blk.onA hX5.out kk6; have hY6 : Hid (Blk w6 (w.heap.size + 1) 23 (cells8 r1).toArray) := Blk.onA hY5.out kk6; have hb6 : Hid (Below w.heap.size w w6) := hb5.out.trans (kk6.mono hb5.out.size); have hM6 : Hid (Blk w6 m13 23 (cells8 r0).toArray) := Blk.onA hM5.out kk6; have hN6 : Hid (Blk w6 m14 23 (cells8 r1).toArray) := Blk.onA hN5.out kk6; clear kk6)
        | ((with_reducible change wpList _ _ _ ({ dst := none, op := Op.store 23 (.tmp 13) _, type := _, pos := _, after := _, guard := _ } :: _) _ _); refine wpList_store_whole (o := ⟨none, _, _, _, _, _⟩) rfl 23 (.tmp 13) (.tmp 46) rfl (m13) ((cells8 va).toArray) rfl rfl 23 ((cells8 r0).toArray) hM6.out Fa.out.size (Fa.out.same r0 l0.out) Fa.out.one ?_; intro w7 q7 k7; have hM7 : Hid (Blk w7 m13 23 (cells8 va).toArray) := q7; have hX7 : Hid (Blk w7 w.heap.size 23 (cells8 r0).toArray) := hX6.out.kept k7 (by have := hd.out; omega); have hY7 : Hid (Blk w7 (w.heap.size + 1) 23 (cells8 r1).toArray) := hY6.out.kept k7 (by have := hd.out; omega); have hb7 : Hid (Below w.heap.size w w7) := hb6.out.trans (Kept.below_of k7 (by have := hd.out; omega) hb6.out.size); have hN7 : Hid (Blk w7 m14 23 (cells8 r1).toArray) := hN6.out.kept k7 (by have := hd.out; omega); clear q7 k7)
        | ((with_reducible change wpList _ _ _ (⟨some 56, _, _, _, _, _⟩ :: _) _ _); refine wpList_load_row (o := ⟨some 56, _, _, _, _, _⟩) rfl 23 (.tmp 13) rfl (m13) rfl 23 ((cells8 va).toArray) (0, 0) _ hM7.out Tryz.underlying23 rfl Fa.out.size ?_)
        | ((with_reducible change wpList _ _ _ (⟨some 57, _, _, _, _, _⟩ :: _) _ _); refine wpList_load_row (o := ⟨some 57, _, _, _, _, _⟩) rfl 23 (.tmp 9) rfl (w.heap.size) rfl 23 ((cells8 r0).toArray) (0, 0) _ hX7.out Tryz.underlying23 rfl F0.out.size ?_)
        | ((with_reducible change wpList _ _ _ (⟨some 60, _, _, _, _, _⟩ :: _) _ _); refine wpList_load_rowG (o := ⟨some 60, _, _, _, _, _⟩) rfl 23 (.tmp 14) rfl (m14) rfl 23 ((cells8 r1).toArray) (0, 0) _ hN7.out Tryz.underlying23 rfl F1.out.size ?_)
        | ((with_reducible change wpList _ _ _ (⟨some 61, _, _, _, _, _⟩ :: _) _ _); refine wpList_load_rowG (o := ⟨some 61, _, _, _, _, _⟩) rfl 23 (.tmp 10) rfl (w.heap.size + 1) rfl 23 ((cells8 r1).toArray) (0, 0) _ hY7.out Tryz.underlying23 rfl F1.out.size ?_))
       go_ret
       exact ⟨by first | (rw [ha]; rfl) | rfl, hb7.out⟩
     ·have qa : ∀ w, (Op.equalIn 10000 23 (.agg (cells8 va).toArray) (.agg (cells8 r0).toArray)).run Tryz.prog w = .ok false w := fun w => by rw [hqa.out w, decide_eq_false hv1]
      have ha : ans = 171 := by rw [hans.out, if_neg (fun h => hv1 h.1)]
      clear hv1
      go_wp2_with (first
       | (go_at_call 48; refine (hNo.out _ hb5.out).mono ?_; rw [show cutTo (sum []) (clampN s) = va from hae.out]; rintro e w6 ⟨rfl, kk6⟩; have hX6 : Hid (Blk w6 w.heap.size 23 (cells8 r0).toArray) := Blk.onA hX5.out kk6; have hY6 : Hid (Blk w6 (w.heap.size + 1) 23 (cells8 r1).toArray) := Blk.onA hY5.out kk6; have hb6 : Hid (Below w.heap.size w w6) := hb5.out.trans (kk6.mono hb5.out.size); have hM6 : Hid (Blk w6 m13 23 (cells8 r0).toArray) := Blk.onA hM5.out kk6; have hN6 : Hid (Blk w6 m14 23 (cells8 r1).toArray) := Blk.onA hN5.out kk6; clear kk6)
       | ((with_reducible change wpList _ _ _ ({ dst := none, op := Op.store 23 (.tmp 13) _, type := _, pos := _, after := _, guard := _ } :: _) _ _); refine wpList_store_whole (o := ⟨none, _, _, _, _, _⟩) rfl 23 (.tmp 13) (.tmp 46) rfl (m13) ((cells8 va).toArray) rfl rfl 23 ((cells8 r0).toArray) hM6.out Fa.out.size (Fa.out.same r0 l0.out) Fa.out.one ?_; intro w7 q7 k7; have hM7 : Hid (Blk w7 m13 23 (cells8 va).toArray) := q7; have hX7 : Hid (Blk w7 w.heap.size 23 (cells8 r0).toArray) := hX6.out.kept k7 (by have := hd.out; omega); have hY7 : Hid (Blk w7 (w.heap.size + 1) 23 (cells8 r1).toArray) := hY6.out.kept k7 (by have := hd.out; omega); have hb7 : Hid (Below w.heap.size w w7) := hb6.out.trans (Kept.below_of k7 (by have := hd.out; omega) hb6.out.size); have hN7 : Hid (Blk w7 m14 23 (cells8 r1).toArray) := hN6.out.kept k7 (by have := hd.out; omega); clear q7 k7)
       | ((with_reducible change wpList _ _ _ (⟨some 56, _, _, _, _, _⟩ :: _) _ _); refine wpList_load_row (o := ⟨some 56, _, _, _, _, _⟩) rfl 23 (.tmp 13) rfl (m13) rfl 23 ((cells8 va).toArray) (0, 0) _ hM7.out Tryz.underlying23 rfl Fa.out.size ?_)
       | ((with_reducible change wpList _ _ _ (⟨some 57, _, _, _, _, _⟩ :: _) _ _); refine wpList_load_row (o := ⟨some 57, _, _, _, _, _⟩) rfl 23 (.tmp 9) rfl (w.heap.size) rfl 23 ((cells8 r0).toArray) (0, 0) _ hX7.out Tryz.underlying23 rfl F0.out.size ?_)
       | ((with_reducible change wpList _ _ _ (⟨some 60, _, _, _, _, _⟩ :: _) _ _); refine wpList_load_rowG (o := ⟨some 60, _, _, _, _, _⟩) rfl 23 (.tmp 14) rfl (m14) rfl 23 ((cells8 r1).toArray) (0, 0) _ hN7.out Tryz.underlying23 rfl F1.out.size ?_)
       | ((with_reducible change wpList _ _ _ (⟨some 61, _, _, _, _, _⟩ :: _) _ _); refine wpList_load_rowG (o := ⟨some 61, _, _, _, _, _⟩) rfl 23 (.tmp 10) rfl (w.heap.size + 1) rfl 23 ((cells8 r1).toArray) (0, 0) _ hY7.out Tryz.underlying23 rfl F1.out.size ?_))
      go_ret
      exact ⟨by first | (rw [ha]; rfl) | rfl, hb7.out⟩
   ·have t1 : ((old : Int) == 0) = false := beq_eq_false_iff_ne.2 (by omega)
    have t0 : ¬ old = 0 := ho
    by_cases hz : old = size
    ·have t3 : ((old : Int) == (size : Int)) = true := beq_iff_eq.2 (by omega)
     have t4 : ((size : Int) == 0) = false := beq_eq_false_iff_ne.2 (by omega)
     have t5 : ¬ size = 0 := by omega
     have hbe : r0 = vb := (hB1.out hz).symm
     have hae : r0 = va := (hA1.out ho hz).symm
     have hM5 := hM13
     have hN5 := hM14
     subst hbe
     subst hae
     clear hA0 hA1 hA2 hB0 hB1 hB2 ho hz hM13 hM14
     by_cases hv1 : r0 = r0
     ·by_cases hv2 : r0 = r1
      ·have qa : ∀ w, (Op.equalIn 10000 23 (.agg (cells8 r0).toArray) (.agg (cells8 r0).toArray)).run Tryz.prog w = .ok true w := fun w => by rw [hqa.out w, decide_eq_true hv1]
       have qb : ∀ w, (Op.equalIn 10000 23 (.agg (cells8 r0).toArray) (.agg (cells8 r1).toArray)).run Tryz.prog w = .ok true w := fun w => by rw [hqb.out w, decide_eq_true hv2]
       have ha : ans = 0 := by rw [hans.out, if_pos ⟨hv1, hv2⟩]
       clear hv1 hv2
       go_wp2_with (first
        | ((with_reducible change wpList _ _ _ (⟨some 51, _, _, _, _, _⟩ :: _) _ _); refine wpList_load_row (o := ⟨some 51, _, _, _, _, _⟩) rfl 23 (.tmp 9) rfl (w.heap.size) rfl 23 ((cells8 r0).toArray) (0, 0) _ hX5.out Tryz.underlying23 rfl F0.out.size ?_)
        | ((with_reducible change wpList _ _ _ ({ dst := none, op := Op.store 23 (.tmp 14) _, type := _, pos := _, after := _, guard := _ } :: _) _ _); refine wpList_store_whole (o := ⟨none, _, _, _, _, _⟩) rfl 23 (.tmp 14) (.tmp 51) rfl (m14) ((cells8 r0).toArray) rfl rfl 23 ((cells8 r1).toArray) hN5.out F0.out.size (F0.out.same r1 l1.out) F0.out.one ?_; intro w6 q6 k6; have hN6 : Hid (Blk w6 m14 23 (cells8 r0).toArray) := q6; have hX6 : Hid (Blk w6 w.heap.size 23 (cells8 r0).toArray) := hX5.out.kept k6 (by have := hd.out; omega); have hY6 : Hid (Blk w6 (w.heap.size + 1) 23 (cells8 r1).toArray) := hY5.out.kept k6 (by have := hd.out; omega); have hb6 : Hid (Below w.heap.size w w6) := hb5.out.trans (Kept.below_of k6 (by have := hd.out; omega) hb5.out.size); have hM6 : Hid (Blk w6 m13 23 (cells8 r0).toArray) := hM5.out.kept k6 (by have := hd.out; omega); clear q6 k6)
        | ((with_reducible change wpList _ _ _ (⟨some 56, _, _, _, _, _⟩ :: _) _ _); refine wpList_load_row (o := ⟨some 56, _, _, _, _, _⟩) rfl 23 (.tmp 13) rfl (m13) rfl 23 ((cells8 r0).toArray) (0, 0) _ hM6.out Tryz.underlying23 rfl F0.out.size ?_)
        | ((with_reducible change wpList _ _ _ (⟨some 57, _, _, _, _, _⟩ :: _) _ _); refine wpList_load_row (o := ⟨some 57, _, _, _, _, _⟩) rfl 23 (.tmp 9) rfl (w.heap.size) rfl 23 ((cells8 r0).toArray) (0, 0) _ hX6.out Tryz.underlying23 rfl F0.out.size ?_)
        | ((with_reducible change wpList _ _ _ (⟨some 60, _, _, _, _, _⟩ :: _) _ _); refine wpList_load_rowG (o := ⟨some 60, _, _, _, _, _⟩) rfl 23 (.tmp 14) rfl (m14) rfl 23 ((cells8 r0).toArray) (0, 0) _ hN6.out Tryz.underlying23 rfl F0.out.size ?_)
        | ((with_reducible change wpList _ _ _ (⟨some 61, _, _, _, _, _⟩ :: _) _ _); refine wpList_load_rowG (o := ⟨some 61, _, _, _, _, _⟩) rfl 23 (.tmp 10) rfl (w.heap.size + 1) rfl 23 ((cells8 r1).toArray) (0, 0) _ hY6.out Tryz.underlying23 rfl F1.out.size ?_))
       go_ret
       exact ⟨by first | (rw [ha]; rfl) | rfl, hb6.out⟩
      ·have qa : ∀ w, (Op.equalIn 10000 23 (.agg (cells8 r0).toArray) (.agg (cells8 r0).toArray)).run Tryz.prog w = .ok true w := fun w => by rw [hqa.out w, decide_eq_true hv1]
       have qb : ∀ w, (Op.equalIn 10000 23 (.agg (cells8 r0).toArray) (.agg (cells8 r1).toArray)).run Tryz.prog w = .ok false w := fun w => by rw [hqb.out w, decide_eq_false hv2]
       have ha : ans = 171 := by rw [hans.out, if_neg (fun h => hv2 h.2)]
       clear hv1 hv2
       go_wp2_with (first
        | ((with_reducible change wpList _ _ _ (⟨some 51, _, _, _, _, _⟩ :: _) _ _); refine wpList_load_row (o := ⟨some 51, _, _, _, _, _⟩) rfl 23 (.tmp 9) rfl (w.heap.size) rfl 23 ((cells8 r0).toArray) (0, 0) _ hX5.out Tryz.underlying23 rfl F0.out.size ?_)
        | ((with_reducible change wpList _ _ _ ({ dst := none, op := Op.store 23 (.tmp 14) _, type := _, pos := _, after := _, guard := _ } :: _) _ _); refine wpList_store_whole (o := ⟨none, _, _, _, _, _⟩) rfl 23 (.tmp 14) (.tmp 51) rfl (m14) ((cells8 r0).toArray) rfl rfl 23 ((cells8 r1).toArray) hN5.out F0.out.size (F0.out.same r1 l1.out) F0.out.one ?_; intro w6 q6 k6; have hN6 : Hid (Blk w6 m14 23 (cells8 r0).toArray) := q6; have hX6 : Hid (Blk w6 w.heap.size 23 (cells8 r0).toArray) := hX5.out.kept k6 (by have := hd.out; omega); have hY6 : Hid (Blk w6 (w.heap.size + 1) 23 (cells8 r1).toArray) := hY5.out.kept k6 (by have := hd.out; omega); have hb6 : Hid (Below w.heap.size w w6) := hb5.out.trans (Kept.below_of k6 (by have := hd.out; omega) hb5.out.size); have hM6 : Hid (Blk w6 m13 23 (cells8 r0).toArray) := hM5.out.kept k6 (by have := hd.out; omega); clear q6 k6)
        | ((with_reducible change wpList _ _ _ (⟨some 56, _, _, _, _, _⟩ :: _) _ _); refine wpList_load_row (o := ⟨some 56, _, _, _, _, _⟩) rfl 23 (.tmp 13) rfl (m13) rfl 23 ((cells8 r0).toArray) (0, 0) _ hM6.out Tryz.underlying23 rfl F0.out.size ?_)
        | ((with_reducible change wpList _ _ _ (⟨some 57, _, _, _, _, _⟩ :: _) _ _); refine wpList_load_row (o := ⟨some 57, _, _, _, _, _⟩) rfl 23 (.tmp 9) rfl (w.heap.size) rfl 23 ((cells8 r0).toArray) (0, 0) _ hX6.out Tryz.underlying23 rfl F0.out.size ?_)
        | ((with_reducible change wpList _ _ _ (⟨some 60, _, _, _, _, _⟩ :: _) _ _); refine wpList_load_rowG (o := ⟨some 60, _, _, _, _, _⟩) rfl 23 (.tmp 14) rfl (m14) rfl 23 ((cells8 r0).toArray) (0, 0) _ hN6.out Tryz.underlying23 rfl F0.out.size ?_)
        | ((with_reducible change wpList _ _ _ (⟨some 61, _, _, _, _, _⟩ :: _) _ _); refine wpList_load_rowG (o := ⟨some 61, _, _, _, _, _⟩) rfl 23 (.tmp 10) rfl (w.heap.size + 1) rfl 23 ((cells8 r1).toArray) (0, 0) _ hY6.out Tryz.underlying23 rfl F1.out.size ?_))
       go_ret
       exact ⟨by first | (rw [ha]; rfl) | rfl, hb6.out⟩
     ·have qa : ∀ w, (Op.equalIn 10000 23 (.agg (cells8 r0).toArray) (.agg (cells8 r0).toArray)).run Tryz.prog w = .ok false w := fun w => by rw [hqa.out w, decide_eq_false hv1]
      have ha : ans = 171 := by rw [hans.out, if_neg (fun h => hv1 h.1)]
      clear hv1
      go_wp2_with (first
       | ((with_reducible change wpList _ _ _ (⟨some 51, _, _, _, _, _⟩ :: _) _ _); refine wpList_load_row (o := ⟨some 51, _, _, _, _, _⟩) rfl 23 (.tmp 9) rfl (w.heap.size) rfl 23 ((cells8 r0).toArray) (0, 0) _ hX5.out Tryz.underlying23 rfl F0.out.size ?_)
       | ((with_reducible change wpList _ _ _ ({ dst := none, op := Op.store 23 (.tmp 14) _, type := _, pos := _, after := _, guard := _ } :: _) _ _); refine wpList_store_whole (o := ⟨none, _, _, _, _, _⟩) rfl 23 (.tmp 14) (.tmp 51) rfl (m14) ((cells8 r0).toArray) rfl rfl 23 ((cells8 r1).toArray) hN5.out F0.out.size (F0.out.same r1 l1.out) F0.out.one ?_; intro w6 q6 k6; have hN6 : Hid (Blk w6 m14 23 (cells8 r0).toArray) := q6; have hX6 : Hid (Blk w6 w.heap.size 23 (cells8 r0).toArray) := hX5.out.kept k6 (by have := hd.out; omega); have hY6 : Hid (Blk w6 (w.heap.size + 1) 23 (cells8 r1).toArray) := hY5.out.kept k6 (by have := hd.out; omega); have hb6 : Hid (Below w.heap.size w w6) := hb5.out.trans (Kept.below_of k6 (by have := hd.out; omega) hb5.out.size); have hM6 : Hid (Blk w6 m13 23 (cells8 r0).toArray) := hM5.out.kept k6 (by have := hd.out; omega); clear q6 k6)
       | ((with_reducible change wpList _ _ _ (⟨some 56, _, _, _, _, _⟩ :: _) _ _); refine wpList_load_row (o := ⟨some 56, _, _, _, _, _⟩) rfl 23 (.tmp 13) rfl (m13) rfl 23 ((cells8 r0).toArray) (0, 0) _ hM6.out Tryz.underlying23 rfl F0.out.size ?_)
       | ((with_reducible change wpList _ _ _ (⟨some 57, _, _, _, _, _⟩ :: _) _ _); refine wpList_load_row (o := ⟨some 57, _, _, _, _, _⟩) rfl 23 (.tmp 9) rfl (w.heap.size) rfl 23 ((cells8 r0).toArray) (0, 0) _ hX6.out Tryz.underlying23 rfl F0.out.size ?_)
       | ((with_reducible change wpList _ _ _ (⟨some 60, _, _, _, _, _⟩ :: _) _ _); refine wpList_load_rowG (o := ⟨some 60, _, _, _, _, _⟩) rfl 23 (.tmp 14) rfl (m14) rfl 23 ((cells8 r0).toArray) (0, 0) _ hN6.out Tryz.underlying23 rfl F0.out.size ?_)
       | ((with_reducible change wpList _ _ _ (⟨some 61, _, _, _, _, _⟩ :: _) _ _); refine wpList_load_rowG (o := ⟨some 61, _, _, _, _, _⟩) rfl 23 (.tmp 10) rfl (w.heap.size + 1) rfl 23 ((cells8 r1).toArray) (0, 0) _ hY6.out Tryz.underlying23 rfl F1.out.size ?_))
      go_ret
      exact ⟨by first | (rw [ha]; rfl) | rfl, hb6.out⟩
    ·have t3 : ((old : Int) == (size : Int)) = false := beq_eq_false_iff_ne.2 (by omega)
     have t5 : ¬ old = size := hz
     have hbe : (aheadOf s old size r0 ds).sr = vb := (hB2.out hz ho).symm
     have hae : (aheadOf s old size r0 ds).fr = va := (hA2.out ho hz).symm
     have hAhead : Hid (∀ w', Below w.heap.size w w' → Calls Tryz.prog 221 #[.int .i64 s, .int .i64 (old : Int), .int .i64 (size : Int), .agg (cells8 r0).toArray, .slice A m c] w' (fun e w'' => ∃ A9 n9 c9, e = .returned (.tuple #[.agg (cells8 va).toArray, .agg (cells8 vb).toArray, .slice A9 n9 c9]) ∧ Below w'.heap.size w' w'')) := fun w' hb => by
      refine (hva.out w' hb (by omega) (by have := hle.out; omega)).mono ?_
      rintro e w'' ⟨A9, c9, xs, rfl, -, -, hk⟩
      rw [hae, hbe]
      exact ⟨A9, _, c9, rfl, hk⟩
     have hM5 := hM13
     have hN5 := hM14
     clear hA0 hA1 hA2 hB0 hB1 hB2 ho hz hM13 hM14 hae hbe hva
     by_cases hv1 : va = r0
     ·by_cases hv2 : vb = r1
      ·have qa : ∀ w, (Op.equalIn 10000 23 (.agg (cells8 va).toArray) (.agg (cells8 r0).toArray)).run Tryz.prog w = .ok true w := fun w => by rw [hqa.out w, decide_eq_true hv1]
       have qb : ∀ w, (Op.equalIn 10000 23 (.agg (cells8 vb).toArray) (.agg (cells8 r1).toArray)).run Tryz.prog w = .ok true w := fun w => by rw [hqb.out w, decide_eq_true hv2]
       have ha : ans = 0 := by rw [hans.out, if_pos ⟨hv1, hv2⟩]
       clear hv1 hv2
       go_wp2_with (first
        | ((with_reducible change wpList _ _ _ (⟨some 32, _, _, _, _, _⟩ :: _) _ _); refine wpList_load_row (o := ⟨some 32, _, _, _, _, _⟩) rfl 23 (.tmp 9) rfl (w.heap.size) rfl 23 ((cells8 r0).toArray) (0, 0) _ hX5.out Tryz.underlying23 rfl F0.out.size ?_)
        | (go_at_call 221; refine (hAhead.out _ hb5.out).mono ?_; rintro e w6 ⟨A9, n9, c9, rfl, kk6⟩; have hX6 : Hid (Blk w6 w.heap.size 23 (cells8 r0).toArray) := Blk.onA hX5.out kk6; have hY6 : Hid (Blk w6 (w.heap.size + 1) 23 (cells8 r1).toArray) := Blk.onA hY5.out kk6; have hb6 : Hid (Below w.heap.size w w6) := hb5.out.trans (kk6.mono hb5.out.size); have hM6 : Hid (Blk w6 m13 23 (cells8 r0).toArray) := Blk.onA hM5.out kk6; have hN6 : Hid (Blk w6 m14 23 (cells8 r1).toArray) := Blk.onA hN5.out kk6; clear kk6)
        | ((with_reducible change wpList _ _ _ ({ dst := none, op := Op.store 23 (.tmp 13) _, type := _, pos := _, after := _, guard := _ } :: _) _ _); refine wpList_store_whole (o := ⟨none, _, _, _, _, _⟩) rfl 23 (.tmp 13) (.tmp 35) rfl (m13) ((cells8 va).toArray) rfl rfl 23 ((cells8 r0).toArray) hM6.out Fa.out.size (Fa.out.same r0 l0.out) Fa.out.one ?_; intro w7 q7 k7; have hM7 : Hid (Blk w7 m13 23 (cells8 va).toArray) := q7; have hX7 : Hid (Blk w7 w.heap.size 23 (cells8 r0).toArray) := hX6.out.kept k7 (by have := hd.out; omega); have hY7 : Hid (Blk w7 (w.heap.size + 1) 23 (cells8 r1).toArray) := hY6.out.kept k7 (by have := hd.out; omega); have hb7 : Hid (Below w.heap.size w w7) := hb6.out.trans (Kept.below_of k7 (by have := hd.out; omega) hb6.out.size); have hN7 : Hid (Blk w7 m14 23 (cells8 r1).toArray) := hN6.out.kept k7 (by have := hd.out; omega); clear q7 k7)
        | ((with_reducible change wpList _ _ _ ({ dst := none, op := Op.store 23 (.tmp 14) _, type := _, pos := _, after := _, guard := _ } :: _) _ _); refine wpList_store_whole (o := ⟨none, _, _, _, _, _⟩) rfl 23 (.tmp 14) (.tmp 36) rfl (m14) ((cells8 vb).toArray) rfl rfl 23 ((cells8 r1).toArray) hN7.out Fb.out.size (Fb.out.same r1 l1.out) Fb.out.one ?_; intro w8 q8 k8; have hN8 : Hid (Blk w8 m14 23 (cells8 vb).toArray) := q8; have hX8 : Hid (Blk w8 w.heap.size 23 (cells8 r0).toArray) := hX7.out.kept k8 (by have := hd.out; omega); have hY8 : Hid (Blk w8 (w.heap.size + 1) 23 (cells8 r1).toArray) := hY7.out.kept k8 (by have := hd.out; omega); have hb8 : Hid (Below w.heap.size w w8) := hb7.out.trans (Kept.below_of k8 (by have := hd.out; omega) hb7.out.size); have hM8 : Hid (Blk w8 m13 23 (cells8 va).toArray) := hM7.out.kept k8 (by have := hd.out; omega); clear q8 k8)
        | ((with_reducible change wpList _ _ _ (⟨some 56, _, _, _, _, _⟩ :: _) _ _); refine wpList_load_row (o := ⟨some 56, _, _, _, _, _⟩) rfl 23 (.tmp 13) rfl (m13) rfl 23 ((cells8 va).toArray) (0, 0) _ hM8.out Tryz.underlying23 rfl Fa.out.size ?_)
        | ((with_reducible change wpList _ _ _ (⟨some 57, _, _, _, _, _⟩ :: _) _ _); refine wpList_load_row (o := ⟨some 57, _, _, _, _, _⟩) rfl 23 (.tmp 9) rfl (w.heap.size) rfl 23 ((cells8 r0).toArray) (0, 0) _ hX8.out Tryz.underlying23 rfl F0.out.size ?_)
        | ((with_reducible change wpList _ _ _ (⟨some 60, _, _, _, _, _⟩ :: _) _ _); refine wpList_load_rowG (o := ⟨some 60, _, _, _, _, _⟩) rfl 23 (.tmp 14) rfl (m14) rfl 23 ((cells8 vb).toArray) (0, 0) _ hN8.out Tryz.underlying23 rfl Fb.out.size ?_)
        | ((with_reducible change wpList _ _ _ (⟨some 61, _, _, _, _, _⟩ :: _) _ _); refine wpList_load_rowG (o := ⟨some 61, _, _, _, _, _⟩) rfl 23 (.tmp 10) rfl (w.heap.size + 1) rfl 23 ((cells8 r1).toArray) (0, 0) _ hY8.out Tryz.underlying23 rfl F1.out.size ?_))
       go_ret
       exact ⟨by first | (rw [ha]; rfl) | rfl, hb8.out⟩
      ·have qa : ∀ w, (Op.equalIn 10000 23 (.agg (cells8 va).toArray) (.agg (cells8 r0).toArray)).run Tryz.prog w = .ok true w := fun w => by rw [hqa.out w, decide_eq_true hv1]
       have qb : ∀ w, (Op.equalIn 10000 23 (.agg (cells8 vb).toArray) (.agg (cells8 r1).toArray)).run Tryz.prog w = .ok false w := fun w => by rw [hqb.out w, decide_eq_false hv2]
       have ha : ans = 171 := by rw [hans.out, if_neg (fun h => hv2 h.2)]
       clear hv1 hv2
       go_wp2_with (first
        | ((with_reducible change wpList _ _ _ (⟨some 32, _, _, _, _, _⟩ :: _) _ _); refine wpList_load_row (o := ⟨some 32, _, _, _, _, _⟩) rfl 23 (.tmp 9) rfl (w.heap.size) rfl 23 ((cells8 r0).toArray) (0, 0) _ hX5.out Tryz.underlying23 rfl F0.out.size ?_)
        | (go_at_call 221; refine (hAhead.out _ hb5.out).mono ?_; rintro e w6 ⟨A9, n9, c9, rfl, kk6⟩; have hX6 : Hid (Blk w6 w.heap.size 23 (cells8 r0).toArray) := Blk.onA hX5.out kk6; have hY6 : Hid (Blk w6 (w.heap.size + 1) 23 (cells8 r1).toArray) := Blk.onA hY5.out kk6; have hb6 : Hid (Below w.heap.size w w6) := hb5.out.trans (kk6.mono hb5.out.size); have hM6 : Hid (Blk w6 m13 23 (cells8 r0).toArray) := Blk.onA hM5.out kk6; have hN6 : Hid (Blk w6 m14 23 (cells8 r1).toArray) := Blk.onA hN5.out kk6; clear kk6)
        | ((with_reducible change wpList _ _ _ ({ dst := none, op := Op.store 23 (.tmp 13) _, type := _, pos := _, after := _, guard := _ } :: _) _ _); refine wpList_store_whole (o := ⟨none, _, _, _, _, _⟩) rfl 23 (.tmp 13) (.tmp 35) rfl (m13) ((cells8 va).toArray) rfl rfl 23 ((cells8 r0).toArray) hM6.out Fa.out.size (Fa.out.same r0 l0.out) Fa.out.one ?_; intro w7 q7 k7; have hM7 : Hid (Blk w7 m13 23 (cells8 va).toArray) := q7; have hX7 : Hid (Blk w7 w.heap.size 23 (cells8 r0).toArray) := hX6.out.kept k7 (by have := hd.out; omega); have hY7 : Hid (Blk w7 (w.heap.size + 1) 23 (cells8 r1).toArray) := hY6.out.kept k7 (by have := hd.out; omega); have hb7 : Hid (Below w.heap.size w w7) := hb6.out.trans (Kept.below_of k7 (by have := hd.out; omega) hb6.out.size); have hN7 : Hid (Blk w7 m14 23 (cells8 r1).toArray) := hN6.out.kept k7 (by have := hd.out; omega); clear q7 k7)
        | ((with_reducible change wpList _ _ _ ({ dst := none, op := Op.store 23 (.tmp 14) _, type := _, pos := _, after := _, guard := _ } :: _) _ _); refine wpList_store_whole (o := ⟨none, _, _, _, _, _⟩) rfl 23 (.tmp 14) (.tmp 36) rfl (m14) ((cells8 vb).toArray) rfl rfl 23 ((cells8 r1).toArray) hN7.out Fb.out.size (Fb.out.same r1 l1.out) Fb.out.one ?_; intro w8 q8 k8; have hN8 : Hid (Blk w8 m14 23 (cells8 vb).toArray) := q8; have hX8 : Hid (Blk w8 w.heap.size 23 (cells8 r0).toArray) := hX7.out.kept k8 (by have := hd.out; omega); have hY8 : Hid (Blk w8 (w.heap.size + 1) 23 (cells8 r1).toArray) := hY7.out.kept k8 (by have := hd.out; omega); have hb8 : Hid (Below w.heap.size w w8) := hb7.out.trans (Kept.below_of k8 (by have := hd.out; omega) hb7.out.size); have hM8 : Hid (Blk w8 m13 23 (cells8 va).toArray) := hM7.out.kept k8 (by have := hd.out; omega); clear q8 k8)
        | ((with_reducible change wpList _ _ _ (⟨some 56, _, _, _, _, _⟩ :: _) _ _); refine wpList_load_row (o := ⟨some 56, _, _, _, _, _⟩) rfl 23 (.tmp 13) rfl (m13) rfl 23 ((cells8 va).toArray) (0, 0) _ hM8.out Tryz.underlying23 rfl Fa.out.size ?_)
        | ((with_reducible change wpList _ _ _ (⟨some 57, _, _, _, _, _⟩ :: _) _ _); refine wpList_load_row (o := ⟨some 57, _, _, _, _, _⟩) rfl 23 (.tmp 9) rfl (w.heap.size) rfl 23 ((cells8 r0).toArray) (0, 0) _ hX8.out Tryz.underlying23 rfl F0.out.size ?_)
        | ((with_reducible change wpList _ _ _ (⟨some 60, _, _, _, _, _⟩ :: _) _ _); refine wpList_load_rowG (o := ⟨some 60, _, _, _, _, _⟩) rfl 23 (.tmp 14) rfl (m14) rfl 23 ((cells8 vb).toArray) (0, 0) _ hN8.out Tryz.underlying23 rfl Fb.out.size ?_)
        | ((with_reducible change wpList _ _ _ (⟨some 61, _, _, _, _, _⟩ :: _) _ _); refine wpList_load_rowG (o := ⟨some 61, _, _, _, _, _⟩) rfl 23 (.tmp 10) rfl (w.heap.size + 1) rfl 23 ((cells8 r1).toArray) (0, 0) _ hY8.out Tryz.underlying23 rfl F1.out.size ?_))
       go_ret
       exact ⟨by first | (rw [ha]; rfl) | rfl, hb8.out⟩
     ·have qa : ∀ w, (Op.equalIn 10000 23 (.agg (cells8 va).toArray) (.agg (cells8 r0).toArray)).run Tryz.prog w = .ok false w := fun w => by rw [hqa.out w, decide_eq_false hv1]
      have ha : ans = 171 := by rw [hans.out, if_neg (fun h => hv1 h.1)]
      clear hv1
      go_wp2_with (first
       | ((with_reducible change wpList _ _ _ (⟨some 32, _, _, _, _, _⟩ :: _) _ _); refine wpList_load_row (o := ⟨some 32, _, _, _, _, _⟩) rfl 23 (.tmp 9) rfl (w.heap.size) rfl 23 ((cells8 r0).toArray) (0, 0) _ hX5.out Tryz.underlying23 rfl F0.out.size ?_)
       | (go_at_call 221; refine (hAhead.out _ hb5.out).mono ?_; rintro e w6 ⟨A9, n9, c9, rfl, kk6⟩; have hX6 : Hid (Blk w6 w.heap.size 23 (cells8 r0).toArray) := Blk.onA hX5.out kk6; have hY6 : Hid (Blk w6 (w.heap.size + 1) 23 (cells8 r1).toArray) := Blk.onA hY5.out kk6; have hb6 : Hid (Below w.heap.size w w6) := hb5.out.trans (kk6.mono hb5.out.size); have hM6 : Hid (Blk w6 m13 23 (cells8 r0).toArray) := Blk.onA hM5.out kk6; have hN6 : Hid (Blk w6 m14 23 (cells8 r1).toArray) := Blk.onA hN5.out kk6; clear kk6)
       | ((with_reducible change wpList _ _ _ ({ dst := none, op := Op.store 23 (.tmp 13) _, type := _, pos := _, after := _, guard := _ } :: _) _ _); refine wpList_store_whole (o := ⟨none, _, _, _, _, _⟩) rfl 23 (.tmp 13) (.tmp 35) rfl (m13) ((cells8 va).toArray) rfl rfl 23 ((cells8 r0).toArray) hM6.out Fa.out.size (Fa.out.same r0 l0.out) Fa.out.one ?_; intro w7 q7 k7; have hM7 : Hid (Blk w7 m13 23 (cells8 va).toArray) := q7; have hX7 : Hid (Blk w7 w.heap.size 23 (cells8 r0).toArray) := hX6.out.kept k7 (by have := hd.out; omega); have hY7 : Hid (Blk w7 (w.heap.size + 1) 23 (cells8 r1).toArray) := hY6.out.kept k7 (by have := hd.out; omega); have hb7 : Hid (Below w.heap.size w w7) := hb6.out.trans (Kept.below_of k7 (by have := hd.out; omega) hb6.out.size); have hN7 : Hid (Blk w7 m14 23 (cells8 r1).toArray) := hN6.out.kept k7 (by have := hd.out; omega); clear q7 k7)
       | ((with_reducible change wpList _ _ _ ({ dst := none, op := Op.store 23 (.tmp 14) _, type := _, pos := _, after := _, guard := _ } :: _) _ _); refine wpList_store_whole (o := ⟨none, _, _, _, _, _⟩) rfl 23 (.tmp 14) (.tmp 36) rfl (m14) ((cells8 vb).toArray) rfl rfl 23 ((cells8 r1).toArray) hN7.out Fb.out.size (Fb.out.same r1 l1.out) Fb.out.one ?_; intro w8 q8 k8; have hN8 : Hid (Blk w8 m14 23 (cells8 vb).toArray) := q8; have hX8 : Hid (Blk w8 w.heap.size 23 (cells8 r0).toArray) := hX7.out.kept k8 (by have := hd.out; omega); have hY8 : Hid (Blk w8 (w.heap.size + 1) 23 (cells8 r1).toArray) := hY7.out.kept k8 (by have := hd.out; omega); have hb8 : Hid (Below w.heap.size w w8) := hb7.out.trans (Kept.below_of k8 (by have := hd.out; omega) hb7.out.size); have hM8 : Hid (Blk w8 m13 23 (cells8 va).toArray) := hM7.out.kept k8 (by have := hd.out; omega); clear q8 k8)
       | ((with_reducible change wpList _ _ _ (⟨some 56, _, _, _, _, _⟩ :: _) _ _); refine wpList_load_row (o := ⟨some 56, _, _, _, _, _⟩) rfl 23 (.tmp 13) rfl (m13) rfl 23 ((cells8 va).toArray) (0, 0) _ hM8.out Tryz.underlying23 rfl Fa.out.size ?_)
       | ((with_reducible change wpList _ _ _ (⟨some 57, _, _, _, _, _⟩ :: _) _ _); refine wpList_load_row (o := ⟨some 57, _, _, _, _, _⟩) rfl 23 (.tmp 9) rfl (w.heap.size) rfl 23 ((cells8 r0).toArray) (0, 0) _ hX8.out Tryz.underlying23 rfl F0.out.size ?_)
       | ((with_reducible change wpList _ _ _ (⟨some 60, _, _, _, _, _⟩ :: _) _ _); refine wpList_load_rowG (o := ⟨some 60, _, _, _, _, _⟩) rfl 23 (.tmp 14) rfl (m14) rfl 23 ((cells8 vb).toArray) (0, 0) _ hN8.out Tryz.underlying23 rfl Fb.out.size ?_)
       | ((with_reducible change wpList _ _ _ (⟨some 61, _, _, _, _, _⟩ :: _) _ _); refine wpList_load_rowG (o := ⟨some 61, _, _, _, _, _⟩) rfl 23 (.tmp 10) rfl (w.heap.size + 1) rfl 23 ((cells8 r1).toArray) (0, 0) _ hY8.out Tryz.underlying23 rfl F1.out.size ?_))
      go_ret
      exact ⟨by first | (rw [ha]; rfl) | rfl, hb8.out⟩
 ·rw [if_pos hmn] at hans
  subst hans
  have e1 : ((n : Int) == (m : Int)) = false := beq_eq_false_iff_ne.2 (by omega)
  have e2 : ¬ n = m := fun e => hmn e.symm
  clear hj hB hr hs h0 h1 hpl hm han hmn
  go_enter Tryz.func135, Tryz.ntmps135
  go_wp2_with fail
  change Calls _ _ _ ((w.alloc (.cells (cells8 r0).toArray 23)).alloc (.cells (cells8 r1).toArray 23)) _
  rw [← hw0.out]
  clear hw0
  refine (hSz.out _).mono ?_
  rintro e w1 ⟨rfl, rfl⟩
  go_wp2_with fail
  refine (hPt.out _).mono ?_
  rintro e w4 ⟨v, rfl, hO, hk1⟩
  rw [hpm.out] at hO
  obtain ⟨Ap, cp, rfl, -⟩ := Append.Own.reads hO
  have hb4 : Hid (Below w.heap.size w w4) := hb0.out.trans (hk1.mono hb0.out.size)
  clear hO hk1
  go_wp2_with fail
  go_ret
  exact ⟨rfl, hb4.out⟩
theorem agree_any (s old size : Int) (r0 r1 : Text) (h0 : r0.length = 32) (h1 : r1.length = 32) (ds : List Text) (A : Option Addr) (n c : Nat) (w : World) (hB : Base w) (hr : RdD w A n ds) :
  Calls Tryz.prog 135 #[.int .i64 s, .int .i64 old, .int .i64 size, .agg (cells8 r0).toArray, .agg (cells8 r1).toArray, .slice A n c] w fun e w' => e = .returned (.int .i64 (agreeOf s old size r0 r1 ds)) ∧ Below w.heap.size w w' := by
 cases hj : joinsB old size with
 | false =>
  rw [show agreeOf s old size r0 r1 ds = 60 from if_pos hj]
  exact agree_out s old size hj r0 r1 A n c w
 | true =>
  have h2 := hj
  simp only [joinsB, Bool.and_eq_true, decide_eq_true_eq] at h2
  obtain ⟨o, rfl⟩ := Int.eq_ofNat_of_zero_le h2.1.1
  obtain ⟨z, rfl⟩ := Int.eq_ofNat_of_zero_le (show 0 ≤ size by omega)
  exact agree_in s o z (by omega) (by omega) r0 r1 h0 h1 ds A n c w hB hr
end Go.Proofs.YtgldkfaiofkhbaaGreatDoor.Agree

namespace Go.Proofs.YtgldkfaiofkhbaaGreatDoor.RefAgree
open Go Go.RowKit Go.Proofs.YtgldkfaiofkhbaaGreatDoor Digest Mem Sha ShaWalk Bytes Go.Proofs.YtgldkfaiofkhbaaGreatDoor.Append HashMem DigestMem DigestTop RefTop DigEq QuietTail Grown TreeMath TreeMem TreeRoot Held Guard Book Subs RowsP Joint SubRef AheadM AheadT RefIncl0 RefAhead Agree

end Go.Proofs.YtgldkfaiofkhbaaGreatDoor.RefAgree

namespace Go.Proofs.YtgldkfaiofkhbaaGreatDoor.TwiceP
open Go Go.RowKit Go.Proofs.YtgldkfaiofkhbaaGreatDoor Sha DigestMem Bytes TreeMem TreeRoot Climb AheadM

def sumOf (s : Int) (q : Text) : Text := cutTo (sum q) (clampN s)
theorem sumOf_len (s : Int) (q : Text) : (sumOf s q).length = 32 := cutTo_len _ _ (sum_len _) (clampN_ok s).2
def MetAt (s : Int) (a b : List Text) : Prop := ∃ (i : Nat) (p q : Text), a[i]? = some p ∧ b[i]? = some q ∧ p ≠ q ∧ sumOf s p = sumOf s q
def Met (s : Int) (l : List Text) : Prop := ∃ p q, p ∈ l ∧ q ∈ l ∧ p ≠ q ∧ sumOf s p = sumOf s q
theorem MetAt.met {s : Int} {a b : List Text} (h : MetAt s a b) : Met s (a ++ b) := by
 obtain ⟨i, p, q, h1, h2, h3, h4⟩ := h
 exact ⟨p, q, List.mem_append_left _ (List.mem_of_getElem? h1), List.mem_append_right _ (List.mem_of_getElem? h2), h3, h4⟩
theorem MetAt.more {s : Int} {a b c d : List Text} (h : MetAt s a b) : MetAt s (a ++ c) (b ++ d) := by
 obtain ⟨i, p, q, h1, h2, h3, h4⟩ := h
 exact ⟨i, p, q, by rw [List.getElem?_append_left (List.getElem?_eq_some_iff.1 h1).1]; exact h1, by rw [List.getElem?_append_left (List.getElem?_eq_some_iff.1 h2).1]; exact h2, h3, h4⟩
theorem MetAt.last {s : Int} {a b : List Text} {p q : Text} (hl : a.length = b.length) (hne : p ≠ q) (h : sumOf s p = sumOf s q) : MetAt s (a ++ [p]) (b ++ [q]) :=
 ⟨a.length, p, q, by simp, by rw [hl]; simp, hne, h⟩
theorem Met.mono {s : Int} {a b : List Text} (h : Met s a) (hs : ∀ p ∈ a, p ∈ b) : Met s b := by
 obtain ⟨p, q, h1, h2, h3, h4⟩ := h
 exact ⟨p, q, hs p h1, hs q h2, h3, h4⟩
theorem pair_inj {a b c d : Text} (ha : a.length = 32) (hc : c.length = 32) (h : kb 1 :: (a ++ b) = kb 1 :: (c ++ d)) : a = c ∧ b = d := by
 have h := (List.cons.inj h).2
 exact List.append_inj h (by omega)
theorem climb_meet (s : Int) {x y : Text} (hx : x.length = 32) (hy : y.length = 32) {P Q : List (Bool × Text)} (hP : ∀ p ∈ P, p.2.length = 32) (hQ : ∀ p ∈ Q, p.2.length = 32) (hl : P.length = Q.length) (hb : ∀ (i : Nat) (p q : Bool × Text), P[i]? = some p → Q[i]? = some q → p.1 = q.1) :
  ∀ j, j ≤ P.length → (climbN s (x, []) P j).1 = (climbN s (y, []) Q j).1 → (x = y ∧ ∀ i, i < j → P[i]? = Q[i]?) ∨ MetAt s (climbN s (x, []) P j).2 (climbN s (y, []) Q j).2
 | 0, _, h => by
  rw [climbN_zero, climbN_zero] at h
  exact .inl ⟨h, fun i hi => by omega⟩
 | j + 1, hj, h => by
  obtain ⟨p, hp⟩ : ∃ p, P[j]? = some p := ⟨_, List.getElem?_eq_getElem (by omega)⟩
  obtain ⟨q, hq⟩ : ∃ q, Q[j]? = some q := ⟨_, List.getElem?_eq_getElem (by omega)⟩
  have hpq := hb j p q hp hq
  have lp := hP p (List.mem_of_getElem? hp)
  have lq := hQ q (List.mem_of_getElem? hq)
  have ih := climb_meet s hx hy hP hQ hl hb j (by omega)
  obtain ⟨l1, t1⟩ := climbN_len (s := s) (st := (x, [])) (l := P) hx j (by omega)
  obtain ⟨l2, t2⟩ := climbN_len (s := s) (st := (y, [])) (l := Q) hy j (by omega)
  rw [climbN_succ hp, climbN_succ hq] at h ⊢
  obtain ⟨X, hX⟩ : ∃ X, climbN s (x, []) P j = X := ⟨_, rfl⟩
  obtain ⟨Y, hY⟩ : ∃ Y, climbN s (y, []) Q j = Y := ⟨_, rfl⟩
  rw [hX] at h ih l1 t1 ⊢
  rw [hY] at h ih l2 t2 ⊢
  have htt : X.2.length = Y.2.length := by rw [t1, t2]
  have fin : X.1 = Y.1 → p.2 = q.2 → (x = y ∧ ∀ i, i < j + 1 → P[i]? = Q[i]?) ∨ MetAt s X.2 Y.2 := fun e1 e2 => by
   rcases ih e1 with ⟨h1, h2⟩ | h1
   ·refine .inl ⟨h1, fun i hi => ?_⟩
    rcases Nat.lt_or_ge i j with h | h
    ·exact h2 i h
    ·obtain rfl : i = j := by omega
     rw [hp, hq, Prod.ext hpq e2]
   ·exact .inr h1
  unfold climb1 at h ⊢
  rw [hpq] at h ⊢
  cases hq1 : q.1 with
  | true =>
   simp only [hq1, if_true] at h ⊢
   by_cases e : (kb 1 :: (X.1 ++ p.2)) = kb 1 :: (Y.1 ++ q.2)
   ·obtain ⟨e1, e2⟩ := pair_inj l1 l2 e
    rcases fin e1 e2 with h1 | h1
    ·exact .inl h1
    ·exact .inr h1.more
   ·exact .inr (.last htt e h)
  | false =>
   simp only [hq1, Bool.false_eq_true, if_false] at h ⊢
   by_cases e : (kb 1 :: (p.2 ++ X.1)) = kb 1 :: (q.2 ++ Y.1)
   ·obtain ⟨e1, e2⟩ := pair_inj lp lq e
    rcases fin e2 e1 with h1 | h1
    ·exact .inl h1
    ·exact .inr h1.more
   ·exact .inr (.last htt e h)
end Go.Proofs.YtgldkfaiofkhbaaGreatDoor.TwiceP

namespace Go.Proofs.YtgldkfaiofkhbaaGreatDoor.SparseP
open Go Go.RowKit Go.Proofs.YtgldkfaiofkhbaaGreatDoor Mem Sha Bytes TreeMem ProofIdx IdxAny TwiceP DigestMem Octet

def brOf (s : Int) (a b : Text) : Text := sumOf s (kb 4 :: (a ++ b))
theorem brOf_len (s : Int) (a b : Text) : (brOf s a b).length = 32 := sumOf_len _ _
def emp (s : Int) : Nat → Text
 | 0 => sumOf s [kb 5]
 | h + 1 => brOf s (emp s h) (emp s h)
theorem emp_len (s : Int) : ∀ h, (emp s h).length = 32
 | 0 => sumOf_len _ _
 | _ + 1 => brOf_len _ _ _
def kbit (k : Text) (i : Nat) : Nat := (k.getD (i / 8) 0).toNat / 2 ^ (7 - i % 8) % 2
def upT (k : Text) (h : Nat) (x n : Text) : Text := kb 4 :: (if kbit k (255 - h) = 0 then x ++ n else n ++ x)
def lead (s : Int) (k t0 : Text) (l : List Text) : Nat → List Text × Text
 | 0 => ([t0], sumOf s t0)
 | h + 1 => let p := lead s k t0 l h; let t := upT k h p.2 (l.getD h []); (p.1 ++ [t], sumOf s t)
end Go.Proofs.YtgldkfaiofkhbaaGreatDoor.SparseP

namespace Go.Proofs.YtgldkfaiofkhbaaGreatDoor.Include
open Go Go.RowKit Go.Proofs.YtgldkfaiofkhbaaGreatDoor Digest Mem Sha ShaWalk Bytes HashMem DigestMem DigestTop RefTop QuietTail Grown Chain TreeMath TreeMem TreeRoot Go.Proofs.YtgldkfaiofkhbaaGreatDoor.Append Book TreeRefRoot Held DigestText Node NodeW Sides Way WayP Climb Incl InclAny

theorem inclOf_len (s size i : Int) (leaf : Text) (ts ds : List Text) (hl : leaf.length = 32) : (inclOf s size i leaf ts ds).1.length = 32 := by
  unfold inclOf
  split
  · simp
  · split
    · simp
    · rename_i h
      exact (climbN_len hl _ (by rw [List.length_zip]; have h2 : (sides size.toNat i.toNat).length = ds.length := by omega
                                 omega)).1
theorem ClAt.new {w : World} {gc : Nat} {s : Int} (h : Blk w gc 322 #[.int .i64 s, .slice none 0 0]) : ClAt w gc none s [] :=
 ⟨.slice none 0 0, [], h, World.ownsRow_nil _ _ _ _, rfl, (fun k e => by cases e), (fun i q h => by simp at h)⟩

set_option maxRecDepth 100000 in
set_option maxHeartbeats 1000000 in
theorem include_any (s size i : Int) (leaf : Text) (hl : leaf.length = 32) (ds : List Text) (A : Option Addr) (n c : Nat) (hn : n < 4503599627370496) (w : World) (hBs : Base w) (hr : RdD w A n ds) :
  Calls Tryz.prog 136 #[.int .i64 s, .int .i64 size, .int .i64 i, .agg (cells8 leaf).toArray, .slice A n c] w fun e w' => e = .returned (.tuple #[.agg (cells8 (inclOf s size i leaf [] ds).1).toArray, .int .i64 (inclOf s size i leaf [] ds).2.1]) ∧ Below w.heap.size w w' := by
 have hb3 : Hid (Below w.heap.size w (((w.alloc (.cells (cells8 leaf).toArray 23)).alloc (.cells Z32 23)).alloc (.cells #[.int .i64 s, .slice none 0 0] 322))) := ((Below.heap_below w _).alloc (by simp) _).alloc (by simp; omega) _
 have hz3 : Hid ((((w.alloc (.cells (cells8 leaf).toArray 23)).alloc (.cells Z32 23)).alloc (.cells #[.int .i64 s, .slice none 0 0] 322)).heap.size = w.heap.size + 3) := by show _ = _; simp
 have hz2 : ((w.alloc (.cells (cells8 leaf).toArray 23)).alloc (.cells Z32 23)).heap.size = w.heap.size + 2 := by simp
 have hB3 : Hid (Blk (((w.alloc (.cells (cells8 leaf).toArray 23)).alloc (.cells Z32 23)).alloc (.cells #[.int .i64 s, .slice none 0 0] 322)) (w.heap.size + 1) 23 Z32) := by
  have := (Blk.new (w.alloc (.cells (cells8 leaf).toArray 23)) 23 Z32).alloc (.cells #[.int .i64 s, .slice none 0 0] 322)
  rwa [show (w.alloc (.cells (cells8 leaf).toArray 23)).heap.size = w.heap.size + 1 by simp] at this
 have hL3 : Hid (Blk (((w.alloc (.cells (cells8 leaf).toArray 23)).alloc (.cells Z32 23)).alloc (.cells #[.int .i64 s, .slice none 0 0] 322)) w.heap.size 23 (cells8 leaf).toArray) := ((Blk.new w 23 (cells8 leaf).toArray).alloc _).alloc _
 have hC3 : ClAt (((w.alloc (.cells (cells8 leaf).toArray 23)).alloc (.cells Z32 23)).alloc (.cells #[.int .i64 s, .slice none 0 0] 322)) (w.heap.size + 2) none s [] := by
  have := Blk.new ((w.alloc (.cells (cells8 leaf).toArray 23)).alloc (.cells Z32 23)) 322 #[.int .i64 s, .slice none 0 0]
  rw [hz2] at this
  exact ClAt.new this
 have hT := Lib.hid (incl_any (w.heap.size + 2) none s [] size i leaf hl ds A n c (((w.alloc (.cells (cells8 leaf).toArray 23)).alloc (.cells Z32 23)).alloc (.cells #[.int .i64 s, .slice none 0 0] 322)) (hBs.below hb3.out hBs.1) (by have := hBs.1; omega) hC3 (fun q h => by cases h) (by have := hn; simp) (hr.below hb3.out) (fun h0 b o e => by
  obtain ⟨b', o', e', h', -⟩ := hr.2.2.at_ (by omega)
  rw [e] at e'
  have e' := Option.some.inj e'
  injection e' with e1
  exact ⟨by omega, fun h => by cases h⟩))
 obtain ⟨x, hx⟩ : ∃ x, inclOf s size i leaf [] ds = x := ⟨_, rfl⟩
 have F := Lib.hid (fit (x := x.1) (by rw [← hx]; exact inclOf_len _ _ _ _ _ _ hl))
 have Fl := Lib.hid (fit (x := leaf) hl)
 rw [hx] at hT ⊢
 clear hC3 hz2 hBs hn hr hl
 go_enter Tryz.func136, Tryz.ntmps136
 go_wp2_with ((with_reducible change wpList _ _ _ (⟨some 19, _, _, _, _, _⟩ :: _) _ _); refine wpList_load_row (o := ⟨some 19, _, _, _, _, _⟩) rfl 23 (.tmp 8) rfl (w.heap.size) rfl 23 ((cells8 leaf).toArray) (0, 0) _ hL3.out Tryz.underlying23 rfl Fl.out.size ?_)
 refine hT.out.mono ?_
 rintro e w4 ⟨rfl, r', -, hk, -⟩
 have hB4 : Hid (Blk w4 (w.heap.size + 1) 23 Z32) := hB3.out.kept hk (fun h => by rcases h with h | h; omega; cases h)
 have hb4 : Hid (Below w.heap.size w w4) := ⟨hk.os.trans hb3.out.os, hk.tape.trans hb3.out.tape, hk.output.trans hb3.out.output, Nat.le_trans hb3.out.size hk.size, fun k h => (hk.block k (by have := hz3.out; omega) (fun e => by rcases e with e | e; omega; cases e)).trans (hb3.out.block k h)⟩
 go_wp2_with ((with_reducible change wpList _ _ _ ({ dst := none, op := Op.store 23 _ _, type := _, pos := _, after := _, guard := _ } :: _) _ _); refine wpList_store_row (o := ⟨none, _, _, _, _, _⟩) rfl 23 (.tmp 10) (.tmp 22) rfl (w.heap.size + 1) ((cells8 x.1).toArray) rfl rfl 23 (Z32) hB4.out F.out.size F.out.zero F.out.one ?_)
 refine bodyPost_ret (results_cell_row2 rfl _ _ (w.heap.size + 1) 23 (cells8 x.1).toArray (0, 0) _ rfl (setRow_heap _ _ _ _ _ _ hB4.out) Tryz.underlying23 rfl F.out.size) rfl ?_
 exact ⟨rfl, below_setRow hb4.out (by omega) _⟩
end Go.Proofs.YtgldkfaiofkhbaaGreatDoor.Include

namespace Go.Proofs.YtgldkfaiofkhbaaGreatDoor.Climbs
open Go Go.RowKit Go.Proofs.YtgldkfaiofkhbaaGreatDoor Digest Mem Sha ShaWalk Bytes HashMem DigestMem DigestTop RefTop QuietTail Grown Chain TreeMath TreeMem TreeRoot Go.Proofs.YtgldkfaiofkhbaaGreatDoor.Append Book TreeRefRoot Held DigestText Node NodeW Sides Way WayP Climb Incl InclAny Include

set_option maxRecDepth 100000 in
set_option maxHeartbeats 1000000 in
theorem climb_own (s size i : Int) (leaf : Text) (hl : leaf.length = 32) (ds : List Text) (A : Option Addr) (n c : Nat) (hn : n < 4503599627370496) (w : World) (hBs : Base w) (hr : RdD w A n ds) :
  Calls Tryz.prog 317 #[.int .i64 s, .int .i64 size, .int .i64 i, .agg (cells8 leaf).toArray, .slice A n c] w fun e w' => ∃ v xs r gc, e = .returned (.tuple #[v, .int .i64 (inclOf s size i leaf [] ds).2.1]) ∧ w'.ownsRow 0 27 1 v (inclOf s size i leaf [] ds).2.2.length xs ∧ Txs (fun _ => False) w' gc r xs (inclOf s size i leaf [] ds).2.2 ∧ Below w.heap.size w w' ∧ ∀ k, v.ownBlock = some k → w.heap.size ≤ k := by
 have hb3 : Hid (Below w.heap.size w ((w.alloc (.cells (cells8 leaf).toArray 23)).alloc (.cells #[.int .i64 s, .slice none 0 0] 322))) := (Below.heap_below w _).alloc (by simp) _
 have hz3 : Hid (((w.alloc (.cells (cells8 leaf).toArray 23)).alloc (.cells #[.int .i64 s, .slice none 0 0] 322)).heap.size = w.heap.size + 2) := by show _ = _; simp
 have hL3 : Hid (Blk ((w.alloc (.cells (cells8 leaf).toArray 23)).alloc (.cells #[.int .i64 s, .slice none 0 0] 322)) w.heap.size 23 (cells8 leaf).toArray) := (Blk.new w 23 (cells8 leaf).toArray).alloc _
 have hC3 : ClAt ((w.alloc (.cells (cells8 leaf).toArray 23)).alloc (.cells #[.int .i64 s, .slice none 0 0] 322)) (w.heap.size + 1) none s [] := by
  have := Blk.new (w.alloc (.cells (cells8 leaf).toArray 23)) 322 #[.int .i64 s, .slice none 0 0]
  rw [show (w.alloc (.cells (cells8 leaf).toArray 23)).heap.size = w.heap.size + 1 by simp] at this
  exact ClAt.new this
 have hT := Lib.hid (incl_any (w.heap.size + 1) none s [] size i leaf hl ds A n c ((w.alloc (.cells (cells8 leaf).toArray 23)).alloc (.cells #[.int .i64 s, .slice none 0 0] 322)) (hBs.below hb3.out hBs.1) (by have := hBs.1; omega) hC3 (fun q h => by cases h) (by have := hn; simp) (hr.below hb3.out) (fun h0 b o e => by
  obtain ⟨b', o', e', h', -⟩ := hr.2.2.at_ (by omega)
  rw [e] at e'
  have e' := Option.some.inj e'
  injection e' with e1
  exact ⟨by omega, fun h => by cases h⟩))
 obtain ⟨x, hx⟩ : ∃ x, inclOf s size i leaf [] ds = x := ⟨_, rfl⟩
 have F := Lib.hid (fit (x := x.1) (by rw [← hx]; exact inclOf_len _ _ _ _ _ _ hl))
 have Fl := Lib.hid (fit (x := leaf) hl)
 rw [hx] at hT ⊢
 clear hC3 hBs hn hr hl
 go_enter Tryz.func317, Tryz.ntmps317
 go_wp2_with ((with_reducible change wpList _ _ _ (⟨some 22, _, _, _, _, _⟩ :: _) _ _); refine wpList_load_row (o := ⟨some 22, _, _, _, _, _⟩) rfl 23 (.tmp 8) rfl (w.heap.size) rfl 23 ((cells8 leaf).toArray) (0, 0) _ hL3.out Tryz.underlying23 rfl Fl.out.size ?_)
 refine hT.out.mono ?_
 rintro e w4 ⟨rfl, r', hC4, hk, -⟩
 have hb4 : Hid (Below w.heap.size w w4) := ⟨hk.os.trans hb3.out.os, hk.tape.trans hb3.out.tape, hk.output.trans hb3.out.output, Nat.le_trans hb3.out.size hk.size, fun k h => (hk.block k (by have := hz3.out; omega) (fun e => by rcases e with e | e; omega; cases e)).trans (hb3.out.block k h)⟩
 clear hT hk
 replace hC4 := Lib.hid hC4
 go_wp2_with ((with_reducible change wpList _ _ _ ({ dst := none, op := Op.store 23 (.tmp 13) _, type := _, pos := _, after := _, guard := _ } :: _) _ _); refine wpList_store_whole (o := ⟨none, _, _, _, _, _⟩) rfl 23 (.tmp 13) (.tmp 25) rfl (w4.heap.size) ((cells8 x.1).toArray) rfl rfl 23 (Z32) (Blk.new w4 _ _) F.out.size F.out.zero F.out.one ?_; intro w5 hB5 hk5; have hb45 : Below w4.heap.size w4 w5 := (Below.heap_below w4 _).trans (Bytes.Kept.below_of hk5 (Nat.le_refl _) (by simp)); have hC5 : ClAt w5 (w.heap.size + 1) r' s x.2.2 := ClAtM.kept hC4.out (Kept.of_below hb45) (fun h => h) (fun _ _ h => h); obtain ⟨v4, xs4, hBc, hO5, hv5, hr5, hX5⟩ := hC5; have hA5 : Hid (∀ k, v4.ownBlock = some k → w.heap.size ≤ k) := (fun k e => by have := (hr5 k (by rw [← hv5]; exact e)).1; omega); clear hv5 hr5; have e1 : w5.cell? ⟨w.heap.size + 1, 1, none⟩ = some v4 := hBc.cell 1; replace hO5 := Lib.hid hO5; replace hX5 := Lib.hid hX5; have hb5 := Lib.hid (hb4.out.trans (hb45.mono hb4.out.size)); clear hBc hk5 hB5 hb45)
 go_ret2
 exact ⟨v4, xs4, r', w.heap.size + 1, rfl, hO5.out, hX5.out, hb5.out, hA5.out⟩
end Go.Proofs.YtgldkfaiofkhbaaGreatDoor.Climbs

namespace Go.Proofs.YtgldkfaiofkhbaaGreatDoor.RefIncl
open Go Go.RowKit Go.Proofs.YtgldkfaiofkhbaaGreatDoor Digest Mem Sha ShaWalk Bytes HashMem DigestMem DigestTop RefTop QuietTail Grown Chain TreeMath TreeMem TreeRoot Go.Proofs.YtgldkfaiofkhbaaGreatDoor.Append Book TreeRefRoot Held Node Sides WayP Climb Incl InclAny RefSides Levels Texts RefCut RefIncl0


end Go.Proofs.YtgldkfaiofkhbaaGreatDoor.RefIncl

namespace Go.Proofs.YtgldkfaiofkhbaaGreatDoor.Aud0
end Go.Proofs.YtgldkfaiofkhbaaGreatDoor.Aud0

namespace Go.Proofs.YtgldkfaiofkhbaaGreatDoor.AudIncl
open Go Go.RowKit Go.Proofs.YtgldkfaiofkhbaaGreatDoor Mem Sha Bytes HashMem DigestMem Digest DigestTop RefTop QuietTail Grown Chain TreeMem TreeRoot Held Guard Sides Node Climb Incl Include RefIncl0 RefIncl ProofEnc Ref17 InclAll Book Book2 Within

theorem _root_.Go.Proofs.YtgldkfaiofkhbaaGreatDoor.Mem.Blk.onw {w w' : World} {g : Nat} {t : TypeId} {cs : Array Value} (h : Blk w g t cs) (hb : Below w.heap.size w w') : Blk w' g t cs := (hb.block g h.lt).trans h
theorem sizeI : (Tryz.prog.info? 48).map (·.size) = some 3 := by kernel_rfl
def audIncl (s : Int) (root ev : Text) (x1 x2 : Int) (ds : List Text) : Int :=
 if inclWant x1 x2 ds = none ∨ ev.length < 1 ∨ 65536 < ev.length ∨ withinB s ds = false then 170
 else if (inclOf s x1 x2 (leafOf s ev) [] ds).1 = root then 0 else 171
theorem want_zero {s x1 x2 : Int} {leaf : Text} {ds : List Text} {b : Text} (h : inclWant x1 x2 ds = some b) : (inclOf s x1 x2 leaf [] ds).2.1 = 0 := by
 unfold inclWant at h
 split at h
 ·rename_i hh
  unfold inclOf
  rw [if_neg (by rw [show WayP.insideB x1 x2 = true from hh.1]; decide), if_neg (fun e => e hh.2)]
 ·cases h
theorem audIncl_none {s : Int} {root ev : Text} {x1 x2 : Int} {ds : List Text} (h : inclWant x1 x2 ds = none) : audIncl s root ev x1 x2 ds = 170 := if_pos (.inl h)
theorem audIncl_short {s : Int} {root ev : Text} {x1 x2 : Int} {ds : List Text} (h : ev.length < 1) : audIncl s root ev x1 x2 ds = 170 := if_pos (.inr (.inl h))
theorem audIncl_long {s : Int} {root ev : Text} {x1 x2 : Int} {ds : List Text} (h : 65536 < ev.length) : audIncl s root ev x1 x2 ds = 170 := if_pos (.inr (.inr (.inl h)))
theorem audIncl_wide {s : Int} {root ev : Text} {x1 x2 : Int} {ds : List Text} (h : withinB s ds = false) : audIncl s root ev x1 x2 ds = 170 := if_pos (.inr (.inr (.inr h)))
theorem audIncl_in {s : Int} {root ev : Text} {x1 x2 : Int} {ds : List Text} {b : Text} (h : inclWant x1 x2 ds = some b) (h1 : ¬ ev.length < 1) (h2 : ¬ 65536 < ev.length) (h3 : withinB s ds = true) : audIncl s root ev x1 x2 ds = if (inclOf s x1 x2 (leafOf s ev) [] ds).1 = root then 0 else 171 := by
 unfold audIncl
 rw [if_neg]
 rintro (h' | h' | h' | h')
 ·rw [h] at h'; cases h'
 ·exact h1 h'
 ·exact h2 h'
 ·rw [h3] at h'; cases h'

set_option maxRecDepth 100000 in
set_option maxHeartbeats 2000000 in
theorem audIncl_any (s : Int) (root : Text) (hrt : root.length = 32) (ev : Text) (k : Nat) (hk : ev.length = k) (hk47 : k < 140737488355328) (A : Option Addr) (c : Nat) (hkc : k ≤ c) (hnil : A = none → k = 0 ∧ c = 0) (x1 x2 : Int) (ds : List Text) (A2 : Option Addr) (n c2 : Nat) (hn40 : n < 140737488355328) (w : World) (hB : Base w) (hr : Reads w 1 A k (cells8 ev)) (hrd : RdD w A2 n ds) :
  Calls Tryz.prog 69 #[.int .i64 s, .agg (cells8 root).toArray, .slice A k c, .agg (inclCells x1 x2 A2 n c2)] w fun e w' => e = .returned (.int .i64 (audIncl s root ev x1 x2 ds)) ∧ Below w.heap.size w w' := by
 unfold inclCells
 obtain ⟨W, hW⟩ : ∃ W, Hid (W = (w.alloc (.cells (cells8 root).toArray 23)).alloc (.cells #[Value.int .i64 x1, Value.int .i64 x2, Value.slice A2 n c2] 48)) := ⟨_, rfl⟩
 have hb1 : Hid (Below w.heap.size w W) := by show Below _ _ _; rw [hW.out]; exact ((Below.refl _ w).alloc (Nat.le_refl _) _).alloc (by simp) _
 have hR1 : Hid (Blk W w.heap.size 23 (cells8 root).toArray) := by show Blk _ _ _ _; rw [hW.out]; exact heap_alloc2_old w _ _
 have hP1 : Hid (Blk W (w.heap.size + 1) 48 #[Value.int .i64 x1, Value.int .i64 x2, Value.slice A2 n c2]) := by show Blk _ _ _ _; rw [hW.out]; exact heap_alloc2_new w _ _
 have Fr := Lib.hid (fit (x := root) hrt)
 obtain ⟨⟨x, kk, ts⟩, hX⟩ : ∃ X, inclOf s x1 x2 (leafOf s ev) [] ds = X := ⟨_, rfl⟩
 have hxl := inclOf_len s x1 x2 (leafOf s ev) [] ds (leafOf_len s ev)
 have hzero := Lib.hid (fun b (h : inclWant x1 x2 ds = some b) => want_zero (s := s) (leaf := leafOf s ev) h)
 rw [hX] at hxl hzero
 dsimp only at hxl hzero
 have F := Lib.hid (fit (x := x) hxl)
 have hq := Lib.hid (fun w => neq_dg x root hxl hrt w)
 obtain ⟨lf, hlf⟩ : ∃ lf, Hid (leafOf s ev = lf) := ⟨_, Lib.hid rfl⟩
 have hlfl : Hid (lf.length = 32) := by show _ = _; rw [← hlf.out]; exact leafOf_len s ev
 have hWi : Hid (∀ w', Below w.heap.size w w' → Calls Tryz.prog 134 #[.int .i64 s, .slice A2 n c2] w' fun e w'' => e = .returned (.bool (withinB s ds)) ∧ Below w'.heap.size w' w'') := fun w' hb => within_any s ds n (by omega) A2 c2 w' (hrd.below hb)
 have hLf : Hid (∀ w', Below w.heap.size w w' → Calls Tryz.prog 137 #[.int .i64 s, .slice A k c] w' fun e w'' => e = .returned (.agg (cells8 lf).toArray) ∧ Below w'.heap.size w' w'') := fun w' hb => by
  have := leaf_any ev k hk A c s w' (hB.below hb hB.1) hk47 (hr.below hb) hkc hnil
  rw [← hlf.out]
  exact this
 have hsome := Lib.hid (fun b (h : inclWant x1 x2 ds = some b) h1 h2 h3 => audIncl_in (s := s) (root := root) (ev := ev) h h1 h2 h3)
 rw [hX] at hsome
 dsimp only at hsome
 have hIn : Hid (∀ w', Below w.heap.size w w' → Calls Tryz.prog 136 #[.int .i64 s, .int .i64 x1, .int .i64 x2, .agg (cells8 lf).toArray, .slice A2 n c2] w' fun e w'' => e = .returned (.tuple #[.agg (cells8 x).toArray, .int .i64 kk]) ∧ Below w'.heap.size w' w'') := fun w' hb => by
  have := include_any s x1 x2 lf hlfl.out ds A2 n c2 (by omega) w' (hB.below hb hB.1) (hrd.below hb)
  rw [← hlf.out] at this
  rw [hX] at this
  rw [← hlf.out]
  exact this
 have hEn : Hid (∀ w', Below w.heap.size w w' → Calls Tryz.prog 87 #[.agg #[Value.int .i64 x1, Value.int .i64 x2, Value.slice A2 n c2]] w' fun e w'' => ∃ A4 c4 b err, e = .returned (.tuple #[.slice A4 b.length c4, .int .i64 err]) ∧ Reads w'' 1 A4 b.length (cells8 b) ∧ ((inclWant x1 x2 ds = some b ∧ err = 0) ∨ (inclWant x1 x2 ds = none ∧ b = [] ∧ err = 170)) ∧ Below w'.heap.size w' w'') := fun w' hb => encIncl_any x1 x2 ds A2 n c2 w' (hrd.below hb)
 have hnoneA := Lib.hid (fun h => audIncl_none (s := s) (root := root) (ev := ev) (x1 := x1) (x2 := x2) (ds := ds) h)
 have hshortA := Lib.hid (fun h => audIncl_short (s := s) (root := root) (ev := ev) (x1 := x1) (x2 := x2) (ds := ds) h)
 have hlongA := Lib.hid (fun h => audIncl_long (s := s) (root := root) (ev := ev) (x1 := x1) (x2 := x2) (ds := ds) h)
 have hwideA := Lib.hid (fun h => audIncl_wide (s := s) (root := root) (ev := ev) (x1 := x1) (x2 := x2) (ds := ds) h)
 obtain ⟨ans, hans⟩ : ∃ a, Hid (audIncl s root ev x1 x2 ds = a) := ⟨_, Lib.hid rfl⟩
 rw [hans.out] at hsome hnoneA hshortA hlongA hwideA ⊢
 have hkh := Lib.hid hk
 rw [hkh.out] at hsome hshortA hlongA
 clear hrt hk hk47 hkc hnil hn40 hr hrd hX hxl hB
 go_enter Tryz.func69, Tryz.ntmps69
 go_wp2_with fail
 change Calls _ _ _ ((w.alloc (.cells (cells8 root).toArray 23)).alloc (.cells #[Value.int .i64 x1, Value.int .i64 x2, Value.slice A2 n c2] 48)) _
 rw [← hW.out]
 clear hW
 refine (hEn.out W hb1.out).mono ?_
 rintro e w2 ⟨A4, c4, b, err, rfl, -, hbe, hk1⟩
 have hb2 : Hid (Below w.heap.size w w2) := hb1.out.trans (hk1.mono hb1.out.size)
 have hR2 : Hid (Blk w2 w.heap.size 23 (cells8 root).toArray) := Blk.onw hR1.out hk1
 have hP2 : Hid (Blk w2 (w.heap.size + 1) 48 #[Value.int .i64 x1, Value.int .i64 x2, Value.slice A2 n c2]) := Blk.onw hP1.out hk1
 clear hk1 hEn
 rcases hbe with ⟨hwt, rfl⟩ | ⟨hwt, rfl, rfl⟩
 ·by_cases hs1 : k < 1
  ·obtain rfl := hshortA.out hs1
   have y1 : (k : Int) < 1 := by omega
   clear hans hwt
   go_wp2_with fail
   go_ret
   exact ⟨rfl, hb2.out⟩
  ·by_cases hs2 : 65536 < k
   ·obtain rfl := hlongA.out hs2
    have y1 : ¬ ((k : Int) < 1) := by omega
    have y2 : (65536 : Int) < (k : Int) := by omega
    clear hans hwt hs1
    go_wp2_with fail
    go_ret
    exact ⟨rfl, hb2.out⟩
   ·have y1 : ¬ ((k : Int) < 1) := by omega
    have y2 : ¬ ((65536 : Int) < (k : Int)) := by omega
    have hWd := Lib.hid (hWi.out w2 hb2.out)
    have hsm := Lib.hid (hsome.out b hwt hs1 hs2)
    obtain rfl : kk = 0 := hzero.out b hwt
    clear hshortA hlongA hnoneA hwt hs1 hs2 hzero hsome
    have c2' : w2.cell? ⟨w.heap.size + 1, 2, none⟩ = some (.slice A2 n c2) := hP2.out.cell 2
    cases hwi : withinB s ds with
    | false =>
     obtain rfl := hwideA.out hwi
     rw [hwi] at hWd
     clear hwi hsm hans
     go_wp2_with (go_at_call 134; refine hWd.out.mono ?_; rintro e w3 ⟨rfl, hk1⟩; have hb3 : Hid (Below w.heap.size w w3) := hb2.out.trans (hk1.mono hb2.out.size); have hR3 : Hid (Blk w3 w.heap.size 23 (cells8 root).toArray) := Blk.onw hR2.out hk1; have hP3 : Hid (Blk w3 (w.heap.size + 1) 48 #[Value.int .i64 x1, Value.int .i64 x2, Value.slice A2 n c2]) := Blk.onw hP2.out hk1; clear hk1)
     go_ret
     exact ⟨rfl, hb3.out⟩
    | true =>
     have hsm2 := Lib.hid (hsm.out hwi)
     rw [hwi] at hWd
     clear hwi hsm hwideA hans
     go_wp2_with (go_at_call 134; refine hWd.out.mono ?_; rintro e w3 ⟨rfl, hk1⟩; have hb3 : Hid (Below w.heap.size w w3) := hb2.out.trans (hk1.mono hb2.out.size); have hR3 : Hid (Blk w3 w.heap.size 23 (cells8 root).toArray) := Blk.onw hR2.out hk1; have hP3 : Hid (Blk w3 (w.heap.size + 1) 48 #[Value.int .i64 x1, Value.int .i64 x2, Value.slice A2 n c2]) := Blk.onw hP2.out hk1; clear hk1)
     go_cut [11, 12] from 37 to 50 (fun v u wr => ∃ m : Nat, v = .pointer (some ⟨m, 0, none⟩) ∧ u = .int .i64 0 ∧ Hid (Blk wr m 23 (cells8 x).toArray) ∧ Hid (Below w3.heap.size w3 wr))
     case first =>
      have s0 : Hid (Below w3.heap.size w3 w3.drew) := (Below.refl _ _).drew
      refine held_start (fun w' => Below w3.heap.size w3 w') 17 rfl (by kernel_rfl) ?_
      refine Held.tk0 (i := 0) (v := .int .i64 s) rfl s0.out (fun w' hw' => run_mv (.tmp 0) rfl w') ?_
      (intro K k; go_simp; apply k; clear k K)
      refine Held.tk0 (i := 1) (v := .pointer (some ⟨w.heap.size + 1, 0, none⟩)) rfl s0.out (fun w' hw' => by go_simp) ?_
      (intro K k; go_simp; apply k; clear k K)
      refine Held.tk0 (i := 2) (v := .int .i64 x1) rfl s0.out (fun w' hw' => by have h := (Blk.onw hP3.out hw').cell 0; go_simp) ?_
      (intro K k; go_simp; apply k; clear k K)
      refine Held.tk0 (i := 3) (v := .pointer (some ⟨w.heap.size + 1, 1, none⟩)) rfl s0.out (fun w' hw' => by go_simp) ?_
      (intro K k; go_simp; apply k; clear k K)
      refine Held.tk0 (i := 4) (v := .int .i64 x2) rfl s0.out (fun w' hw' => by have h := (Blk.onw hP3.out hw').cell 1; go_simp) ?_
      (intro K k; go_simp; apply k; clear k K)
      refine Held.tk0 (i := 5) (v := .int .i64 s) rfl s0.out (fun w' hw' => run_mv (.tmp 0) rfl w') ?_
      (intro K k; go_simp; apply k; clear k K)
      refine Held.tk0 (i := 6) (v := .slice A k c) rfl s0.out (fun w' hw' => run_mv (.tmp 2) rfl w') ?_
      (intro K k; go_simp; apply k; clear k K)
      refine Held.tk0 (i := 8) (v := .pointer (some ⟨w.heap.size + 1, 2, none⟩)) rfl s0.out (fun w' hw' => by go_simp) ?_
      (intro K k; go_simp; apply k; clear k K)
      refine Held.tk0 (i := 9) (v := .slice A2 n c2) rfl s0.out (fun w' hw' => by have h := (Blk.onw hP3.out hw').cell 2; go_simp) ?_
      (intro K k; go_simp; apply k; clear k K)
      refine held_two (i := 7) (j := 14) rfl rfl (by kernel_rfl) (by rfl) (by rfl) (fun K hK => ?_) (fun K hK => ?_)
      ·refine wp_fn (R := fun v w'' => v = .agg (cells8 lf).toArray ∧ Below w3.heap.size w3 w'' ∧ Below (w3.drew).heap.size (w3.drew) w'') (args := #[.int .i64 s, .slice A k c]) _ _ rfl rfl Tryz.func137 (by kernel_rfl) (by kernel_rfl) ((hLf.out _ (hb3.out.trans ((s0.out).mono hb3.out.size))).mono fun e w'' ⟨he, hb⟩ => ⟨_, he, rfl, s0.out.trans (hb.mono s0.out.size), hb⟩) ?_
       rintro qq w5 ⟨rfl, h5, kk1⟩
       replace h5 := Lib.hid h5
       replace kk1 := Lib.hid kk1
       clear kk1
       go_simp
       refine hK _ _ h5.out ?_
       clear hK K
       refine held_two (i := 10) (j := 14) rfl rfl (by kernel_rfl) (by rfl) (by rfl) (fun K hK => ?_) (fun K hK => ?_)
       ·refine wp_fn (R := fun v w'' => v = .tuple #[.agg (cells8 x).toArray, .int .i64 0] ∧ Below w3.heap.size w3 w'' ∧ Below (w5).heap.size (w5) w'') (args := #[.int .i64 s, .int .i64 x1, .int .i64 x2, .agg (cells8 lf).toArray, .slice A2 n c2]) _ _ rfl rfl Tryz.func136 (by kernel_rfl) (by kernel_rfl) ((hIn.out _ (hb3.out.trans ((h5.out).mono hb3.out.size))).mono fun e w'' ⟨he, hb⟩ => ⟨_, he, rfl, h5.out.trans (hb.mono h5.out.size), hb⟩) ?_
        rintro qq w6 ⟨rfl, h6, kk1⟩
        replace h6 := Lib.hid h6
        replace kk1 := Lib.hid kk1
        clear kk1
        go_simp
        refine hK _ _ h6.out ?_
        clear hK K
        refine Held.tk0 (i := 11) (v := .tuple #[.agg (cells8 x).toArray, .int .i64 0]) rfl h6.out (fun w' hw' => run_mv (.tmp 48) rfl w') ?_
        (intro K k; go_simp; apply k; clear k K)
        refine Held.tk0 (i := 12) (v := .agg (cells8 x).toArray) rfl h6.out (fun w' hw' => by go_simp) ?_
        (intro K k; go_simp; apply k; clear k K)
        refine Held.tk0 (i := 13) (v := .int .i64 0) rfl h6.out (fun w' hw' => by go_simp) ?_
        (intro K k; go_simp; apply k; clear k K)
        refine held_only (i := 14) rfl (by kernel_rfl) (by rfl) (fun K hK => ?_)
        have h7 := Lib.hid (h6.out.alloc h6.out.size (.cells Z32 23))
        have bb : Hid (Blk (w6.alloc (.cells Z32 23)) w6.heap.size 23 Z32) := Blk.new _ _ _
        go_simp
        refine hK _ _ h7.out ?_
        clear hK K
        refine held_only (i := 15) rfl (by kernel_rfl) (by rfl) (fun K hK => ?_)
        refine wp_store_whole 23 (.tmp 11) (.tmp 49) rfl (w6.heap.size) ((cells8 x).toArray) rfl rfl 23 (Z32) (bb.out) F.out.size F.out.zero F.out.one ?_
        intro w99 B9 k9
        have b9 : Hid (Below w3.heap.size w3 w99) := h7.out.trans (Kept.below_of k9 (h6.out.size) h7.out.size)
        go_simp
        refine hK _ _ b9.out ?_
        clear hK K
        refine Held.tk0 (i := 16) (v := .int .i64 0) rfl b9.out (fun w' hw' => by first | go_simp | rfl) ?_
        (intro K k; go_simp; apply k; clear k K)
        refine held_end (by kernel_rfl) ?_
        go_wp2_with fail
        go_meet
        case rel => exact ⟨_, rfl, rfl, B9, b9.out⟩
       ·have h6 := Lib.hid (h5.out.alloc h5.out.size (.cells Z32 23))
        have bb : Hid (Blk (w5.alloc (.cells Z32 23)) w5.heap.size 23 Z32) := Blk.new _ _ _
        go_simp
        refine hK _ _ h6.out ?_
        clear hK K
        refine held_only (i := 10) rfl (by kernel_rfl) (by rfl) (fun K hK => ?_)
        refine wp_fn (R := fun v w'' => v = .tuple #[.agg (cells8 x).toArray, .int .i64 0] ∧ Below w3.heap.size w3 w'' ∧ Below ((w5.alloc (.cells Z32 23))).heap.size ((w5.alloc (.cells Z32 23))) w'') (args := #[.int .i64 s, .int .i64 x1, .int .i64 x2, .agg (cells8 lf).toArray, .slice A2 n c2]) _ _ rfl rfl Tryz.func136 (by kernel_rfl) (by kernel_rfl) ((hIn.out _ (hb3.out.trans ((h6.out).mono hb3.out.size))).mono fun e w'' ⟨he, hb⟩ => ⟨_, he, rfl, h6.out.trans (hb.mono h6.out.size), hb⟩) ?_
        rintro qq w7 ⟨rfl, h7, kk1⟩
        replace h7 := Lib.hid h7
        replace kk1 := Lib.hid kk1
        replace bb := Lib.hid ((kk1.out.block _ (Blk.lt bb.out)).trans bb.out)
        clear kk1
        go_simp
        refine hK _ _ h7.out ?_
        clear hK K
        refine Held.tk0 (i := 11) (v := .tuple #[.agg (cells8 x).toArray, .int .i64 0]) rfl h7.out (fun w' hw' => run_mv (.tmp 48) rfl w') ?_
        (intro K k; go_simp; apply k; clear k K)
        refine Held.tk0 (i := 12) (v := .agg (cells8 x).toArray) rfl h7.out (fun w' hw' => by go_simp) ?_
        (intro K k; go_simp; apply k; clear k K)
        refine Held.tk0 (i := 13) (v := .int .i64 0) rfl h7.out (fun w' hw' => by go_simp) ?_
        (intro K k; go_simp; apply k; clear k K)
        refine held_only (i := 15) rfl (by kernel_rfl) (by rfl) (fun K hK => ?_)
        refine wp_store_whole 23 (.tmp 11) (.tmp 49) rfl (w5.heap.size) ((cells8 x).toArray) rfl rfl 23 (Z32) (bb.out) F.out.size F.out.zero F.out.one ?_
        intro w99 B9 k9
        have b9 : Hid (Below w3.heap.size w3 w99) := h7.out.trans (Kept.below_of k9 (h5.out.size) h7.out.size)
        go_simp
        refine hK _ _ b9.out ?_
        clear hK K
        refine Held.tk0 (i := 16) (v := .int .i64 0) rfl b9.out (fun w' hw' => by first | go_simp | rfl) ?_
        (intro K k; go_simp; apply k; clear k K)
        refine held_end (by kernel_rfl) ?_
        go_wp2_with fail
        go_meet
        case rel => exact ⟨_, rfl, rfl, B9, b9.out⟩
      ·have h5 := Lib.hid (s0.out.alloc s0.out.size (.cells Z32 23))
       have bb : Hid (Blk (w3.drew.alloc (.cells Z32 23)) w3.heap.size 23 Z32) := Blk.new _ _ _
       go_simp
       refine hK _ _ h5.out ?_
       clear hK K
       refine held_only (i := 7) rfl (by kernel_rfl) (by rfl) (fun K hK => ?_)
       refine wp_fn (R := fun v w'' => v = .agg (cells8 lf).toArray ∧ Below w3.heap.size w3 w'' ∧ Below ((w3.drew.alloc (.cells Z32 23))).heap.size ((w3.drew.alloc (.cells Z32 23))) w'') (args := #[.int .i64 s, .slice A k c]) _ _ rfl rfl Tryz.func137 (by kernel_rfl) (by kernel_rfl) ((hLf.out _ (hb3.out.trans ((h5.out).mono hb3.out.size))).mono fun e w'' ⟨he, hb⟩ => ⟨_, he, rfl, h5.out.trans (hb.mono h5.out.size), hb⟩) ?_
       rintro qq w6 ⟨rfl, h6, kk1⟩
       replace h6 := Lib.hid h6
       replace kk1 := Lib.hid kk1
       replace bb := Lib.hid ((kk1.out.block _ (Blk.lt bb.out)).trans bb.out)
       clear kk1
       go_simp
       refine hK _ _ h6.out ?_
       clear hK K
       refine held_only (i := 10) rfl (by kernel_rfl) (by rfl) (fun K hK => ?_)
       refine wp_fn (R := fun v w'' => v = .tuple #[.agg (cells8 x).toArray, .int .i64 0] ∧ Below w3.heap.size w3 w'' ∧ Below (w6).heap.size (w6) w'') (args := #[.int .i64 s, .int .i64 x1, .int .i64 x2, .agg (cells8 lf).toArray, .slice A2 n c2]) _ _ rfl rfl Tryz.func136 (by kernel_rfl) (by kernel_rfl) ((hIn.out _ (hb3.out.trans ((h6.out).mono hb3.out.size))).mono fun e w'' ⟨he, hb⟩ => ⟨_, he, rfl, h6.out.trans (hb.mono h6.out.size), hb⟩) ?_
       rintro qq w7 ⟨rfl, h7, kk1⟩
       replace h7 := Lib.hid h7
       replace kk1 := Lib.hid kk1
       replace bb := Lib.hid ((kk1.out.block _ (Blk.lt bb.out)).trans bb.out)
       clear kk1
       go_simp
       refine hK _ _ h7.out ?_
       clear hK K
       refine Held.tk0 (i := 11) (v := .tuple #[.agg (cells8 x).toArray, .int .i64 0]) rfl h7.out (fun w' hw' => run_mv (.tmp 48) rfl w') ?_
       (intro K k; go_simp; apply k; clear k K)
       refine Held.tk0 (i := 12) (v := .agg (cells8 x).toArray) rfl h7.out (fun w' hw' => by go_simp) ?_
       (intro K k; go_simp; apply k; clear k K)
       refine Held.tk0 (i := 13) (v := .int .i64 0) rfl h7.out (fun w' hw' => by go_simp) ?_
       (intro K k; go_simp; apply k; clear k K)
       refine held_only (i := 15) rfl (by kernel_rfl) (by rfl) (fun K hK => ?_)
       refine wp_store_whole 23 (.tmp 11) (.tmp 49) rfl (w3.heap.size) ((cells8 x).toArray) rfl rfl 23 (Z32) (bb.out) F.out.size F.out.zero F.out.one ?_
       intro w99 B9 k9
       have b9 : Hid (Below w3.heap.size w3 w99) := h7.out.trans (Kept.below_of k9 (s0.out.size) h7.out.size)
       go_simp
       refine hK _ _ b9.out ?_
       clear hK K
       refine Held.tk0 (i := 16) (v := .int .i64 0) rfl b9.out (fun w' hw' => by first | go_simp | rfl) ?_
       (intro K k; go_simp; apply k; clear k K)
       refine held_end (by kernel_rfl) ?_
       go_wp2_with fail
       go_meet
       case rel => exact ⟨_, rfl, rfl, B9, b9.out⟩
     case rest =>
      obtain ⟨m, rfl, rfl, hM, hk4⟩ := hcut
      have hb4 : Hid (Below w.heap.size w wc) := hb3.out.trans (hk4.out.mono hb3.out.size)
      have hR4 : Hid (Blk wc w.heap.size 23 (cells8 root).toArray) := Blk.onw hR3.out hk4.out
      clear hk4
      by_cases hxr : x = root
      ·have hqq : Hid (∀ w, (Op.equalIn 10000 23 (.agg (cells8 x).toArray) (.agg (cells8 root).toArray)).run Tryz.prog w = .ok true w) := fun w => by rw [hq.out w, decide_eq_true hxr]
       have hqq2 := hqq.out
       have ha : ans = 0 := by rw [hsm2.out, if_pos hxr]
       clear hq hqq hxr
       go_wp2_with (first
        | ((with_reducible change wpList _ _ _ (⟨some 54, _, _, _, _, _⟩ :: _) _ _); refine wpList_load_rowG (o := ⟨some 54, _, _, _, _, _⟩) rfl 23 (.tmp 11) rfl (m) rfl 23 ((cells8 x).toArray) (0, 0) _ hM.out Tryz.underlying23 rfl F.out.size ?_)
        | ((with_reducible change wpList _ _ _ (⟨some 55, _, _, _, _, _⟩ :: _) _ _); refine wpList_load_rowG (o := ⟨some 55, _, _, _, _, _⟩) rfl 23 (.tmp 5) rfl (w.heap.size) rfl 23 ((cells8 root).toArray) (0, 0) _ hR4.out Tryz.underlying23 rfl Fr.out.size ?_))
       go_ret
       exact ⟨by rw [ha]; rfl, hb4.out⟩
      ·have hqq : Hid (∀ w, (Op.equalIn 10000 23 (.agg (cells8 x).toArray) (.agg (cells8 root).toArray)).run Tryz.prog w = .ok false w) := fun w => by rw [hq.out w, decide_eq_false hxr]
       have hqq2 := hqq.out
       have ha : ans = 171 := by rw [hsm2.out, if_neg hxr]
       clear hq hqq hxr
       go_wp2_with (first
        | ((with_reducible change wpList _ _ _ (⟨some 54, _, _, _, _, _⟩ :: _) _ _); refine wpList_load_rowG (o := ⟨some 54, _, _, _, _, _⟩) rfl 23 (.tmp 11) rfl (m) rfl 23 ((cells8 x).toArray) (0, 0) _ hM.out Tryz.underlying23 rfl F.out.size ?_)
        | ((with_reducible change wpList _ _ _ (⟨some 55, _, _, _, _, _⟩ :: _) _ _); refine wpList_load_rowG (o := ⟨some 55, _, _, _, _, _⟩) rfl 23 (.tmp 5) rfl (w.heap.size) rfl 23 ((cells8 root).toArray) (0, 0) _ hR4.out Tryz.underlying23 rfl Fr.out.size ?_))
       go_ret
       exact ⟨by rw [ha]; rfl, hb4.out⟩
 ·obtain rfl := hnoneA.out hwt
  clear hans hwt
  go_wp2_with fail
  go_ret
  exact ⟨rfl, hb2.out⟩

end Go.Proofs.YtgldkfaiofkhbaaGreatDoor.AudIncl

namespace Go.Proofs.YtgldkfaiofkhbaaGreatDoor.RowsY
open Go Go.RowKit Go.Proofs.YtgldkfaiofkhbaaGreatDoor Mem Sha Bytes Go.Proofs.YtgldkfaiofkhbaaGreatDoor.Append TreeMem Node Texts AheadT RowsT

def Ty (w : World) (xs : List Value) (ts : List Text) : Prop := ∀ (i : Nat) (q : Text), ts[i]? = some q → 0 < q.length ∧ ∃ g c, xs[i]? = some (.slice (some ⟨g, 0, none⟩) q.length c) ∧ q.length ≤ c ∧ Reads w 1 (some ⟨g, 0, none⟩) q.length (cells8 q)
theorem Tx.ty {w : World} {xs : List Value} {ts : List Text} (h : Tx w xs ts) : Ty w xs ts := fun i q hq => by
 obtain ⟨hl, g, c, a⟩ := h i q hq
 exact ⟨by omega, g, c, a⟩
theorem Ty.nil_ (w : World) : Ty w [] [] := fun i q h => by cases h
theorem Ty.append {w : World} {xs ys : List Value} {ts us : List Text} (h : Ty w xs ts) (k : Ty w ys us) (hl : xs.length = ts.length) : Ty w (xs ++ ys) (ts ++ us) := fun i q hq => by
 rcases Nat.lt_or_ge i ts.length with hi | hi
 ·rw [List.getElem?_append_left hi] at hq
  obtain ⟨hl, g, c, a1, a2, a3⟩ := h i q hq
  exact ⟨hl, g, c, by rw [List.getElem?_append_left (by omega)]; exact a1, a2, a3⟩
 ·rw [List.getElem?_append_right hi] at hq
  obtain ⟨hl', g, c, a1, a2, a3⟩ := k _ q hq
  exact ⟨hl', g, c, by rw [List.getElem?_append_right (by omega), hl]; exact a1, a2, a3⟩
theorem Ty.below {w w' : World} {xs : List Value} {ts : List Text} (h : Ty w xs ts) (hb : Below w.heap.size w w') : Ty w' xs ts := fun i q hq => by
 obtain ⟨hl, g, c, a1, a2, a3⟩ := h i q hq
 exact ⟨hl, g, c, a1, a2, a3.below hb⟩
theorem Ty.keep {S : Nat → Prop} {w w' : World} {xs : List Value} {ts : List Text} (h : Ty w xs ts) (hk : Kept S w w') (hS : ∀ g, S g → ∃ u, w.cell? ⟨g, 0, none⟩ = some u ∧ ∀ n, u ≠ .int .u8 n) : Ty w' xs ts := fun i q hq => by
 obtain ⟨hl, g, c, b1, b2, b3⟩ := h i q hq
 refine ⟨hl, g, c, b1, b2, b3.kept hk (fun b o e hs => ?_)⟩
 injection e with e
 injection e with e1 e2
 subst e1 e2
 obtain ⟨b', o, e1, -, e2⟩ := b3.at_ (by omega)
 injection e1 with e1
 injection e1 with e3 e4
 subst e3 e4
 obtain ⟨u, hu, hne⟩ := hS _ hs
 have h2 := e2 0 _ (cells8_at q 0 (by omega))
 rw [Nat.add_zero, hu] at h2
 exact hne _ (Option.some.inj h2)
theorem own_frontY {w : World} {B : Nat} {v : Value} {xs : List Value} {ts : List Text} (hO : w.ownsRow B 27 1 v ts.length xs) (hx : Ty w xs ts) (h0 : 0 < ts.length) : ∀ g, some g = v.ownBlock → ∃ u, w.cell? ⟨g, 0, none⟩ = some u ∧ ∀ n, u ≠ .int .u8 n := by
 intro g hg
 obtain ⟨q, hq⟩ : ∃ q, ts[0]? = some q := ⟨_, List.getElem?_eq_getElem h0⟩
 obtain ⟨-, gq, c, b1, -⟩ := hx 0 q hq
 obtain ⟨A, c2, rfl, -, -, -, hr, hA⟩ := Append.Own.reads hO
 obtain ⟨b', o, rfl, -, e2⟩ := hr.at_ (by omega)
 have h2 := e2 0 _ b1
 have h3 := (hA _ rfl).2
 rw [h3] at hg
 have hkb : g = b' := Option.some.inj hg
 have ho : o = 0 := by
  rcases hO.2 with ⟨e, -⟩ | ⟨g', cap, cur, e, -⟩
  ·injection e with e; cases e
  ·injection e with e; injection e with e; injection e
 subst hkb ho
 exact ⟨_, h2, fun n e => by cases e⟩
theorem Ty.pieces {w : World} {B : Nat} {v : Value} {xs : List Value} {ts : List Text} (hO : w.ownsRow B 27 1 v ts.length xs) (hx : Ty w xs ts) : ∃ A c, v = .slice A ts.length c ∧ ts.length ≤ c ∧ (A = none → ts.length = 0 ∧ c = 0) ∧ Pieces w A ts := by
 obtain ⟨A, c, e, hc, -, hnil, hr, -⟩ := Append.Own.reads hO
 refine ⟨A, c, e, hc, hnil, fun h0 => ?_⟩
 obtain ⟨b, o, e1, hb, hcs⟩ := hr.at_ (by omega)
 refine ⟨b, o, e1, hb, fun i q hq => ?_⟩
 obtain ⟨-, g, cq, a1, a2, a3⟩ := hx i q hq
 exact ⟨some ⟨g, 0, none⟩, cq, hcs i _ a1, a2, a3, fun h => by cases h⟩
theorem Ty.one {w : World} {B n : Nat} {v : Value} {xs : List Value} {ts : List Text} (hO : w.ownsRow B 27 1 v n xs) (h : Ty w xs ts) (hn : ts.length = n) : ∀ u ∈ xs, u.oneCell' = true := by
 intro u hu
 obtain ⟨j, hj, rfl⟩ := List.mem_iff_getElem.1 hu
 have hl : xs.length = n := by have := hO.1; omega
 obtain ⟨-, g, c, h1, -⟩ := h j _ (List.getElem?_eq_getElem (show j < ts.length by omega))
 rw [List.getElem?_eq_getElem hj] at h1
 rw [Option.some.inj h1]
 rfl
theorem ty_cat2 {w w' : World} {B n m : Nat} {v1 v' : Value} {xs1 xs2 : List Value} {ts1 ts2 : List Text} (l1 : ts1.length = n) (hO : w.ownsRow B 27 1 v1 n xs1) (h1 : Ty w xs1 ts1) (h2 : Ty w xs2 ts2) (h0 : n = 0 → v1 = .slice none 0 0)
  (hG : Grew w B 27 1 v1 n m xs1 xs2 v' w') : Ty w' (xs1 ++ xs2) (ts1 ++ ts2) ∧ w'.ownsRow B 27 1 v' (n + m) (xs1 ++ xs2) ∧ (n + m = 0 → v' = .slice none 0 0) := by
 subst l1
 have hk : Kept (fun k => some k = v1.ownBlock) w w' := (Kept.refl _ w).grown hG.grow (fun k e => .inl e.symm)
 have hxl : xs1.length = ts1.length := by have := hO.1; simpa using this
 have hS : ∀ g, some g = v1.ownBlock → ∃ u, w.cell? ⟨g, 0, none⟩ = some u ∧ ∀ n, u ≠ .int .u8 n := fun g hg => by
  rcases Nat.eq_zero_or_pos ts1.length with h | h
  ·rw [h0 h] at hg; cases hg
  ·exact own_frontY hO h1 h g hg
 exact ⟨(Ty.keep h1 hk hS).append (Ty.keep h2 hk hS) hxl, hG.own, fun h => hG.nil_.2 ⟨h0 (by omega), by omega⟩⟩
end Go.Proofs.YtgldkfaiofkhbaaGreatDoor.RowsY
