/-
  Texts of the claim, put into one file: Node, NodeW, Climb, Incl, Texts, AheadM, InclAny, RefIncl0, AheadT, RefAhead0, RefAheadP, RefAhead, RowsT, Ahead, Agree, RefAgree, HeadSign, Signs, Check, TwiceP, SparseP, Key, Empties, EmptyD.
-/
import Derived.Test.YtgldkfaiofkhbaaDoorZ22
import Derived.Test.YtgldkfaiofkhbaaDoorZ23
import Derived.Test.YtgldkfaiofkhbaaDoorZ4
import Derived.Test.YtgldkfaiofkhbaaDoorZ13
import Derived.Test.YtgldkfaiofkhbaaDoorZ5
import Derived.Test.YtgldkfaiofkhbaaDoorZ8
import Derived.Test.YtgldkfaiofkhbaaDoorZ12
import Derived.Test.YtgldkfaiofkhbaaDoorZ20
import Derived.Test.YtgldkfaiofkhbaaDoorZ14
import Derived.Laws.IdiomStrings

namespace Go.Proofs.YtgldkfaiofkhbaaDoor.Node
open Go Go.RowKit Go.Proofs.YtgldkfaiofkhbaaDoor Go.Proofs.YtgldkfaiofkhbaaDoor.Digest Go.Proofs.YtgldkfaiofkhbaaDoor.Mem Go.Proofs.YtgldkfaiofkhbaaDoor.Sha Go.Proofs.YtgldkfaiofkhbaaDoor.ShaWalk Go.Proofs.YtgldkfaiofkhbaaDoor.Bytes Go.Proofs.YtgldkfaiofkhbaaDoor.HashMem Go.Proofs.YtgldkfaiofkhbaaDoor.DigestMem Go.Proofs.YtgldkfaiofkhbaaDoor.DigestTop Go.Proofs.YtgldkfaiofkhbaaDoor.RefTop Go.Proofs.YtgldkfaiofkhbaaDoor.QuietTail Go.Proofs.YtgldkfaiofkhbaaDoor.Grown Go.Proofs.YtgldkfaiofkhbaaDoor.Chain Go.Proofs.YtgldkfaiofkhbaaDoor.TreeMath Go.Proofs.YtgldkfaiofkhbaaDoor.TreeMem Go.Proofs.YtgldkfaiofkhbaaDoor.TreeRoot Go.Proofs.YtgldkfaiofkhbaaDoor.Append Go.Proofs.YtgldkfaiofkhbaaDoor.TreeRefRoot Go.Proofs.YtgldkfaiofkhbaaDoor.Held Go.Proofs.YtgldkfaiofkhbaaDoor.DigestText

/-- Texts in a row of the climber's own: each reads, none lies in the row's own block or in the climber's. -/
def Txs (M : Nat → Prop) (w : World) (gc : Nat) (r : Option Nat) (xs : List Value) (ts : List Text) : Prop :=
  ∀ (i : Nat) (q : Text), ts[i]? = some q → ∃ g c, xs[i]? = some (.slice (some ⟨g, 0, none⟩) q.length c) ∧ q.length ≤ c ∧ Reads w 1 (some ⟨g, 0, none⟩) q.length (cells8 q) ∧ g < w.heap.size ∧ g ≠ gc ∧ some g ≠ r ∧ ¬ M g
/-- A climber at block gc that has summed the texts ts; its row of texts (if there is one) is block r, above gc. -/
def ClAtM (M : Nat → Prop) (w : World) (gc : Nat) (r : Option Nat) (s : Int) (ts : List Text) : Prop :=
  ∃ v xs, Blk w gc 256 #[.int .i64 s, v] ∧ w.ownsRow 0 31 1 v ts.length xs ∧ v.ownBlock = r ∧ (∀ k, r = some k → gc < k ∧ k < w.heap.size) ∧ Txs M w gc r xs ts
def ClAt (w : World) (gc : Nat) (r : Option Nat) (s : Int) (ts : List Text) : Prop := ClAtM (fun _ => False) w gc r s ts
theorem ClAtM.kept {M : Nat → Prop} {w w' : World} {gc : Nat} {r : Option Nat} {s : Int} {ts : List Text} (h : ClAtM M w gc r s ts) (hk : Kept M w w') (hgc : ¬ M gc) (hr : ∀ k, r = some k → ¬ M k) : ClAt w' gc r s ts := by
  obtain ⟨v, xs, hB, ho, hv, hr1, hx⟩ := h
  refine ⟨v, xs, hB.kept hk hgc, ⟨ho.1, ?_⟩, hv, fun k e => ⟨(hr1 k e).1, Nat.lt_of_lt_of_le (hr1 k e).2 hk.size⟩, fun i q hq => ?_⟩
  · rcases ho.2 with h | ⟨g', cap, cur, rfl, h1, h2, h3⟩
    · exact .inl h
    · refine .inr ⟨g', cap, cur, rfl, h1, ?_, h3⟩
      have e : r = some g' := by rw [← hv]; rfl
      rw [hk.block g' (hr1 g' e).2 (hr g' e), h2]
  · obtain ⟨g, c, a1, a2, a3, a4, a5, a6, a7⟩ := hx i q hq
    refine ⟨g, c, a1, a2, a3.kept hk (fun b o e hm => ?_), Nat.lt_of_lt_of_le a4 hk.size, a5, a6, fun h => h⟩
    injection e with e
    injection e with e1 e2
    exact a7 (e1 ▸ hm)
def Clmb (w : World) (gc : Nat) (r : Option Nat) (s : Int) (ts : List Text) (w' : World) : Prop :=
  ∃ r', ClAt w' gc r' s ts ∧ Kept (fun k => k = gc ∨ some k = r) w w' ∧ (r' = r ∨ ∃ k, r' = some k ∧ w.heap.size ≤ k)
theorem infoT : (Tryd.prog.info? 31).map (fun i => (i.zero, i.size, i.bytes)) = some (some (.slice none 0 0), 1, 24) := by kernel_rfl

/-- The world in which node's text is made. -/
def nodeW (w : World) (l r : Text) : World := (((w.alloc (.cells (cells8 l).toArray 23)).alloc (.cells (cells8 r).toArray 23)).alloc (.cells Z32 23)).drew.alloc (.cells #[.slice (some ⟨w.heap.size, 0, none⟩) 32 32, .slice (some ⟨w.heap.size + 1, 0, none⟩) 32 32] 31)
structure NodeW (w W : World) (l r : Text) : Prop where
  size : W.heap.size = w.heap.size + 4
  below : Below w.heap.size w W
  res : Blk W (w.heap.size + 2) 23 Z32
  pieces : Pieces W (some ⟨w.heap.size + 3, 0, none⟩) [l, r]
  lt : AllLt W W.heap.size (some ⟨w.heap.size + 3, 0, none⟩) [l, r]
theorem nodeW_ok (w : World) (l r : Text) (hl : l.length = 32) (hr : r.length = 32) : NodeW w (nodeW w l r) l r := by
  obtain ⟨W, hW⟩ : ∃ W, W = nodeW w l r := ⟨_, rfl⟩
  have hA0 : W.heap[w.heap.size]? = some (.cells (cells8 l).toArray 23 (0, 0)) := by rw [hW]; exact pairA w _ _ _ _
  have hA1 : W.heap[w.heap.size + 1]? = some (.cells (cells8 r).toArray 23 (0, 0)) := by rw [hW]; exact pairB w _ _ _ _
  have hR : Blk W (w.heap.size + 2) 23 Z32 := by show Blk _ _ _ _; rw [hW]; exact pairC w _ _ _ _
  have hP : W.heap[w.heap.size + 3]? = some (.cells #[.slice (some ⟨w.heap.size, 0, none⟩) 32 32, .slice (some ⟨w.heap.size + 1, 0, none⟩) 32 32] 31 (0, 0)) := by rw [hW]; exact pairD w _ _ _ _
  have hbw : Below w.heap.size w W := by show Below _ _ _; rw [hW]; exact pairE w _ _ _ _
  have hws : W.heap.size = w.heap.size + 4 := by show _ = _; rw [hW]; simp [nodeW]
  rw [← hW]
  refine ⟨hws, hbw, hR, fun _ => ⟨w.heap.size + 3, 0, rfl, by omega, fun i y hy => ?_⟩, fun a e => ?_, fun i q hq b o e Ai ci hc _ a ea => ?_⟩
  · match i with
    | 0 =>
      obtain rfl := Option.some.inj hy
      exact ⟨some ⟨w.heap.size, 0, none⟩, 32, by rw [cell_of_row _ _ _ _ _ _ hP, hl]; rfl, by omega, rowReads hA0, fun h => by cases h⟩
    | 1 =>
      obtain rfl := Option.some.inj hy
      exact ⟨some ⟨w.heap.size + 1, 0, none⟩, 32, by rw [cell_of_row _ _ _ _ _ _ hP, hr]; rfl, by omega, rowReads hA1, fun h => by cases h⟩
    | i + 2 => simp at hy
  · obtain rfl := Option.some.inj e
    show w.heap.size + 3 < _
    omega
  · injection e with e
    injection e with e1 e2
    subst e1 e2
    rw [cell_of_row _ _ _ _ _ _ hP] at hc
    match i with
    | 0 =>
      have h1 := Option.some.inj hc
      injection h1 with h1
      rw [ea] at h1
      have := Option.some.inj h1
      rw [← this]
      show w.heap.size < _
      omega
    | 1 =>
      have h1 := Option.some.inj hc
      injection h1 with h1
      rw [ea] at h1
      have := Option.some.inj h1
      rw [← this]
      show w.heap.size + 1 < _
      omega
    | i + 2 => simp at hq
/-- What a node leaves of a climber. -/
theorem Clmb.step {w w3 w4 : World} {gc gt ct : Nat} {r : Option Nat} {s : Int} {ts : List Text} {q : Text} {v v1 : Value} {xs : List Value} (hx : Txs (fun _ => False) w gc r xs ts) (hr : ∀ k, r = some k → gc < k ∧ k < w.heap.size) (hgc : gc < w.heap.size)
    (hb : Below w.heap.size w w3) (hB : Blk w3 gc 256 #[.int .i64 s, v]) (hv : v.ownBlock = r) (hq : Reads w3 1 (some ⟨gt, 0, none⟩) q.length (cells8 q)) (hgt : w.heap.size ≤ gt ∧ gt < w3.heap.size) (hct : q.length ≤ ct)
    (hG : Grew (w3.alloc (.cells #[.slice (some ⟨gt, 0, none⟩) q.length ct] 31)) 0 31 1 v ts.length 1 xs [.slice (some ⟨gt, 0, none⟩) q.length ct] v1 w4) (hxl : xs.length = ts.length) :
    ∃ r', ClAtM (fun k => w.heap.size ≤ k ∧ k < gt) (w4.setCell ⟨gc, 1, none⟩ v1) gc r' s (ts ++ [q]) ∧ Kept (fun k => k = gc ∨ some k = r) w (w4.setCell ⟨gc, 1, none⟩ v1) ∧ (r' = r ∨ ∃ k, r' = some k ∧ w3.heap.size < k) := by
  have hrow : ∀ k, r = some k → k < w3.heap.size := fun k e => by have := (hr k e).2; have := hb.size; omega
  have hz : (w3.alloc (.cells #[.slice (some ⟨gt, 0, none⟩) q.length ct] 31)).heap.size = w3.heap.size + 1 := by simp
  have hg4 : gc < w3.heap.size := hB.lt
  have hk4 : ∀ k, k < w3.heap.size → some k ≠ r → w4.heap[k]? = w3.heap[k]? := fun k hk hne => (hG.grow.block k (by rw [hz]; omega) (by rw [hv]; exact hne)).trans (Below.heap_alloc _ _ _ hk)
  have hs4 : w3.heap.size + 1 ≤ w4.heap.size := by have := hG.grow.size; rw [hz] at this; exact this
  have hgcr : some gc ≠ r := fun e => by have := (hr gc e.symm).1; omega
  have hr4 : v1.ownBlock = r ∨ v1.ownBlock = some (w3.heap.size + 1) := by
    rcases hG.at_ with h | h
    · exact .inl (h.trans hv)
    · exact .inr (by rw [h, hz])
  have hlt4 : ∀ k, v1.ownBlock = some k → gc < k ∧ k < w4.heap.size := fun k e => by
    have h2 := (hG.own.lt k e).2
    rcases hr4 with h | h
    · exact ⟨(hr k (by rw [← h, e])).1, h2⟩
    · rw [h] at e; have := Option.some.inj e; exact ⟨by omega, h2⟩
  have hown1 : ∀ k, k < w3.heap.size → some k ≠ r → some k ≠ v1.ownBlock := fun k hk hne e => by
    rcases hr4 with h | h
    · exact hne (e.trans h)
    · rw [h] at e; have := Option.some.inj e; omega
  have hB4 : Blk w4 gc 256 #[.int .i64 s, v] := (hk4 gc hg4 hgcr).trans hB
  have hread : ∀ (g : Nat) (p : Text), g < w3.heap.size → some g ≠ r → g ≠ gc → Reads w3 1 (some ⟨g, 0, none⟩) p.length (cells8 p) → Reads (w4.setCell ⟨gc, 1, none⟩ v1) 1 (some ⟨g, 0, none⟩) p.length (cells8 p) := fun g p h1 h2 h3 h => by
    refine (h.keep (w' := w4) (by omega) fun b o e hb => ?_).setCell (fun b o e => ?_) v1
    · injection e with e
      injection e with e1 e2
      subst e1
      exact hk4 _ hb h2
    · injection e with e
      injection e with e1 e2
      subst e1
      exact h3
  refine ⟨v1.ownBlock, ⟨v1, xs ++ [.slice (some ⟨gt, 0, none⟩) q.length ct], hB4.set_ 1 v1, ?_, rfl, fun k e => ?_, fun i p hp => ?_⟩, ?_, ?_⟩
  · rw [List.length_append]
    refine World.ownsRow.kept hG.own (WayP.grown_set w4 gc 1 v1) ?_
    cases e : v1.ownBlock with
    | none => exact .inl rfl
    | some k => exact .inr (fun e2 => by have := (hlt4 k e).1; have := Option.some.inj e2; omega)
  · have := hlt4 k e
    simp
    exact this
  · rcases Nat.lt_or_ge i ts.length with hi | hi
    · rw [List.getElem?_append_left hi] at hp
      obtain ⟨g, c, a1, a2, a3, a4, a5, a6, -⟩ := hx i p hp
      have hg3 : g < w3.heap.size := by have := hb.size; omega
      exact ⟨g, c, by rw [List.getElem?_append_left (by omega)]; exact a1, a2, hread g p hg3 a6 a5 (a3.below hb), by simp; omega, a5, hown1 g hg3 a6, fun h => by omega⟩
    · rw [List.getElem?_append_right hi] at hp
      have hi0 : i = ts.length := by
        have := (List.getElem?_eq_some_iff.1 hp).1
        simp at this
        omega
      subst hi0
      rw [Nat.sub_self] at hp
      obtain rfl := Option.some.inj hp
      have hgr : some gt ≠ r := fun e => by have := (hr gt e.symm).2; omega
      exact ⟨gt, ct, by rw [List.getElem?_append_right (by omega), hxl, Nat.sub_self]; rfl, hct, hread gt q hgt.2 hgr (by omega) hq, by simp; omega, by omega, hown1 gt hgt.2 hgr, fun h => by omega⟩
  · refine ⟨hG.grow.os.trans hb.os, hG.grow.tape.trans hb.tape, hG.grow.output.trans hb.output, by have := hb.size; simp; omega, fun k hk hne => ?_⟩
    have hkr : some k ≠ r := fun e => hne (.inr e)
    have hkg : k ≠ gc := fun e => hne (.inl e)
    exact ((Below.heap_setCell w4 ⟨gc, 1, none⟩ v1 k hkg).trans (hk4 k (by have := hb.size; omega) hkr)).trans (hb.block k hk)
  · rcases hr4 with h | h
    · exact .inl h
    · exact .inr ⟨_, h, by omega⟩
end Go.Proofs.YtgldkfaiofkhbaaDoor.Node

namespace Go.Proofs.YtgldkfaiofkhbaaDoor.NodeW
open Go Go.RowKit Go.Proofs.YtgldkfaiofkhbaaDoor Go.Proofs.YtgldkfaiofkhbaaDoor.Digest Go.Proofs.YtgldkfaiofkhbaaDoor.Mem Go.Proofs.YtgldkfaiofkhbaaDoor.Sha Go.Proofs.YtgldkfaiofkhbaaDoor.ShaWalk Go.Proofs.YtgldkfaiofkhbaaDoor.Bytes Go.Proofs.YtgldkfaiofkhbaaDoor.HashMem Go.Proofs.YtgldkfaiofkhbaaDoor.DigestMem Go.Proofs.YtgldkfaiofkhbaaDoor.DigestTop Go.Proofs.YtgldkfaiofkhbaaDoor.RefTop Go.Proofs.YtgldkfaiofkhbaaDoor.QuietTail Go.Proofs.YtgldkfaiofkhbaaDoor.Grown Go.Proofs.YtgldkfaiofkhbaaDoor.Chain Go.Proofs.YtgldkfaiofkhbaaDoor.TreeMath Go.Proofs.YtgldkfaiofkhbaaDoor.TreeMem Go.Proofs.YtgldkfaiofkhbaaDoor.TreeRoot Go.Proofs.YtgldkfaiofkhbaaDoor.Append Go.Proofs.YtgldkfaiofkhbaaDoor.Book Go.Proofs.YtgldkfaiofkhbaaDoor.TreeRefRoot Go.Proofs.YtgldkfaiofkhbaaDoor.Held Go.Proofs.YtgldkfaiofkhbaaDoor.DigestText Go.Proofs.YtgldkfaiofkhbaaDoor.Node

set_option maxRecDepth 100000 in
set_option maxHeartbeats 1000000 in
theorem node_walk (gc : Nat) (r : Option Nat) (s : Int) (ts : List Text) (l rr : Text) (hl : l.length = 32) (hrl : rr.length = 32) (w : World) (hBs : Base w) (hgb : 1 < gc) (hcl : ClAt w gc r s ts) (hts : ts.length < 1099511627776) :
    Calls Tryd.prog 181 #[.pointer (some ⟨gc, 0, none⟩), .agg (cells8 l).toArray, .agg (cells8 rr).toArray] w fun e w' => e = .returned (.agg (cells8 (ndOf s l rr)).toArray) ∧ Clmb w gc r s (ts ++ [kb 1 :: (l ++ rr)]) w' := by
  obtain ⟨i0, ii, iz0, iz1, iz2⟩ := info_partsN infoT
  obtain ⟨v, xs, hB, hO0, hv, hr, hx⟩ := hcl
  obtain ⟨Av, cv, rfl, -⟩ := Own.reads hO0
  have hNW := nodeW_ok w l rr hl hrl
  obtain ⟨q, hq⟩ : ∃ q : Text, Hid (kb 1 :: (l ++ rr) = q) := ⟨_, Lib.hid rfl⟩
  have hql : Hid (q.length = 65) := by show _ = _; rw [← hq.out]; simp [hl, hrl]
  have hT : Hid (Calls Tryd.prog 194 #[.int .i64 1, .slice (some ⟨w.heap.size + 3, 0, none⟩) 2 2] (nodeW w l rr) fun e w' => ∃ v, e = .returned v ∧ Below (nodeW w l rr).heap.size (nodeW w l rr) w' ∧ w'.ownsRow (nodeW w l rr).heap.size 5 1 v 65 (cells8 q)) := by
    have := text_any 1 [l, rr] 2 rfl (some ⟨w.heap.size + 3, 0, none⟩) 2 (nodeW w l rr) (by decide) 64 (by simp [hl, hrl]) (by decide) hNW.pieces hNW.lt
    rw [show kb 1 :: [l, rr].flatten = q by rw [← hq.out]; simp] at this
    exact this
  obtain ⟨z, hz⟩ : ∃ z, Hid (ndOf s l rr = z) := ⟨_, Lib.hid rfl⟩
  have F := Lib.hid (fit (x := z) (by rw [← hz.out]; exact ndOf_len _ _ _))
  have hCu : Hid (∀ w', Calls Tryd.prog 97 #[.agg (cells8 (sum q)).toArray, .int .i64 s] w' fun e w'' => e = .returned (.agg (cells8 z).toArray) ∧ Below w'.heap.size w' w'') := fun w' => by
    have := cut_any (sum q) (sum_len _) s w'
    rw [show cutTo (sum q) (clampN s) = z by rw [← hq.out]; exact hz.out] at this
    exact this
  replace hBs := Lib.hid hBs
  replace hB := Lib.hid hB
  replace hO0 := Lib.hid hO0
  replace hv := Lib.hid hv
  replace hr := Lib.hid hr
  replace hx := Lib.hid hx
  replace hNW := Lib.hid hNW
  replace hgb := Lib.hid hgb
  obtain ⟨k, hk⟩ : ∃ k, Hid (ts.length = k) := ⟨_, Lib.hid rfl⟩
  rw [hk.out] at hB hO0 hts hv
  replace hts := Lib.hid hts
  clear hl hrl
  go_enter Tryd.func181, Tryd.ntmps181
  go_wp2_with fail
  refine held_start (fun _ => True) 5 rfl (by kernel_rfl) ?_
  refine held_take (i := 0) (v := .slice (some ⟨w.heap.size, 0, none⟩) 32 32) rfl (by kernel_rfl) (by kernel_rfl) (by kernel_rfl) (fun _ _ _ h => h) trivial (by rfl) (fun w' hw' => by go_simp) ?_
  (intro K hK; go_simp; refine hK _ ?_; clear hK K)
  refine held_take (i := 1) (v := .slice (some ⟨w.heap.size + 1, 0, none⟩) 32 32) rfl (by kernel_rfl) (by kernel_rfl) (by kernel_rfl) (fun _ _ _ h => h) trivial (by rfl) (fun w' hw' => by go_simp) ?_
  (intro K hK; go_simp; refine hK _ ?_; clear hK K)
  refine held_only (i := 2) rfl (by kernel_rfl) (by rfl) (fun K hK => ?_)
  go_simp
  refine hK _ _ trivial ?_
  clear hK K
  change wpAnyH _ _ _ _ _ _ _ _ (nodeW w l rr)
  refine held_only (i := 3) rfl (by kernel_rfl) (by rfl) (fun K hK => ?_)
  refine wp_fn (R := fun v w'' => Below (nodeW w l rr).heap.size (nodeW w l rr) w'' ∧ w''.ownsRow (nodeW w l rr).heap.size 5 1 v 65 (cells8 q)) (args := #[.int .i64 1, .slice (some ⟨w.heap.size + 3, 0, none⟩) 2 2]) _ _ rfl rfl Tryd.func194 (by kernel_rfl) (by kernel_rfl) (hT.out.mono fun e w'' ⟨v, he, hb, ho⟩ => ⟨_, he, hb, ho⟩) ?_
  rintro v3 w3 ⟨hb3, ho3⟩
  obtain ⟨gt, ct, rfl, hgt1, hgt2⟩ := ho3.form (by decide)
  go_simp
  refine hK _ _ trivial ?_
  clear hK K
  refine held_take (i := 4) (v := .slice (some ⟨gt, 0, none⟩) 65 ct) rfl (by kernel_rfl) (by kernel_rfl) (by kernel_rfl) (fun _ _ _ h => h) trivial (by rfl) (fun w' hw' => by go_simp) ?_
  (intro K hK; go_simp; refine hK _ ?_; clear hK K)
  refine held_end (by kernel_rfl) ?_
  have hsz := Lib.hid hNW.out.size
  have hbW : Hid (Below w.heap.size w w3) := hNW.out.below.trans (hb3.mono hNW.out.below.size)
  have hB3 : Hid (Blk w3 gc 256 #[.int .i64 s, .slice Av k cv]) := (hbW.out.block gc hB.out.lt).trans hB.out
  have hR3 : Hid (Blk w3 (w.heap.size + 2) 23 Z32) := (hb3.block _ hNW.out.res.lt).trans hNW.out.res
  have hO : Hid ((w3.alloc (.cells #[.slice (some ⟨gt, 0, none⟩) 65 ct] 31)).ownsRow 0 31 1 (.slice Av k cv) k xs) := (own_below hO0.out hbW.out).alloc _
  have hNw : Hid (Reads (w3.alloc (.cells #[.slice (some ⟨gt, 0, none⟩) 65 ct] 31)) 1 (some ⟨w3.heap.size, 0, none⟩) 1 [.slice (some ⟨gt, 0, none⟩) 65 ct]) := Blk.reads (Blk.new w3 31 #[.slice (some ⟨gt, 0, none⟩) 65 ct]) 0 _ rfl (fun j u hu => by rw [Nat.zero_add]; simpa using hu)
  have hm1 : Hid (k + 1 ≤ maxLen) := by have := hts.out; show _ ≤ _; unfold maxLen; omega
  have hm2 : Hid ((k + 1) * 24 ≤ 140737488355328) := by have := hts.out; show _ ≤ _; omega
  have hgr : Hid (some gc ≠ (Value.slice Av k cv).ownBlock) := fun e => by rw [hv.out] at e; have := (hr.out gc e.symm).1; omega
  have hrr2 : Hid (some (w.heap.size + 2) ≠ (Value.slice Av k cv).ownBlock) := fun e => by rw [hv.out] at e; have := (hr.out _ e.symm).2; omega
  obtain ⟨At, ct', et, hct, -, -, hrt, -⟩ := Own.reads ho3
  injection et with et1 et2 et3
  subst et1 et3
  have hrq : Hid (Reads w3 1 (some ⟨gt, 0, none⟩) q.length (cells8 q)) := by show Reads _ _ _ _ _; rw [hql.out]; exact hrt
  have hgt : Hid (w.heap.size + 4 ≤ gt ∧ gt < w3.heap.size ∧ 65 ≤ ct) := by have := hsz.out; exact ⟨by omega, hgt2, hct⟩
  have c1 := hB3.out.cell 1
  clear hb3 ho3 hgt1 hgt2 hrt hct hT
  go_wp2_with ((with_reducible change wpList _ _ _ ({ dst := some 19, op := _, type := _, pos := _, after := _, guard := _ } :: _) _ _); refine wpList_append_src _ (o := ⟨some 19, _, _, _, _, _⟩) rfl (.tmp 16) (.tmp 18) 24 rfl 0 31 i0 (.slice none 0 0) 1 24 Tryd.underlying24 ii iz0 iz1 iz2 rfl (by decide) (.slice Av k cv) k xs rfl hO.out (some ⟨w3.heap.size, 0, none⟩) 1 1 [.slice (some ⟨gt, 0, none⟩) 65 ct] rfl hNw.out (fun e => by cases e) (Mem.one_one rfl) hm1.out hm2.out (Nat.zero_le _) ?_; intro v4 w4 hG; have hB4 : Blk w4 gc 256 #[.int .i64 s, .slice Av k cv] := Blk.grown (hB3.out.alloc _) hG.grow (fun e => hgr.out e); have d1 := hB4.cell 1; have f1 := hB4.frozen 1; have hR4 : Hid (Blk w4 (w.heap.size + 2) 23 Z32) := Blk.grown (hR3.out.alloc _) hG.grow (fun e => hrr2.out e); obtain ⟨A4, c4, rfl, -⟩ := Own.reads hG.own; replace hG := Lib.hid hG; replace hB4 := Lib.hid hB4)
  obtain ⟨r5, hC5, hK5, hr5⟩ := Clmb.step (q := q) (gt := gt) (ct := ct) hx.out hr.out hB.out.lt hbW.out hB3.out hv.out hrq.out ⟨by have := hgt.out; omega, hgt.out.2.1⟩ (by rw [hql.out]; exact hgt.out.2.2) (by rw [hql.out, hk.out]; exact hG.out) (by rw [hk.out]; exact (by have := hO0.out.1; simpa using this))
  have hR5 : Hid (Blk (w4.setCell ⟨gc, 1, none⟩ (.slice A4 (k + 1) c4)) (w.heap.size + 2) 23 Z32) := hR4.out.far (by have := hB.out.lt; show w.heap.size + 2 ≠ gc; omega) _
  have hbase : Hid (Base (w4.setCell ⟨gc, 1, none⟩ (.slice A4 (k + 1) c4))) := hBs.out.kept hK5 (fun h => by rcases h with h | h; have := hgb.out; omega; (have := (hr.out _ h.symm).1; have := hgb.out; omega))
  have e0 : (w4.setCell ⟨gc, 1, none⟩ (.slice A4 (k + 1) c4)).cell? ⟨gc, 0, none⟩ = some (.int .i64 s) := (hB4.out.set_ 1 _).cell 0
  have hCQ : Hid (Reads (w4.setCell ⟨gc, 1, none⟩ (.slice A4 (k + 1) c4)) 1 (some ⟨gt, 0, none⟩) 65 (cells8 q)) := by
    have h1 : Reads w4 1 (some ⟨gt, 0, none⟩) q.length (cells8 q) := (hrq.out.alloc (.cells #[.slice (some ⟨gt, 0, none⟩) 65 ct] 31)).keep hG.out.grow.size (fun b o e hb => by
      injection e with e
      injection e with e1 e2
      subst e1
      exact hG.out.grow.block _ hb (fun e => by have h2 : (Value.slice Av k cv).ownBlock = r := hv.out; rw [h2] at e; have := (hr.out _ e.symm).2; have := hgt.out; omega))
    rw [hql.out] at h1
    exact h1.setCell (fun b o e => by injection e with e; injection e with e1 e2; subst e1; have := hB.out.lt; have := hgt.out; show gt ≠ gc; omega) _
  replace hC5 := Lib.hid hC5
  replace hK5 := Lib.hid hK5
  replace hr5 := Lib.hid hr5
  clear hR4 hG hB4 d1 f1 c1 hO hNw hm1 hm2 hgr hrr2 hrq hB3 hR3
  generalize hw5 : w4.setCell ⟨gc, 1, none⟩ (.slice A4 (k + 1) c4) = w5 at *
  clear hw5
  have hc0 : Hid (∀ w', Below w5.heap.size w5 w' → w'.cell? ⟨gc, 0, none⟩ = some (.int .i64 s)) := fun w' hb => (hb.cell (p := ⟨gc, 0, none⟩) (World.block_lt_of_cell? w5 _ e0)).trans e0
  have hS : Hid (∀ w', Below w5.heap.size w5 w' → Calls Tryd.prog 98 #[.slice (some ⟨gt, 0, none⟩) 65 ct] w' fun e w'' => e = .returned (.agg (cells8 (sum q)).toArray) ∧ Below w'.heap.size w' w'') := fun w' hb => sumOf_any q 65 hql.out _ ct w' (hbase.out.below hb hbase.out.1) (by decide) (hCQ.out.below hb) hgt.out.2.2
  clear e0
  refine wp_region_class_tail 7 (Class w5) (by kernel_rfl) (by kernel_rfl) (Class.mk_ ((Below.refl _ _).drew)) ?_
  refine wpQuiet_move rfl (.tmp 7) rfl ?_
  (intro K hK; go_simp; refine hK _ ?_; clear hK K)
  refine wpQuiet_fn (v := .agg (cells8 (sum q)).toArray) (args := #[.slice (some ⟨gt, 0, none⟩) 65 ct]) rfl _ _ rfl rfl Tryd.func98 (by kernel_rfl) (by kernel_rfl) (fun w' hw' => (hS.out w' hw'.below).mono (fun e w'' ⟨he, hb⟩ => ⟨he, hw'.next hb⟩)) ?_
  (intro K hK; go_simp; refine hK _ ?_; clear hK K)
  refine wpQuiet_move rfl (.tmp 0) rfl ?_
  (intro K hK; go_simp; refine hK _ ?_; clear hK K)
  refine wpQuiet_val (v := .pointer (some ⟨gc, 0, none⟩)) rfl (fun w' hw' => by go_simp) ?_
  (intro K hK; go_simp; refine hK _ ?_; clear hK K)
  refine wpQuiet_val (v := .pointer (some ⟨gc, 0, none⟩)) rfl (fun w' hw' => by go_simp) ?_
  (intro K hK; go_simp; refine hK _ ?_; clear hK K)
  refine wpQuiet_val (v := .int .i64 s) rfl (fun w' hw' => by have hc := hc0.out w' hw'.below; go_simp) ?_
  (intro K hK; go_simp; refine hK _ ?_; clear hK K)
  refine wpQuiet_fn (v := .agg (cells8 z).toArray) (args := #[.agg (cells8 (sum q)).toArray, .int .i64 s]) rfl _ _ rfl rfl Tryd.func97 (by kernel_rfl) (by kernel_rfl) (fun w' hw' => (hCu.out w').mono (fun e w'' ⟨he, hb⟩ => ⟨he, hw'.next hb⟩)) ?_
  (intro K hK; go_simp; refine hK _ ?_; clear hK K)
  refine wpQuiet_nil ?_
  intro w6 hw6
  have hR6 : Hid (Blk w6 (w.heap.size + 2) 23 Z32) := (hw6.below.block _ hR5.out.lt).trans hR5.out
  have hb6 := Lib.hid hw6.below
  simp only [List.drop]
  go_wp2_with ((with_reducible change wpList _ _ _ ({ dst := none, op := Op.store 23 _ _, type := _, pos := _, after := _, guard := _ } :: _) _ _); refine wpList_store_row (o := ⟨none, _, _, _, _, _⟩) rfl 23 (.tmp 6) (.tmp 28) rfl (w.heap.size + 2) ((cells8 z).toArray) rfl rfl 23 (Z32) hR6.out F.out.size F.out.zero F.out.one ?_)
  refine bodyPost_ret (results_cell_row rfl _ _ (w.heap.size + 2) 23 (cells8 z).toArray (0, 0) _ rfl (setRow_heap _ _ _ _ _ _ hR6.out) Tryd.underlying23 rfl F.out.size) rfl ?_
  refine ⟨by rw [hz.out], r5, ?_, ?_, ?_⟩
  · rw [hq.out]
    have hk7 : Kept (· = w.heap.size + 2) w5 (w6.setRow (w.heap.size + 2) (cells8 z).toArray) := Bytes.Kept.setRow (S := fun i => i = w.heap.size + 2) (Kept.of_below hb6.out) rfl _
    refine (hC5.out).kept (hk7.mono (fun i _ hi => by rw [hi]; have := hgt.out; exact ⟨by omega, by omega⟩)) (fun h => by have := hB.out.lt; omega) (fun j e h => ?_)
    rcases hr5.out with h1 | ⟨j', h1, h2⟩
    · rw [h1] at e; have := (hr.out j e).2; omega
    · rw [h1] at e; have := Option.some.inj e; have := hgt.out; omega
  · refine hK5.out.trans (T := fun i => i = w.heap.size + 2) (Bytes.Kept.setRow (S := fun i => i = w.heap.size + 2) (Kept.of_below hb6.out) rfl _) (fun i hi h => by omega)
  · rcases hr5.out with h1 | ⟨j', h1, h2⟩
    · exact .inl h1
    · exact .inr ⟨j', h1, by have := hbW.out.size; omega⟩
end Go.Proofs.YtgldkfaiofkhbaaDoor.NodeW

namespace Go.Proofs.YtgldkfaiofkhbaaDoor.Climb
open Go Go.RowKit Go.Proofs.YtgldkfaiofkhbaaDoor Go.Proofs.YtgldkfaiofkhbaaDoor.Digest Go.Proofs.YtgldkfaiofkhbaaDoor.Mem Go.Proofs.YtgldkfaiofkhbaaDoor.Sha Go.Proofs.YtgldkfaiofkhbaaDoor.Bytes Go.Proofs.YtgldkfaiofkhbaaDoor.HashMem Go.Proofs.YtgldkfaiofkhbaaDoor.DigestMem Go.Proofs.YtgldkfaiofkhbaaDoor.DigestTop Go.Proofs.YtgldkfaiofkhbaaDoor.RefTop Go.Proofs.YtgldkfaiofkhbaaDoor.TreeMath Go.Proofs.YtgldkfaiofkhbaaDoor.TreeMem Go.Proofs.YtgldkfaiofkhbaaDoor.TreeRoot Go.Proofs.YtgldkfaiofkhbaaDoor.TreeRefRoot Go.Proofs.YtgldkfaiofkhbaaDoor.Node Go.Proofs.YtgldkfaiofkhbaaDoor.Sides Go.Proofs.YtgldkfaiofkhbaaDoor.Way Go.Proofs.YtgldkfaiofkhbaaDoor.WayP

/-- Long texts do not lie in a short block. -/
theorem ClAt.off {w : World} {gc b : Nat} {r : Option Nat} {s : Int} {ts : List Text} {T : TypeId} {cs : Array Value} (h : ClAt w gc r s ts) (hB : Blk w b T cs) (hl : ∀ q ∈ ts, cs.size < q.length) : ClAtM (· = b) w gc r s ts := by
  obtain ⟨v, xs, a1, a2, a3, a4, hx⟩ := h
  refine ⟨v, xs, a1, a2, a3, a4, fun i q hq => ?_⟩
  obtain ⟨g, c, b1, b2, b3, b4, b5, b6, -⟩ := hx i q hq
  refine ⟨g, c, b1, b2, b3, b4, b5, b6, fun e => ?_⟩
  subst e
  have hlen := hl q (List.mem_of_getElem? hq)
  obtain ⟨b', o, e1, -, e2⟩ := b3.at_ (by omega)
  injection e1 with e1
  injection e1 with e3 e4
  subst e3 e4
  have h1 : (cells8 q)[cs.size]? = some ((cells8 q)[cs.size]'(by simpa [cells8] using hlen)) := List.getElem?_eq_getElem _
  have h2 := e2 _ _ h1
  rw [hB.cell] at h2
  simp at h2
end Go.Proofs.YtgldkfaiofkhbaaDoor.Climb

namespace Go.Proofs.YtgldkfaiofkhbaaDoor.Incl
open Go Go.RowKit Go.Proofs.YtgldkfaiofkhbaaDoor Go.Proofs.YtgldkfaiofkhbaaDoor.Digest Go.Proofs.YtgldkfaiofkhbaaDoor.Mem Go.Proofs.YtgldkfaiofkhbaaDoor.Sha Go.Proofs.YtgldkfaiofkhbaaDoor.ShaWalk Go.Proofs.YtgldkfaiofkhbaaDoor.Bytes Go.Proofs.YtgldkfaiofkhbaaDoor.HashMem Go.Proofs.YtgldkfaiofkhbaaDoor.DigestMem Go.Proofs.YtgldkfaiofkhbaaDoor.DigestTop Go.Proofs.YtgldkfaiofkhbaaDoor.RefTop Go.Proofs.YtgldkfaiofkhbaaDoor.QuietTail Go.Proofs.YtgldkfaiofkhbaaDoor.Grown Go.Proofs.YtgldkfaiofkhbaaDoor.Chain Go.Proofs.YtgldkfaiofkhbaaDoor.TreeMath Go.Proofs.YtgldkfaiofkhbaaDoor.TreeMem Go.Proofs.YtgldkfaiofkhbaaDoor.TreeRoot Go.Proofs.YtgldkfaiofkhbaaDoor.Append Go.Proofs.YtgldkfaiofkhbaaDoor.Book Go.Proofs.YtgldkfaiofkhbaaDoor.TreeRefRoot Go.Proofs.YtgldkfaiofkhbaaDoor.Held Go.Proofs.YtgldkfaiofkhbaaDoor.DigestText Go.Proofs.YtgldkfaiofkhbaaDoor.Node Go.Proofs.YtgldkfaiofkhbaaDoor.NodeW Go.Proofs.YtgldkfaiofkhbaaDoor.Sides Go.Proofs.YtgldkfaiofkhbaaDoor.Way Go.Proofs.YtgldkfaiofkhbaaDoor.WayP Go.Proofs.YtgldkfaiofkhbaaDoor.RevP Go.Proofs.YtgldkfaiofkhbaaDoor.Climb

/-- What stands at the head of a round of include's loop: its leaf's block, the climber, and what is kept since the loop began. -/
structure IncAt (w1 wr : World) (gc : Nat) (r : Option Nat) (b8 : Nat) (s : Int) (st : Text × List Text) : Prop where
  leaf : Blk wr b8 23 (cells8 st.1).toArray
  cl : ∃ rj, ClAt wr gc rj s st.2 ∧ (rj = r ∨ ∃ k, rj = some k ∧ w1.heap.size ≤ k)
  kept : Kept (fun k => k = gc ∨ some k = r ∨ k = b8) w1 wr
theorem IncAt.step {w1 wr w4 w5 : World} {gc b8 : Nat} {r rj : Option Nat} {s : Int} {st st' : Text × List Text} (h : IncAt w1 wr gc r b8 s st) (hrj : rj = r ∨ ∃ k, rj = some k ∧ w1.heap.size ≤ k) (hb : Below wr.heap.size wr w4) (hC : Clmb w4 gc rj s st'.2 w5)
    (hl : ∀ q ∈ st'.2, q.length = 65) (h1 : st.1.length = 32) (hgc : gc < b8) (hr : ∀ k, r = some k → k < b8) (hb8 : b8 < w1.heap.size) : Blk w5 b8 23 (cells8 st.1).toArray ∧ IncAt w1 (w5.setRow b8 (cells8 st'.1).toArray) gc r b8 s st' := by
  obtain ⟨r', hC1, hK, hr'⟩ := hC
  have hs1 := h.kept.size
  have hs4 := hb.size
  have hrj8 : some b8 ≠ rj := fun e => by
    rcases hrj with h | ⟨k, h, hk⟩
    · exact absurd (hr b8 (by rw [← h, e])) (by omega)
    · rw [h] at e; have := Option.some.inj e; omega
  have hB4 : Blk w4 b8 23 (cells8 st.1).toArray := (hb.block b8 h.leaf.lt).trans h.leaf
  have hB5 : Blk w5 b8 23 (cells8 st.1).toArray := hB4.kept hK (fun h => by rcases h with h | h; omega; exact hrj8 h)
  have hr8 : ∀ k, r' = some k → ¬ k = b8 := fun k e h => by
    subst h
    rcases hr' with h | ⟨k', h, hk⟩
    · exact hrj8 (by rw [← h, e])
    · rw [h] at e; have := Option.some.inj e; omega
  refine ⟨hB5, setRow_heap _ _ _ _ _ _ hB5, ⟨r', (ClAt.off hC1 hB5 (fun q hq => by rw [hl q hq]; simp [cells8_len, h1])).kept (Bytes.Kept.setRow (S := fun i => i = b8) (Kept.refl _ _) rfl _) (by omega) hr8, ?_⟩, ?_⟩
  · rcases hr' with h | ⟨k', h, hk⟩
    · rw [h]; exact hrj
    · exact .inr ⟨k', h, by omega⟩
  · refine Bytes.Kept.setRow (S := fun k => k = gc ∨ some k = r ∨ k = b8) ((h.kept.trans (T := fun _ => False) (Kept.of_below hb) (fun _ _ h => h.elim)).trans hK (fun i hi h => ?_)) (.inr (.inr rfl)) _
    rcases h with h | h
    · exact .inl h
    · rcases hrj with h2 | ⟨k, h2, hk⟩
      · exact .inr (.inl (by rw [h, h2]))
      · rw [h2] at h; have := Option.some.inj h; omega

end Go.Proofs.YtgldkfaiofkhbaaDoor.Incl

namespace Go.Proofs.YtgldkfaiofkhbaaDoor.Texts
open Go Go.RowKit Go.Proofs.YtgldkfaiofkhbaaDoor Go.Proofs.YtgldkfaiofkhbaaDoor.Mem Go.Proofs.YtgldkfaiofkhbaaDoor.Sha Go.Proofs.YtgldkfaiofkhbaaDoor.Bytes Go.Proofs.YtgldkfaiofkhbaaDoor.Append Go.Proofs.YtgldkfaiofkhbaaDoor.TreeRefRoot Go.Proofs.YtgldkfaiofkhbaaDoor.Node Go.Proofs.YtgldkfaiofkhbaaDoor.Same8

/-- A text more in a row of texts. -/
theorem Txs.push {w w3 w4 : World} {gc gt ct B : Nat} {ts : List Text} {q : Text} {v v1 : Value} {xs : List Value} {n : Nat} {M : Nat → Prop} (hM : ¬ M gt) (hn : ts.length = n) (hx : Txs M w gc v.ownBlock xs ts) (hO : w.ownsRow B 31 1 v n xs)
    (hb : Below w.heap.size w w3) (hq : Reads w3 1 (some ⟨gt, 0, none⟩) q.length (cells8 q)) (hgt : w.heap.size ≤ gt ∧ gt < w3.heap.size) (hgc : gt ≠ gc) (hct : q.length ≤ ct)
    (hG : Grew (w3.alloc (.cells #[.slice (some ⟨gt, 0, none⟩) q.length ct] 31)) B 31 1 v n 1 xs [.slice (some ⟨gt, 0, none⟩) q.length ct] v1 w4) :
    Txs M w4 gc v1.ownBlock (xs ++ [.slice (some ⟨gt, 0, none⟩) q.length ct]) (ts ++ [q]) ∧ w4.ownsRow B 31 1 v1 (n + 1) (xs ++ [.slice (some ⟨gt, 0, none⟩) q.length ct]) ∧ Kept (fun k => some k = v.ownBlock) w w4 := by
  have hz : (w3.alloc (.cells #[.slice (some ⟨gt, 0, none⟩) q.length ct] 31)).heap.size = w3.heap.size + 1 := by simp
  have hk4 : ∀ k, k < w3.heap.size → some k ≠ v.ownBlock → w4.heap[k]? = w3.heap[k]? := fun k hk hne => (hG.grow.block k (by rw [hz]; omega) hne).trans (Below.heap_alloc _ _ _ hk)
  have hs4 : w3.heap.size + 1 ≤ w4.heap.size := by have := hG.grow.size; rw [hz] at this; exact this
  have hr4 : v1.ownBlock = v.ownBlock ∨ v1.ownBlock = some (w3.heap.size + 1) := by
    rcases hG.at_ with h | h
    · exact .inl h
    · exact .inr (by rw [h, hz])
  have hxl : xs.length = n := by have := hO.1; simpa using this
  have hown1 : ∀ k, k < w3.heap.size → some k ≠ v.ownBlock → some k ≠ v1.ownBlock := fun k hk hne e => by
    rcases hr4 with h | h
    · exact hne (e.trans h)
    · rw [h] at e; have := Option.some.inj e; omega
  have hread : ∀ (g : Nat) (p : Text), g < w3.heap.size → some g ≠ v.ownBlock → Reads w3 1 (some ⟨g, 0, none⟩) p.length (cells8 p) → Reads w4 1 (some ⟨g, 0, none⟩) p.length (cells8 p) := fun g p h1 h2 h =>
    h.keep (w' := w4) (by omega) fun b o e hb => by
      injection e with e
      injection e with e1 e2
      subst e1
      exact hk4 _ hb h2
  refine ⟨fun i p hp => ?_, hG.own, ⟨hG.grow.os.trans hb.os, hG.grow.tape.trans hb.tape, hG.grow.output.trans hb.output, by have := hb.size; omega, fun k hk hne => (hk4 k (by have := hb.size; omega) hne).trans (hb.block k hk)⟩⟩
  rcases Nat.lt_or_ge i ts.length with hi | hi
  · rw [List.getElem?_append_left hi] at hp
    obtain ⟨g, c, a1, a2, a3, a4, a5, a6, a7⟩ := hx i p hp
    have hg3 : g < w3.heap.size := by have := hb.size; omega
    exact ⟨g, c, by rw [List.getElem?_append_left (by omega)]; exact a1, a2, hread g p hg3 a6 (a3.below hb), by omega, a5, hown1 g hg3 a6, a7⟩
  · rw [List.getElem?_append_right hi] at hp
    have hi0 : i = ts.length := by
      have := (List.getElem?_eq_some_iff.1 hp).1
      simp at this
      omega
    subst hi0
    rw [Nat.sub_self] at hp
    obtain rfl := Option.some.inj hp
    have hgr : some gt ≠ v.ownBlock := fun e => by have := (hO.lt gt e.symm).2; omega
    exact ⟨gt, ct, by rw [List.getElem?_append_right (by omega), hxl, hn, Nat.sub_self]; rfl, hct, hread gt q hgt.2 hgr hq, by omega, hgc, hown1 gt hgt.2 hgr, hM⟩
theorem Txs.keep {w w' : World} {gc : Nat} {r : Option Nat} {xs : List Value} {ts : List Text} {M S : Nat → Prop} (hx : Txs M w gc r xs ts) (hk : Kept S w w') (hS : ∀ k, S k → k = gc ∨ some k = r ∨ M k) : Txs M w' gc r xs ts := fun i q hq => by
  obtain ⟨g, c, a1, a2, a3, a4, a5, a6, a7⟩ := hx i q hq
  refine ⟨g, c, a1, a2, a3.kept hk (fun b o e h => ?_), Nat.lt_of_lt_of_le a4 hk.size, a5, a6, a7⟩
  injection e with e
  injection e with e1 e2
  subst e1
  rcases hS _ h with h | h | h
  · exact a5 h
  · exact a6 h
  · exact a7 h
/-- A row of texts of one's own, as Pieces. -/
theorem Txs.pieces {w : World} {M : Nat → Prop} {gc base : Nat} {r : Option Nat} {v : Value} {xs : List Value} {ts : List Text} (hO : w.ownsRow base 31 1 v ts.length xs) (hx : Txs M w gc r xs ts) :
    ∃ A c, v = .slice A ts.length c ∧ ts.length ≤ c ∧ (A = none → ts.length = 0 ∧ c = 0) ∧ Pieces w A ts := by
  obtain ⟨A, c, e, hc, -, hnil, hr, -⟩ := Own.reads hO
  refine ⟨A, c, e, hc, hnil, fun h0 => ?_⟩
  obtain ⟨b, o, e1, hb, hcs⟩ := hr.at_ (by omega)
  refine ⟨b, o, e1, hb, fun i q hq => ?_⟩
  obtain ⟨g, cq, a1, a2, a3, -⟩ := hx i q hq
  exact ⟨some ⟨g, 0, none⟩, cq, hcs i _ a1, a2, a3, fun h => by cases h⟩

theorem Pieces.drewN {w : World} {A : Option Addr} {ps : List Text} (h : Pieces w A ps) (k : Nat) : Pieces (w.drewN k) A ps := h

end Go.Proofs.YtgldkfaiofkhbaaDoor.Texts

namespace Go.Proofs.YtgldkfaiofkhbaaDoor.AheadM
open Go Go.RowKit Go.Proofs.YtgldkfaiofkhbaaDoor Go.Proofs.YtgldkfaiofkhbaaDoor.Digest Go.Proofs.YtgldkfaiofkhbaaDoor.Mem Go.Proofs.YtgldkfaiofkhbaaDoor.Sha Go.Proofs.YtgldkfaiofkhbaaDoor.Bytes Go.Proofs.YtgldkfaiofkhbaaDoor.Append Go.Proofs.YtgldkfaiofkhbaaDoor.HashMem Go.Proofs.YtgldkfaiofkhbaaDoor.DigestMem Go.Proofs.YtgldkfaiofkhbaaDoor.TreeMath Go.Proofs.YtgldkfaiofkhbaaDoor.TreeMem Go.Proofs.YtgldkfaiofkhbaaDoor.TreeRoot Go.Proofs.YtgldkfaiofkhbaaDoor.TreeRefRoot Go.Proofs.YtgldkfaiofkhbaaDoor.Node Go.Proofs.YtgldkfaiofkhbaaDoor.Sides Go.Proofs.YtgldkfaiofkhbaaDoor.WayP Go.Proofs.YtgldkfaiofkhbaaDoor.Climb Go.Proofs.YtgldkfaiofkhbaaDoor.Incl Go.Proofs.YtgldkfaiofkhbaaDoor.Subs Go.Proofs.YtgldkfaiofkhbaaDoor.RowsP Go.Proofs.YtgldkfaiofkhbaaDoor.Texts

/-! ### The plain word -/
/-- The old root, the new one; the texts of the one, of the other. -/
structure Ah where
  fr : Text
  sr : Text
  ft : List Text
  st : List Text
/-- One step: the digest stands to the right, or to the left. -/
def ahead1 (s : Int) (z : Ah) (p : Bool × Text) : Ah :=
  if p.1 then ⟨z.fr, ndOf s z.sr p.2, z.ft, z.st ++ [kb 1 :: (z.sr ++ p.2)]⟩
  else ⟨ndOf s p.2 z.fr, ndOf s p.2 z.sr, z.ft ++ [kb 1 :: (p.2 ++ z.fr)], z.st ++ [kb 1 :: (p.2 ++ z.sr)]⟩
/-- Behind j of the pairs, of which the first low are passed over. -/
def aheadS (s : Int) (x : Text) (low : Nat) (P : List (Bool × Text)) (j : Nat) : Ah := ((P.take j).drop low).foldl (ahead1 s) ⟨x, x, [], []⟩
theorem aheadS_low (s : Int) (x : Text) (low : Nat) (P : List (Bool × Text)) : aheadS s x low P low = ⟨x, x, [], []⟩ := by
  unfold aheadS
  rw [List.drop_of_length_le (by rw [List.length_take]; exact Nat.min_le_left _ _)]
  rfl
theorem aheadS_succ {s : Int} {x : Text} {low : Nat} {P : List (Bool × Text)} {j : Nat} {p : Bool × Text} (hl : low ≤ j) (h : P[j]? = some p) : aheadS s x low P (j + 1) = ahead1 s (aheadS s x low P j) p := by
  have hj : j < P.length := (List.getElem?_eq_some_iff.1 h).1
  unfold aheadS
  rw [List.take_add_one, h, List.drop_append_of_le_length (by rw [List.length_take]; omega), List.foldl_append]
  rfl
/-- All in order: sums of 32 bytes, texts of 65, no more of them than steps. -/
structure Ah.Ok (z : Ah) (k : Nat) : Prop where
  fl : z.fr.length = 32
  sl : z.sr.length = 32
  ft : ∀ q ∈ z.ft, q.length = 65
  st : ∀ q ∈ z.st, q.length = 65
  fk : z.ft.length ≤ k
  sk : z.st.length ≤ k
theorem Ah.Ok.step {s : Int} {z : Ah} {k : Nat} {p : Bool × Text} (h : z.Ok k) (hp : p.2.length = 32) : (ahead1 s z p).Ok (k + 1) := by
  have h1 := h.fl
  have h2 := h.sl
  have h3 := h.fk
  have h4 := h.sk
  unfold ahead1
  split
  · refine ⟨h1, ndOf_len _ _ _, h.ft, fun q hq => ?_, (by show z.ft.length ≤ k + 1; omega), by simp; omega⟩
    rcases List.mem_append.1 hq with hq | hq
    · exact h.st q hq
    · obtain rfl := List.mem_singleton.1 hq
      simp [h2, hp]
  · refine ⟨ndOf_len _ _ _, ndOf_len _ _ _, fun q hq => ?_, fun q hq => ?_, by simp; omega, by simp; omega⟩
    · rcases List.mem_append.1 hq with hq | hq
      · exact h.ft q hq
      · obtain rfl := List.mem_singleton.1 hq
        simp [h1, hp]
    · rcases List.mem_append.1 hq with hq | hq
      · exact h.st q hq
      · obtain rfl := List.mem_singleton.1 hq
        simp [h2, hp]
theorem aheadS_ok {s : Int} {x : Text} {low : Nat} {P : List (Bool × Text)} (hx : x.length = 32) (hP : ∀ p ∈ P, p.2.length = 32) : ∀ d, low + d ≤ P.length → (aheadS s x low P (low + d)).Ok d
  | 0, _ => by
    rw [Nat.add_zero, aheadS_low]
    exact ⟨hx, hx, (fun q h => by cases h), (fun q h => by cases h), Nat.zero_le _, Nat.zero_le _⟩
  | d + 1, h => by
    have hj : low + d < P.length := by omega
    rw [← Nat.add_assoc, aheadS_succ (Nat.le_add_right _ _) (List.getElem?_eq_getElem hj)]
    exact (aheadS_ok hx hP d (by omega)).step (hP _ (List.getElem_mem hj))
/-- A power of two. -/
def powB (m : Nat) : Bool := decide (m = 2 ^ Nat.log2 m)
def lowOf (old : Nat) : Nat := if powB old then 0 else 1
/-- Where the digests lead, of two sizes that they may join. -/
def aheadOf (s : Int) (old size : Nat) (oldRoot : Text) (ds : List Text) : Ah :=
  aheadS s (if powB old then oldRoot else ds.getD 0 []) (lowOf old) (((partsOf old size).map (bh old)).zip ds) ds.length

/-! ### Two climbers -/
theorem ClAt.avoid {M : Nat → Prop} {w : World} {gc : Nat} {r : Option Nat} {s : Int} {ts : List Text} (h : ClAt w gc r s ts) (hl : ∀ q ∈ ts, q.length = 65) (hM : ∀ k, M k → ∃ u, w.cell? ⟨k, 0, none⟩ = some u ∧ ∀ n, u ≠ .int .u8 n) : ClAtM M w gc r s ts := by
  obtain ⟨v, xs, a1, a2, a3, a4, hx⟩ := h
  refine ⟨v, xs, a1, a2, a3, a4, fun i q hq => ?_⟩
  obtain ⟨g, c, b1, b2, b3, b4, b5, b6, -⟩ := hx i q hq
  refine ⟨g, c, b1, b2, b3, b4, b5, b6, fun hm => ?_⟩
  have hlen := hl q (List.mem_of_getElem? hq)
  obtain ⟨u, hu, hne⟩ := hM g hm
  obtain ⟨b', o, e1, -, e2⟩ := b3.at_ (by omega)
  injection e1 with e1
  injection e1 with e3 e4
  subst e3 e4
  have h2 := e2 0 _ (cells8_at q 0 (by omega))
  rw [Nat.add_zero, hu] at h2
  exact hne _ (Option.some.inj h2)
/-- A climber's own blocks do not begin with a byte. -/
theorem ClAt.front {w : World} {gc : Nat} {r : Option Nat} {s : Int} {ts : List Text} (h : ClAt w gc r s ts) (he : ts = [] → r = none) : ∀ k, (k = gc ∨ some k = r) → ∃ u, w.cell? ⟨k, 0, none⟩ = some u ∧ ∀ n, u ≠ .int .u8 n := by
  obtain ⟨v, xs, a1, a2, a3, a4, hx⟩ := h
  rintro k (rfl | hk)
  · exact ⟨_, a1.cell 0, fun n e => by injection e with e1; cases e1⟩
  · obtain ⟨q, hq⟩ : ∃ q, ts[0]? = some q := by
      cases ts with
      | nil => rw [he rfl] at hk; cases hk
      | cons q ts => exact ⟨q, rfl⟩
    obtain ⟨g, c, b1, -⟩ := hx 0 q hq
    obtain ⟨A, c2, rfl, -, -, -, hr, hA⟩ := Append.Own.reads a2
    have hpos : 0 < ts.length := by cases ts with
      | nil => cases hq
      | cons q ts => simp
    obtain ⟨b', o, rfl, -, e2⟩ := hr.at_ (by omega)
    have h2 := e2 0 _ b1
    have h3 := (hA _ rfl).2
    rw [h3] at a3
    rw [← a3] at hk
    have hkb : k = b' := Option.some.inj hk
    have ho : o = 0 := by
      rcases a2.2 with ⟨e, -⟩ | ⟨g', cap, cur, e, -⟩
      · injection e with e; cases e
      · injection e with e; injection e with e; injection e
    subst hkb ho
    exact ⟨_, h2, fun n e => by cases e⟩

/-- What stands while two climbers go up: their digests' blocks, the climbers, and what is kept since. -/
structure AhAt (w1 wr : World) (g1 g2 : Nat) (r1 r2 : Option Nat) (b1 b2 : Nat) (s : Int) (x1 x2 : Text) (t1 t2 : List Text) : Prop where
  lf1 : Blk wr b1 23 (cells8 x1).toArray
  lf2 : Blk wr b2 23 (cells8 x2).toArray
  cl1 : ClAt wr g1 r1 s t1
  cl2 : ClAt wr g2 r2 s t2
  n1 : ∀ k, r1 = some k → w1.heap.size ≤ k
  n2 : ∀ k, r2 = some k → w1.heap.size ≤ k
  ap : ∀ k, r1 = some k → r2 ≠ some k
  e1 : t1 = [] → r1 = none
  e2 : t2 = [] → r2 = none
  kept : Kept (fun k => k = g1 ∨ k = g2 ∨ k = b1 ∨ k = b2) w1 wr
theorem AhAt.swap {w1 wr : World} {g1 g2 b1 b2 : Nat} {r1 r2 : Option Nat} {s : Int} {x1 x2 : Text} {t1 t2 : List Text} (h : AhAt w1 wr g1 g2 r1 r2 b1 b2 s x1 x2 t1 t2) : AhAt w1 wr g2 g1 r2 r1 b2 b1 s x2 x1 t2 t1 :=
  ⟨h.lf2, h.lf1, h.cl2, h.cl1, h.n2, h.n1, fun k e1 e2 => h.ap k e2 e1, h.e2, h.e1, h.kept.mono (fun i _ hi => by rcases hi with h | h | h | h; exact .inr (.inl h); exact .inl h; exact .inr (.inr (.inr h)); exact .inr (.inr (.inl h)))⟩
theorem AhAt.step {w1 wr w4 w5 : World} {g1 g2 b1 b2 : Nat} {r1 r2 : Option Nat} {s : Int} {x1 x2 z q : Text} {t1 t2 : List Text} (h : AhAt w1 wr g1 g2 r1 r2 b1 b2 s x1 x2 t1 t2) (hb : Below wr.heap.size wr w4) (hC : Clmb w4 g1 r1 s (t1 ++ [q]) w5)
    (hl1 : ∀ p ∈ t1 ++ [q], p.length = 65) (hl2 : ∀ p ∈ t2, p.length = 65) (hx1 : x1.length = 32) (hg12 : g1 ≠ g2) (hg1b1 : g1 ≠ b1) (hg1b2 : g1 ≠ b2) (hg2b1 : g2 ≠ b1) (hb12 : b1 ≠ b2) (hlt : g1 < w1.heap.size ∧ g2 < w1.heap.size ∧ b1 < w1.heap.size ∧ b2 < w1.heap.size) :
    Blk w5 b1 23 (cells8 x1).toArray ∧ ∃ r1', AhAt w1 (w5.setRow b1 (cells8 z).toArray) g1 g2 r1' r2 b1 b2 s z x2 (t1 ++ [q]) t2 := by
  obtain ⟨r', hC1, hK, hr'⟩ := hC
  have hs1 := h.kept.size
  have hs4 := hb.size
  have hs5 := hK.size
  obtain ⟨l1, l2, l3, l4⟩ := hlt
  have hr1 : ∀ k, k < w1.heap.size → some k ≠ r1 := fun k hk e => by have := h.n1 k e.symm; omega
  have hB4 : Blk w4 b1 23 (cells8 x1).toArray := (hb.block b1 h.lf1.lt).trans h.lf1
  have hB5 : Blk w5 b1 23 (cells8 x1).toArray := hB4.kept hK (fun e => by rcases e with e | e; exact hg1b1 e.symm; exact hr1 b1 l3 e)
  have hD4 : Blk w4 b2 23 (cells8 x2).toArray := (hb.block b2 h.lf2.lt).trans h.lf2
  have hD5 : Blk w5 b2 23 (cells8 x2).toArray := hD4.kept hK (fun e => by rcases e with e | e; exact hg1b2 e.symm; exact hr1 b2 l4 e)
  have hc1 : ClAt w4 g1 r1 s t1 := ClAtM.kept h.cl1 (Kept.of_below hb) (fun h => h) (fun _ _ h => h)
  have hc2 : ClAt w4 g2 r2 s t2 := ClAtM.kept h.cl2 (Kept.of_below hb) (fun h => h) (fun _ _ h => h)
  have hr2lt : ∀ k, r2 = some k → k < wr.heap.size := fun k e => by obtain ⟨_, _, _, _, _, a4, _⟩ := h.cl2; exact (a4 k e).2
  have hc25 : ClAt w5 g2 r2 s t2 := (ClAt.avoid hc2 hl2 (ClAt.front hc1 h.e1)).kept hK (fun e => by rcases e with e | e; exact hg12 e.symm; exact hr1 g2 l2 e) (fun k e e' => by
    rcases e' with e' | e'
    · have := h.n2 k e; omega
    · exact h.ap k e'.symm e)
  have hn' : ∀ k, r' = some k → w1.heap.size ≤ k := fun k e => by
    rcases hr' with e1 | ⟨k', e1, e2⟩
    · exact h.n1 k (by rw [← e1, e])
    · rw [e] at e1; have := Option.some.inj e1; omega
  refine ⟨hB5, r', setRow_heap _ _ _ _ _ _ hB5, (setRow_other _ _ _ _ (fun e => hb12 e.symm)).trans hD5, ?_, ?_, hn', h.n2, fun k e e' => ?_, (fun e => by simp at e), h.e2, ?_⟩
  · exact (ClAt.off hC1 hB5 (fun p hp => by rw [hl1 p hp]; simp [cells8_len, hx1])).kept (Bytes.Kept.setRow (S := fun k => k = b1) (Kept.refl _ _) rfl _) hg1b1 (fun k e e' => by have := hn' k e; omega)
  · exact (ClAt.off hc25 hB5 (fun p hp => by rw [hl2 p hp]; simp [cells8_len, hx1])).kept (Bytes.Kept.setRow (S := fun k => k = b1) (Kept.refl _ _) rfl _) hg2b1 (fun k e e' => by have := h.n2 k e; omega)
  · rcases hr' with e1 | ⟨k', e1, e2⟩
    · exact h.ap k (by rw [← e1, e]) e'
    · rw [e] at e1; have := Option.some.inj e1; have := hr2lt k e'; omega
  · refine Bytes.Kept.setRow (S := fun k => k = g1 ∨ k = g2 ∨ k = b1 ∨ k = b2) ((h.kept.trans (T := fun _ => False) (Kept.of_below hb) (fun _ _ h => h.elim)).trans hK (fun i hi e => ?_)) (.inr (.inr (.inl rfl))) _
    rcases e with e | e
    · exact .inl e
    · exact absurd e (hr1 i hi)
end Go.Proofs.YtgldkfaiofkhbaaDoor.AheadM

namespace Go.Proofs.YtgldkfaiofkhbaaDoor.InclAny
open Go Go.RowKit Go.Proofs.YtgldkfaiofkhbaaDoor Go.Proofs.YtgldkfaiofkhbaaDoor.Digest Go.Proofs.YtgldkfaiofkhbaaDoor.Mem Go.Proofs.YtgldkfaiofkhbaaDoor.Sha Go.Proofs.YtgldkfaiofkhbaaDoor.Bytes Go.Proofs.YtgldkfaiofkhbaaDoor.HashMem Go.Proofs.YtgldkfaiofkhbaaDoor.DigestMem Go.Proofs.YtgldkfaiofkhbaaDoor.DigestTop Go.Proofs.YtgldkfaiofkhbaaDoor.RefTop Go.Proofs.YtgldkfaiofkhbaaDoor.TreeMath Go.Proofs.YtgldkfaiofkhbaaDoor.TreeMem Go.Proofs.YtgldkfaiofkhbaaDoor.TreeRoot Go.Proofs.YtgldkfaiofkhbaaDoor.TreeRefRoot Go.Proofs.YtgldkfaiofkhbaaDoor.Node Go.Proofs.YtgldkfaiofkhbaaDoor.Sides Go.Proofs.YtgldkfaiofkhbaaDoor.Way Go.Proofs.YtgldkfaiofkhbaaDoor.WayP Go.Proofs.YtgldkfaiofkhbaaDoor.Climb Go.Proofs.YtgldkfaiofkhbaaDoor.Incl

theorem zero32 : (cells8 (List.replicate 32 0)).toArray = Z32 := by rfl
theorem Clmb.same {w w' : World} {gc : Nat} {r : Option Nat} {s : Int} {ts : List Text} (h : ClAt w gc r s ts) (hb : Below w.heap.size w w') : Clmb w gc r s ts w' :=
  ⟨r, ClAtM.kept h (Kept.of_below hb) (fun h => h) (fun _ _ h => h), Kept.of_below hb, .inl rfl⟩
end Go.Proofs.YtgldkfaiofkhbaaDoor.InclAny

namespace Go.Proofs.YtgldkfaiofkhbaaDoor.RefIncl0
open Go Go.RowKit Go.Proofs.YtgldkfaiofkhbaaDoor Go.Proofs.YtgldkfaiofkhbaaDoor.Digest Go.Proofs.YtgldkfaiofkhbaaDoor.Mem Go.Proofs.YtgldkfaiofkhbaaDoor.Sha Go.Proofs.YtgldkfaiofkhbaaDoor.ShaWalk Go.Proofs.YtgldkfaiofkhbaaDoor.Bytes Go.Proofs.YtgldkfaiofkhbaaDoor.HashMem Go.Proofs.YtgldkfaiofkhbaaDoor.DigestMem Go.Proofs.YtgldkfaiofkhbaaDoor.DigestTop Go.Proofs.YtgldkfaiofkhbaaDoor.RefTop Go.Proofs.YtgldkfaiofkhbaaDoor.QuietTail Go.Proofs.YtgldkfaiofkhbaaDoor.Grown Go.Proofs.YtgldkfaiofkhbaaDoor.Chain Go.Proofs.YtgldkfaiofkhbaaDoor.TreeMath Go.Proofs.YtgldkfaiofkhbaaDoor.TreeMem Go.Proofs.YtgldkfaiofkhbaaDoor.TreeRoot Go.Proofs.YtgldkfaiofkhbaaDoor.Append Go.Proofs.YtgldkfaiofkhbaaDoor.Book Go.Proofs.YtgldkfaiofkhbaaDoor.TreeRefRoot Go.Proofs.YtgldkfaiofkhbaaDoor.Held Go.Proofs.YtgldkfaiofkhbaaDoor.Node Go.Proofs.YtgldkfaiofkhbaaDoor.Sides Go.Proofs.YtgldkfaiofkhbaaDoor.WayP Go.Proofs.YtgldkfaiofkhbaaDoor.Climb Go.Proofs.YtgldkfaiofkhbaaDoor.Incl Go.Proofs.YtgldkfaiofkhbaaDoor.InclAny Go.Proofs.YtgldkfaiofkhbaaDoor.RefSides Go.Proofs.YtgldkfaiofkhbaaDoor.Levels Go.Proofs.YtgldkfaiofkhbaaDoor.Texts Go.Proofs.YtgldkfaiofkhbaaDoor.RefCut

theorem own_kept {S : Nat → Prop} {w w' : World} {base e size n : Nat} {v : Value} {xs : List Value} (h : w.ownsRow base e size v n xs) (hk : Kept S w w') (hS : ∀ k, v.ownBlock = some k → ¬ S k) : w'.ownsRow base e size v n xs := by
  refine ⟨h.1, h.2.imp id fun ⟨g, cap, cur, h1, h2, h3, h4⟩ => ⟨g, cap, cur, h1, h2, ?_, h4⟩⟩
  rw [hk.block g (Array.getElem?_eq_some_iff.1 h3).1 (hS g (by rw [h1]; rfl)), h3]
/-- What stands at the head of a round of the document's way up. -/
structure RAt (wo wr : World) (br : Nat) (st : Text × List Text) (v : Value) (xs : List Value) : Prop where
  leaf : Blk wr br 23 (cells8 st.1).toArray
  own : wr.ownsRow wo.heap.size 31 1 v st.2.length xs
  txs : Txs (fun k => k < wo.heap.size) wr br v.ownBlock xs st.2
  kept : Kept (· = br) wo wr
theorem RAt.step {wo wr w1 w3 w4 w5 w6 : World} {br gt ct n : Nat} {st st' : Text × List Text} {v v4 : Value} {xs : List Value} {q : Text} (h : RAt wo wr br st v xs) (hbr : br < wo.heap.size) (hn : st.2.length = n)
    (hb1 : Below wr.heap.size wr w1) (hb3 : Below w1.heap.size w1 w3) (hq : Reads w3 1 (some ⟨gt, 0, none⟩) q.length (cells8 q)) (hgt : w1.heap.size ≤ gt ∧ gt < w3.heap.size) (hct : q.length ≤ ct)
    (hG : Grew (w3.alloc (.cells #[.slice (some ⟨gt, 0, none⟩) q.length ct] 31)) wo.heap.size 31 1 v n 1 xs [.slice (some ⟨gt, 0, none⟩) q.length ct] v4 w4)
    (hb5 : Below w4.heap.size w4 w5) (hB6 : Blk w6 br 23 (cells8 st'.1).toArray) (hk6 : Kept (· = br) w5 w6) (hst : st'.2 = st.2 ++ [q]) : RAt wo w6 br st' v4 (xs ++ [.slice (some ⟨gt, 0, none⟩) q.length ct]) := by
  have hz1 := hb1.size
  have hz2 := h.kept.size
  obtain ⟨p1, p2, p3⟩ := Txs.push (by omega) hn (Txs.keep (S := fun _ => False) h.txs (Kept.of_below hb1) (fun _ h => h.elim)) (hn ▸ own_below h.own hb1) hb3 hq hgt (by omega) hct hG
  have hown : ∀ k, v4.ownBlock = some k → k ≠ br := fun k e => by have := (p2.lt k e).1; omega
  refine ⟨hB6, ?_, ?_, ?_⟩
  · rw [hst, List.length_append, hn]
    exact own_kept (own_below p2 hb5) hk6 (fun k e h => hown k e h)
  · rw [hst]
    exact Txs.keep (Txs.keep (S := fun _ => False) p1 (Kept.of_below hb5) (fun _ h => h.elim)) hk6 (fun k h => .inl h)
  · refine (((h.kept.trans (T := fun _ => False) (Kept.of_below hb1) (fun _ _ h => h.elim)).trans p3 (fun i hi e => ?_)).trans (T := fun _ => False) (Kept.of_below hb5) (fun _ _ h => h.elim)).trans hk6 (fun i _ h => h)
    have := (h.own.lt i e.symm).1
    omega

end Go.Proofs.YtgldkfaiofkhbaaDoor.RefIncl0

namespace Go.Proofs.YtgldkfaiofkhbaaDoor.AheadT
open Go Go.RowKit Go.Proofs.YtgldkfaiofkhbaaDoor Go.Proofs.YtgldkfaiofkhbaaDoor.Digest Go.Proofs.YtgldkfaiofkhbaaDoor.Mem Go.Proofs.YtgldkfaiofkhbaaDoor.Sha Go.Proofs.YtgldkfaiofkhbaaDoor.Bytes Go.Proofs.YtgldkfaiofkhbaaDoor.Append Go.Proofs.YtgldkfaiofkhbaaDoor.HashMem Go.Proofs.YtgldkfaiofkhbaaDoor.TreeMem Go.Proofs.YtgldkfaiofkhbaaDoor.TreeRoot Go.Proofs.YtgldkfaiofkhbaaDoor.Node Go.Proofs.YtgldkfaiofkhbaaDoor.Climb Go.Proofs.YtgldkfaiofkhbaaDoor.Incl Go.Proofs.YtgldkfaiofkhbaaDoor.Subs Go.Proofs.YtgldkfaiofkhbaaDoor.RowsP Go.Proofs.YtgldkfaiofkhbaaDoor.AheadM Go.Proofs.YtgldkfaiofkhbaaDoor.RefIncl0

/-- Each text is longer than a sum, and reads. -/
def Tx (w : World) (xs : List Value) (ts : List Text) : Prop := ∀ (i : Nat) (q : Text), ts[i]? = some q → 32 < q.length ∧ ∃ g c, xs[i]? = some (.slice (some ⟨g, 0, none⟩) q.length c) ∧ q.length ≤ c ∧ Reads w 1 (some ⟨g, 0, none⟩) q.length (cells8 q)
theorem Txs.toTx {S : Nat → Prop} {w w' : World} {gc : Nat} {r : Option Nat} {xs : List Value} {ts : List Text} (hx : Txs (fun _ => False) w gc r xs ts) (hl : ∀ q ∈ ts, q.length = 65) (hk : Kept S w w')
    (hS : ∀ g, S g → (∃ t cs, Blk w g t cs ∧ cs.size < 65) ∨ (∃ u, w.cell? ⟨g, 0, none⟩ = some u ∧ ∀ n, u ≠ .int .u8 n)) : Tx w' xs ts := fun i q hq => by
  obtain ⟨g, c, b1, b2, b3, b4, b5, b6, -⟩ := hx i q hq
  have hlen := hl q (List.mem_of_getElem? hq)
  refine ⟨by omega, g, c, b1, b2, b3.kept hk (fun b o e hs => ?_)⟩
  injection e with e
  injection e with e1 e2
  subst e1 e2
  obtain ⟨b', o, e1, -, e2⟩ := b3.at_ (by omega)
  injection e1 with e1
  injection e1 with e3 e4
  subst e3 e4
  rcases hS _ hs with ⟨t, cs, hB, hc⟩ | ⟨u, hu, hne⟩
  · have h2 := e2 64 _ (cells8_at q 64 (by omega))
    rw [hB.cell, Array.getElem?_eq_none (by omega)] at h2
    cases h2
  · have h2 := e2 0 _ (cells8_at q 0 (by omega))
    rw [Nat.add_zero, hu] at h2
    exact hne _ (Option.some.inj h2)
theorem Tx.append {w : World} {xs ys : List Value} {ts us : List Text} (h : Tx w xs ts) (k : Tx w ys us) (hl : xs.length = ts.length) : Tx w (xs ++ ys) (ts ++ us) := fun i q hq => by
  rcases Nat.lt_or_ge i ts.length with hi | hi
  · rw [List.getElem?_append_left hi] at hq
    rw [List.getElem?_append_left (by omega)]
    exact h i q hq
  · rw [List.getElem?_append_right hi] at hq
    rw [List.getElem?_append_right (by omega), hl]
    exact k _ q hq
theorem Tx.below {w w' : World} {xs : List Value} {ts : List Text} (h : Tx w xs ts) (hb : Below w.heap.size w w') : Tx w' xs ts := fun i q hq => by
  obtain ⟨hl, g, c, a1, a2, a3⟩ := h i q hq
  exact ⟨hl, g, c, a1, a2, a3.below hb⟩
theorem results_ccr {P : Program} {fn : Func} {p p2 u : Tmp} {ty : TypeId} (h : fn.results = #[.cell p ty, .cell p2 ty, .tmp u]) (tmps : Array Value) (w : World) (g g2 : Nat) (t t2 : TypeId) (cs cs2 : Array Value) (fr fr2 : Nat × Nat) (d : TypeDesc)
    (hp : tmps.getD p undef = .pointer (some ⟨g, 0, none⟩)) (hg : w.heap[g]? = some (.cells cs t fr)) (hp2 : tmps.getD p2 undef = .pointer (some ⟨g2, 0, none⟩)) (hg2 : w.heap[g2]? = some (.cells cs2 t2 fr2))
    (hu : P.underlying ty = some d) (hd : (match d with | .struct _ | .array _ _ => true | _ => false) = true) (hi : (P.info? ty).map (·.size) = some cs.size) (hi2 : (P.info? ty).map (·.size) = some cs2.size) :
    (results fn tmps).run P w = .ok (.tuple #[.agg cs, .agg cs2, tmps.getD u undef]) w := by
  have hp' : tmps[p]?.getD undef = .pointer (some ⟨g, 0, none⟩) := by simpa using hp
  have hp2' : tmps[p2]?.getD undef = .pointer (some ⟨g2, 0, none⟩) := by simpa using hp2
  simp [results, h, hp', hp2', asAddr, run_loadVar_row w g t ty cs fr d hg hu hd hi, run_loadVar_row w g2 t2 ty cs2 fr2 d hg2 hu hd hi2, Result.andThen]
theorem Kept.toBelow {S : Nat → Prop} {B : Nat} {w w1 wr : World} (hb : Below B w w1) (hk : Kept S w1 wr) (hS : ∀ k, S k → B ≤ k) (hB : B ≤ w1.heap.size) : Below B w wr :=
  ⟨hk.os.trans hb.os, hk.tape.trans hb.tape, hk.output.trans hb.output, by have := hk.size; have := hb.size; omega, fun k hk' => (hk.block k (by omega) (fun h => by have := hS k h; omega)).trans (hb.block k hk')⟩
theorem odd_of : ∀ m : Nat, 1 ≤ m → ∃ q a, m = (2 * q + 1) * 2 ^ a
  | 0, h => by omega
  | m + 1, _ => by
    by_cases h2 : (m + 1) % 2 = 1
    · exact ⟨(m + 1) / 2, 0, by omega⟩
    · obtain ⟨q, a, h⟩ := odd_of ((m + 1) / 2) (by omega)
      refine ⟨q, a + 1, ?_⟩
      rw [Nat.pow_succ, ← Nat.mul_assoc, ← h]
      omega
termination_by m => m
decreasing_by omega
theorem powB_iff {m q a : Nat} (h : m = (2 * q + 1) * 2 ^ a) : powB m = decide (q = 0) := by
  unfold powB
  by_cases hq : q = 0
  · rw [decide_eq_true hq]
    refine decide_eq_true ?_
    subst hq
    rw [show m = 2 ^ a by omega, Nat.log2_two_pow]
  · rw [decide_eq_false hq]
    refine decide_eq_false (fun e => hq ?_)
    rw [e] at h
    exact (odd_pow h.symm).1
theorem and_pred {m : Nat} (h : 1 ≤ m) : (m &&& (m - 1) = 0) ↔ powB m = true := by
  unfold powB
  rw [decide_eq_true_iff]
  have hlo := Nat.log2_self_le (n := m) (by omega)
  have hhi : m < 2 ^ (Nat.log2 m + 1) := Nat.lt_log2_self
  constructor
  · intro h0
    rcases Nat.eq_or_lt_of_le hlo with e | e
    · exact e.symm
    · exfalso
      have h1 : m.testBit (Nat.log2 m) = true := Nat.testBit_of_two_pow_le_and_two_pow_add_one_gt hlo hhi
      have h2 : (m - 1).testBit (Nat.log2 m) = true := Nat.testBit_of_two_pow_le_and_two_pow_add_one_gt (by omega) (by omega)
      have h3 := Nat.testBit_and m (m - 1) (Nat.log2 m)
      rw [h0, h1, h2] at h3
      simp at h3
  · intro e
    generalize Nat.log2 m = x at e
    rw [e, Nat.and_two_pow_sub_one_eq_mod, Nat.mod_self]
theorem and_i64 (m : Nat) (h1 : 1 ≤ m) (h : m ≤ 1099511627776) : bits .and .i64 (m : Int) ((m : Int) - 1) = ((m &&& (m - 1) : Nat) : Int) := by
  show IntKind.i64.wrap (((BitVec.ofInt 64 (m : Int) &&& BitVec.ofInt 64 ((m : Int) - 1)).toNat : Nat) : Int) = _
  have hm : ((m : Int) - 1) = ((m - 1 : Nat) : Int) := by omega
  have e : (BitVec.ofInt 64 (m : Int) &&& BitVec.ofInt 64 ((m : Int) - 1)).toNat = m &&& (m - 1) := by
    rw [hm, BitVec.toNat_and, BitVec.ofInt_natCast, BitVec.toNat_ofNat, BitVec.ofInt_natCast, BitVec.toNat_ofNat, Nat.mod_eq_of_lt (by omega), Nat.mod_eq_of_lt (by omega)]
  rw [e]
  have := Nat.and_le_left (n := m) (m := m - 1)
  exact IntWalk.i64_in _ (by omega)
/-- The pairs ahead of the first step: as many as there are digests; the first is passed over where the old size is no power of two. -/
theorem parts_low {old size : Nat} (h1 : 1 ≤ old) (h2 : old < size) : lowOf old < (partsOf old size).length ∧ (partsOf old size).length = lowOf old + (dirs old size).length ∧ ((partsOf old size).map (bh old)).drop (lowOf old) = dirs old size := by
  obtain ⟨q, a, hm⟩ := odd_of old h1
  have hy := rowsL_yes size 0 size old q a (by omega) (by omega) (by omega) (by rw [Nat.sub_zero]; exact hm) (fun e => by omega)
  rw [Nat.sub_zero, Nat.sub_zero] at hy
  have hp : partsOf old size = rowsL 0 size old true := if_neg (fun h => by omega)
  have hl := congrArg List.length hy
  rw [List.length_map, List.length_append] at hl
  rw [hp]
  have hd : (dirs old size).length ≠ 0 := by
    by_cases c : old ≤ TreeMath.half size
    · rw [dirs_left h1 h2 c]; simp
    · rw [dirs_right h2 (by omega)]; simp
  unfold lowOf
  rw [powB_iff hm]
  by_cases hq : q = 0
  · rw [if_pos hq] at hl hy
    rw [decide_eq_true hq, if_pos rfl, hy]
    simp at hl ⊢
    omega
  · rw [if_neg hq] at hl hy
    rw [decide_eq_false hq, hy]
    simp at hl ⊢
    omega
end Go.Proofs.YtgldkfaiofkhbaaDoor.AheadT

namespace Go.Proofs.YtgldkfaiofkhbaaDoor.RefAhead0
open Go Go.RowKit Go.Proofs.YtgldkfaiofkhbaaDoor Go.Proofs.YtgldkfaiofkhbaaDoor.Digest Go.Proofs.YtgldkfaiofkhbaaDoor.Mem Go.Proofs.YtgldkfaiofkhbaaDoor.Sha Go.Proofs.YtgldkfaiofkhbaaDoor.Bytes Go.Proofs.YtgldkfaiofkhbaaDoor.Append Go.Proofs.YtgldkfaiofkhbaaDoor.HashMem Go.Proofs.YtgldkfaiofkhbaaDoor.TreeMath Go.Proofs.YtgldkfaiofkhbaaDoor.TreeMem Go.Proofs.YtgldkfaiofkhbaaDoor.TreeRoot Go.Proofs.YtgldkfaiofkhbaaDoor.TreeRefRoot Go.Proofs.YtgldkfaiofkhbaaDoor.Node Go.Proofs.YtgldkfaiofkhbaaDoor.Sides Go.Proofs.YtgldkfaiofkhbaaDoor.RefSides Go.Proofs.YtgldkfaiofkhbaaDoor.Climb Go.Proofs.YtgldkfaiofkhbaaDoor.Incl Go.Proofs.YtgldkfaiofkhbaaDoor.Subs Go.Proofs.YtgldkfaiofkhbaaDoor.RowsP Go.Proofs.YtgldkfaiofkhbaaDoor.AheadM Go.Proofs.YtgldkfaiofkhbaaDoor.AheadT Go.Proofs.YtgldkfaiofkhbaaDoor.RefIncl0

theorem Tx.kept {S : Nat → Prop} {w w' : World} {xs : List Value} {ts : List Text} (h : Tx w xs ts) (hk : Kept S w w') (hS : ∀ g, S g → (∃ t cs, Blk w g t cs ∧ cs.size ≤ 32) ∨ (∃ u, w.cell? ⟨g, 0, none⟩ = some u ∧ ∀ n, u ≠ .int .u8 n)) : Tx w' xs ts := fun i q hq => by
  obtain ⟨hl, g, c, a1, a2, a3⟩ := h i q hq
  refine ⟨hl, g, c, a1, a2, a3.kept hk (fun b o e hs => ?_)⟩
  injection e with e
  injection e with e1 e2
  subst e1 e2
  obtain ⟨b', o, e1, -, e2⟩ := a3.at_ (by omega)
  injection e1 with e1
  injection e1 with e3 e4
  subst e3 e4
  rcases hS _ hs with ⟨t, cs, hB, hc⟩ | ⟨u, hu, hne⟩
  · have h2 := e2 32 _ (cells8_at q 32 hl)
    rw [hB.cell, Array.getElem?_eq_none (by omega)] at h2
    cases h2
  · have h2 := e2 0 _ (cells8_at q 0 (by omega))
    rw [Nat.add_zero, hu] at h2
    exact hne _ (Option.some.inj h2)
/-- A row of texts of one's own does not begin with a byte. -/
theorem row_front {w : World} {base n : Nat} {v : Value} {xs : List Value} {ts : List Text} (h : w.ownsRow base 31 1 v n xs) (hx : Tx w xs ts) (hn : ts.length = n) (he : ts = [] → v.ownBlock = none) {g : Nat} (hg : v.ownBlock = some g) : ∃ u, w.cell? ⟨g, 0, none⟩ = some u ∧ ∀ n, u ≠ .int .u8 n := by
  obtain ⟨q, hq⟩ : ∃ q, ts[0]? = some q := by
    cases ts with
    | nil => rw [he rfl] at hg; cases hg
    | cons q ts => exact ⟨q, rfl⟩
  obtain ⟨-, g', c, a1, -⟩ := hx 0 q hq
  have hpos : 0 < n := by rw [← hn]; cases ts with
    | nil => cases hq
    | cons q ts => simp
  obtain ⟨A, c2, rfl, -, -, -, hr, hA⟩ := Append.Own.reads h
  obtain ⟨b', o, rfl, -, e2⟩ := hr.at_ (by omega)
  have h2 := e2 0 _ a1
  have h3 := (hA _ rfl).2
  rw [hg] at h3
  have hkb : g = b' := Option.some.inj h3
  have ho : o = 0 := by
    rcases h.2 with ⟨e, -⟩ | ⟨g', cap, cur, e, -⟩
    · injection e with e; cases e
    · injection e with e; injection e with e; injection e
  subst hkb ho
  exact ⟨_, h2, fun n e => by cases e⟩

structure RAh (wo wr : World) (b1 b2 : Nat) (x1 x2 : Text) (v1 v2 : Value) (xs1 xs2 : List Value) (t1 t2 : List Text) : Prop where
  lf1 : Blk wr b1 23 (cells8 x1).toArray
  lf2 : Blk wr b2 23 (cells8 x2).toArray
  o1 : wr.ownsRow wo.heap.size 31 1 v1 t1.length xs1
  o2 : wr.ownsRow wo.heap.size 31 1 v2 t2.length xs2
  tx1 : Tx wr xs1 t1
  tx2 : Tx wr xs2 t2
  ap : ∀ k, v1.ownBlock = some k → v2.ownBlock ≠ some k
  e1 : t1 = [] → v1.ownBlock = none
  e2 : t2 = [] → v2.ownBlock = none
  kept : Kept (fun k => k = b1 ∨ k = b2) wo wr
theorem RAh.swap {wo wr : World} {b1 b2 : Nat} {x1 x2 : Text} {v1 v2 : Value} {xs1 xs2 : List Value} {t1 t2 : List Text} (h : RAh wo wr b1 b2 x1 x2 v1 v2 xs1 xs2 t1 t2) : RAh wo wr b2 b1 x2 x1 v2 v1 xs2 xs1 t2 t1 :=
  ⟨h.lf2, h.lf1, h.o2, h.o1, h.tx2, h.tx1, fun k e1 e2 => h.ap k e2 e1, h.e2, h.e1, h.kept.mono (fun _ _ hi => hi.symm)⟩
theorem RAh.below {wo wr w' : World} {b1 b2 : Nat} {x1 x2 : Text} {v1 v2 : Value} {xs1 xs2 : List Value} {t1 t2 : List Text} (h : RAh wo wr b1 b2 x1 x2 v1 v2 xs1 xs2 t1 t2) (hb : Below wr.heap.size wr w') : RAh wo w' b1 b2 x1 x2 v1 v2 xs1 xs2 t1 t2 :=
  ⟨(hb.block _ h.lf1.lt).trans h.lf1, (hb.block _ h.lf2.lt).trans h.lf2, own_below h.o1 hb, own_below h.o2 hb, Tx.below h.tx1 hb, Tx.below h.tx2 hb, h.ap, h.e1, h.e2, h.kept.trans (T := fun _ => False) (Kept.of_below hb) (fun _ _ h => h.elim)⟩
theorem RAh.push {wo wr w3 w4 : World} {b1 b2 gt ct n : Nat} {x1 x2 q : Text} {v1 v2 v4 : Value} {xs1 xs2 : List Value} {t1 t2 : List Text} (h : RAh wo wr b1 b2 x1 x2 v1 v2 xs1 xs2 t1 t2) (hb : Below wr.heap.size wr w3) (hn : t1.length = n)
    (hq : Reads w3 1 (some ⟨gt, 0, none⟩) q.length (cells8 q)) (hlen : 32 < q.length) (hgt : wr.heap.size ≤ gt ∧ gt < w3.heap.size) (hct : q.length ≤ ct) (hl : b1 < wo.heap.size ∧ b2 < wo.heap.size)
    (hG : Grew (w3.alloc (.cells #[.slice (some ⟨gt, 0, none⟩) q.length ct] 31)) wo.heap.size 31 1 v1 n 1 xs1 [.slice (some ⟨gt, 0, none⟩) q.length ct] v4 w4) :
    RAh wo w4 b1 b2 x1 x2 v4 v2 (xs1 ++ [.slice (some ⟨gt, 0, none⟩) q.length ct]) xs2 (t1 ++ [q]) t2 := by
  subst hn
  have h3 := h.below hb
  have h3a : RAh wo (w3.alloc (.cells #[.slice (some ⟨gt, 0, none⟩) q.length ct] 31)) b1 b2 x1 x2 v1 v2 xs1 xs2 t1 t2 := h3.below (Below.heap_below w3 _)
  have hs1 := h.kept.size
  have hs3 := hb.size
  have hz : (w3.alloc (.cells #[.slice (some ⟨gt, 0, none⟩) q.length ct] 31)).heap.size = w3.heap.size + 1 := by simp
  have hkg : Kept (fun k => some k = v1.ownBlock) (w3.alloc (.cells #[.slice (some ⟨gt, 0, none⟩) q.length ct] 31)) w4 := (Kept.refl _ _).grown hG.grow (fun k e => .inl e.symm)
  have hlo : ∀ k, v1.ownBlock = some k → wo.heap.size ≤ k := fun k e => (h3a.o1.lt k e).1
  have hgr : some gt ≠ v1.ownBlock := fun e => by have := (h.o1.lt gt e.symm).2; omega
  have hS : ∀ g, some g = v1.ownBlock → (∃ t cs, Blk (w3.alloc (.cells #[.slice (some ⟨gt, 0, none⟩) q.length ct] 31)) g t cs ∧ cs.size ≤ 32) ∨ (∃ u, (w3.alloc (.cells #[.slice (some ⟨gt, 0, none⟩) q.length ct] 31)).cell? ⟨g, 0, none⟩ = some u ∧ ∀ n, u ≠ .int .u8 n) := fun g hg => .inr (row_front h3a.o1 h3a.tx1 rfl h3a.e1 hg.symm)
  refine ⟨?_, ?_, ?_, ?_, ?_, ?_, fun k e e' => ?_, (fun e => by simp at e), h.e2, ?_⟩
  · exact h3a.lf1.kept hkg (fun e => by have := hlo _ e.symm; omega)
  · exact h3a.lf2.kept hkg (fun e => by have := hlo _ e.symm; omega)
  · rw [List.length_append]
    exact hG.own
  · exact own_kept h3a.o2 hkg (fun k e e' => h3a.ap k e'.symm e)
  · refine Tx.append (Tx.kept h3a.tx1 hkg hS) (fun i p hp => ?_) (by have := h.o1.1; simpa using this)
    match i with
    | 0 =>
      obtain rfl := Option.some.inj hp
      exact ⟨hlen, gt, ct, rfl, hct, (hq.alloc _).kept hkg (fun b o e e' => by injection e with e; injection e with e1 e2; subst e1; exact hgr e')⟩
    | i + 1 => simp at hp
  · exact Tx.kept h3a.tx2 hkg hS
  · rcases hG.at_ with h1 | h1
    · exact h.ap k (by rw [← h1, e]) e'
    · rw [h1, hz] at e
      have h9 := Option.some.inj e
      have := (h3.o2.lt k e').2
      omega
  · exact h3a.kept.trans hkg (fun i hi e => by have := hlo i e.symm; omega)
theorem RAh.store {wo w5 w6 : World} {b1 b2 : Nat} {x1 x2 z : Text} {v1 v2 : Value} {xs1 xs2 : List Value} {t1 t2 : List Text} (h : RAh wo w5 b1 b2 x1 x2 v1 v2 xs1 xs2 t1 t2) (hx1 : x1.length = 32) (hB : Blk w6 b1 23 (cells8 z).toArray) (hk : Kept (· = b1) w5 w6) (hne : b1 ≠ b2) (hl : b1 < wo.heap.size) :
    RAh wo w6 b1 b2 z x2 v1 v2 xs1 xs2 t1 t2 := by
  have hS : ∀ g, g = b1 → (∃ t cs, Blk w5 g t cs ∧ cs.size ≤ 32) ∨ (∃ u, w5.cell? ⟨g, 0, none⟩ = some u ∧ ∀ n, u ≠ .int .u8 n) := fun g hg => by subst hg; exact .inl ⟨_, _, h.lf1, by simp [cells8_len, hx1]⟩
  refine ⟨hB, h.lf2.kept hk (fun e => hne e.symm), own_kept h.o1 hk (fun k e e' => ?_), own_kept h.o2 hk (fun k e e' => ?_), Tx.kept h.tx1 hk hS, Tx.kept h.tx2 hk hS, h.ap, h.e1, h.e2, h.kept.trans hk (fun i _ e => .inl e)⟩
  · have := (h.o1.lt k e).1; omega
  · have := (h.o2.lt k e).1; omega

/-! ### Where the loops stand -/
theorem odd_level {q a k : Nat} (h : k < a) : ((2 * q + 1) * 2 ^ a - 1) / 2 ^ k % 2 = 1 := by
  obtain ⟨c, rfl⟩ : ∃ c, a = k + 1 + c := ⟨a - k - 1, by omega⟩
  have hp := Nat.two_pow_pos k
  have hc := Nat.two_pow_pos c
  have e : (2 * q + 1) * 2 ^ (k + 1 + c) = ((2 * q + 1) * 2 ^ c) * 2 * 2 ^ k := by rw [Nat.pow_add, Nat.pow_succ]; simp only [Nat.mul_assoc, Nat.mul_comm, Nat.mul_left_comm]
  have hpos : 0 < (2 * q + 1) * 2 ^ c := Nat.mul_pos (by omega) hc
  generalize (2 * q + 1) * 2 ^ c = y at e hpos
  have h2 : y * 2 * 2 ^ k - 1 = (y * 2 - 1) * 2 ^ k + (2 ^ k - 1) := by
    have h3 : y * 2 * 2 ^ k = (y * 2 - 1) * 2 ^ k + 2 ^ k := by
      conv => lhs; rw [show y * 2 = (y * 2 - 1) + 1 by omega, Nat.add_mul, Nat.one_mul]
    omega
  rw [e, h2, Nat.add_comm, Nat.add_mul_div_right _ _ hp, Nat.div_eq_of_lt (by omega), Nat.zero_add]
  omega
/-- At the old size's last leaf, as many levels up as there are bits. -/
theorem At.up {n m q a : Nat} (hm : m = (2 * q + 1) * 2 ^ a) (hmn : m ≤ n) : ∀ k, k ≤ a → At n (m - 1) k ((m - 1) / 2 ^ k) ((n - 1) / 2 ^ k)
  | 0, _ => by simpa using At.zero n (m - 1)
  | k + 1, h => by
    have hp := Nat.two_pow_pos a
    have hm1 : 1 ≤ m := by rw [hm, Nat.add_mul, Nat.one_mul]; omega
    have h1 := At.up hm hmn k (by omega)
    have h2 := (h1.odd (by omega) (by rw [hm]; exact odd_level (by omega))).2
    rwa [half2, half2]
/-- The side of the next digest. -/
theorem side_dirs {old size q a k : Nat} {b : Bool} (hm : old = (2 * q + 1) * 2 ^ a) (h2 : old < size) (h : (sides size (old - 1))[a + k]? = some b) : (dirs old size)[k]? = some b := by
  have hp := Nat.two_pow_pos a
  have h1 : 1 ≤ old := by rw [hm, Nat.add_mul, Nat.one_mul]; omega
  rw [dirs_sides size old size q a (Nat.le_refl _) h1 (by omega) hm (fun e => by omega), List.getElem?_append_right (by simp), List.length_replicate, Nat.add_sub_cancel_left] at h
  exact h
theorem sides_dirs_len {old size q a : Nat} (hm : old = (2 * q + 1) * 2 ^ a) (h2 : old < size) : (sides size (old - 1)).length = a + (dirs old size).length := by
  have hp := Nat.two_pow_pos a
  have h1 : 1 ≤ old := by rw [hm, Nat.add_mul, Nat.one_mul]; omega
  rw [dirs_sides size old size q a (Nat.le_refl _) h1 (by omega) hm (fun e => by omega), List.length_append, List.length_replicate]
end Go.Proofs.YtgldkfaiofkhbaaDoor.RefAhead0

namespace Go.Proofs.YtgldkfaiofkhbaaDoor.RefAhead0
open Go Go.RowKit Go.Proofs.YtgldkfaiofkhbaaDoor Go.Proofs.YtgldkfaiofkhbaaDoor.Digest Go.Proofs.YtgldkfaiofkhbaaDoor.Mem Go.Proofs.YtgldkfaiofkhbaaDoor.Sha Go.Proofs.YtgldkfaiofkhbaaDoor.Bytes Go.Proofs.YtgldkfaiofkhbaaDoor.Append Go.Proofs.YtgldkfaiofkhbaaDoor.HashMem Go.Proofs.YtgldkfaiofkhbaaDoor.TreeMath Go.Proofs.YtgldkfaiofkhbaaDoor.TreeMem Go.Proofs.YtgldkfaiofkhbaaDoor.TreeRoot Go.Proofs.YtgldkfaiofkhbaaDoor.TreeRefRoot Go.Proofs.YtgldkfaiofkhbaaDoor.Node Go.Proofs.YtgldkfaiofkhbaaDoor.Sides Go.Proofs.YtgldkfaiofkhbaaDoor.RefSides Go.Proofs.YtgldkfaiofkhbaaDoor.Climb Go.Proofs.YtgldkfaiofkhbaaDoor.Incl Go.Proofs.YtgldkfaiofkhbaaDoor.Subs Go.Proofs.YtgldkfaiofkhbaaDoor.RowsP Go.Proofs.YtgldkfaiofkhbaaDoor.AheadM Go.Proofs.YtgldkfaiofkhbaaDoor.AheadT Go.Proofs.YtgldkfaiofkhbaaDoor.RefIncl0

structure Plan (s : Int) (old size : Nat) (root : Text) (ds : List Text) (q a : Nat) (Zf : Nat → Ah) (D : List Text) (x0 : Text) (N : Nat) : Prop where
  d : D = if q = 0 then root :: ds else ds
  len : D.length = N
  dig : Digs D
  n2 : 2 ≤ N
  n42 : N ≤ 42
  zero : D[0]? = some x0
  x32 : x0.length = 32
  start : Zf 1 = ⟨x0, x0, [], []⟩
  step : ∀ j, 1 ≤ j → j < N → ∃ d, D[j]? = some d ∧ d.length = 32 ∧ ∀ b, (sides size (old - 1))[a + j - 1]? = some b → Zf (j + 1) = ahead1 s (Zf j) (b, d)
  ok : ∀ j, 1 ≤ j → j ≤ N → (Zf j).Ok (j - 1)
  last : aheadOf s old size root ds = Zf N
  sd : (sides size (old - 1)).length = a + N - 1
theorem plan (s : Int) {old size : Nat} {root : Text} {ds : List Text} {q a : Nat} (h1 : 1 ≤ old) (h2 : old < size) (hs : size ≤ 1099511627776) (hrt : root.length = 32) (hd : Digs ds) (hn : betw old size = ds.length) (hm : old = (2 * q + 1) * 2 ^ a) :
    ∃ Zf D x0 N, Plan s old size root ds q a Zf D x0 N := by
  obtain ⟨hlow, hll, hdr⟩ := parts_low h1 h2
  have hpl := partsOf_len (Nat.le_of_lt h2)
  have hsl := sides_dirs_len hm h2
  have h41 := betw_le (Nat.le_of_lt h2) hs
  have hpw := powB_iff hm
  have hlo : lowOf old = if q = 0 then 0 else 1 := by
    unfold lowOf
    rw [hpw]
    by_cases hq : q = 0
    · simp [hq]
    · simp [hq]
  have hz : (((partsOf old size).map (bh old)).zip ds).length = ds.length := by rw [List.length_zip, List.length_map]; omega
  obtain ⟨x0, hx0⟩ : ∃ x0, (if powB old then root else ds.getD 0 []) = x0 := ⟨_, rfl⟩
  obtain ⟨D, hD⟩ : ∃ D, (if q = 0 then root :: ds else ds) = D := ⟨_, rfl⟩
  have hDl : D.length + lowOf old = ds.length + 1 := by
    rw [hlo, ← hD]
    split <;> simp
  have hDi : ∀ j, 1 ≤ j → D[j]? = ds[lowOf old + (j - 1)]? := fun j hj => by
    obtain ⟨k, rfl⟩ : ∃ k, j = k + 1 := ⟨j - 1, by omega⟩
    rw [hlo, ← hD]
    split
    · simp
    · rw [Nat.add_sub_cancel, Nat.add_comm 1 k]
  have hDd : Digs D := by
    rw [← hD]
    split
    · intro d hd'
      rcases List.mem_cons.1 hd' with rfl | h
      · exact hrt
      · exact hd _ h
    · exact hd
  have hD0 : D[0]? = some x0 := by
    rw [← hD, ← hx0, hpw]
    by_cases hq : q = 0
    · simp [hq]
    · rw [if_neg hq, if_neg (by simp [hq])]
      have : 0 < ds.length := by omega
      simp [List.getD, List.getElem?_eq_getElem this]
  have hx32 := hDd.at_ hD0
  have hok : ∀ k, lowOf old + k ≤ ds.length → (aheadS s x0 (lowOf old) (((partsOf old size).map (bh old)).zip ds) (lowOf old + k)).Ok k := fun k hk => aheadS_ok hx32 (fun p hp => hd _ (List.of_mem_zip (show (p.1, p.2) ∈ _ from hp)).2) k (by omega)
  refine ⟨fun j => aheadS s x0 (lowOf old) (((partsOf old size).map (bh old)).zip ds) (lowOf old + (j - 1)), D, x0, (dirs old size).length + 1, hD.symm, by omega, hDd, by omega, by omega, hD0, hx32, ?_, fun j hj hjN => ?_, fun j hj hjN => hok (j - 1) (by omega), ?_, by rw [hsl]; omega⟩
  · show aheadS _ _ _ _ (lowOf old + 0) = _
    rw [Nat.add_zero, aheadS_low]
  · have hlt : lowOf old + (j - 1) < ds.length := by omega
    obtain ⟨d, hd0⟩ : ∃ d, ds[lowOf old + (j - 1)]? = some d := ⟨_, List.getElem?_eq_getElem hlt⟩
    refine ⟨d, by rw [hDi j hj, hd0], hd.at_ hd0, fun b hb => ?_⟩
    rw [show a + j - 1 = a + (j - 1) by omega] at hb
    have hb2 := side_dirs hm h2 hb
    rw [← hdr, List.getElem?_drop] at hb2
    show aheadS _ _ _ _ (lowOf old + (j + 1 - 1)) = _
    rw [show lowOf old + (j + 1 - 1) = lowOf old + (j - 1) + 1 by omega]
    exact aheadS_succ (Nat.le_add_right _ _) (List.getElem?_zip_eq_some.2 ⟨hb2, hd0⟩)
  · show aheadOf _ _ _ _ _ = aheadS _ _ _ _ (lowOf old + ((dirs old size).length + 1 - 1))
    unfold aheadOf
    rw [hx0, show lowOf old + ((dirs old size).length + 1 - 1) = ds.length by omega]

end Go.Proofs.YtgldkfaiofkhbaaDoor.RefAhead0

namespace Go.Proofs.YtgldkfaiofkhbaaDoor.RefAhead
open Go Go.RowKit Go.Proofs.YtgldkfaiofkhbaaDoor Go.Proofs.YtgldkfaiofkhbaaDoor.Digest Go.Proofs.YtgldkfaiofkhbaaDoor.Mem Go.Proofs.YtgldkfaiofkhbaaDoor.Sha Go.Proofs.YtgldkfaiofkhbaaDoor.ShaWalk Go.Proofs.YtgldkfaiofkhbaaDoor.Bytes Go.Proofs.YtgldkfaiofkhbaaDoor.Append Go.Proofs.YtgldkfaiofkhbaaDoor.HashMem Go.Proofs.YtgldkfaiofkhbaaDoor.DigestMem Go.Proofs.YtgldkfaiofkhbaaDoor.DigestTop Go.Proofs.YtgldkfaiofkhbaaDoor.RefTop Go.Proofs.YtgldkfaiofkhbaaDoor.QuietTail Go.Proofs.YtgldkfaiofkhbaaDoor.Grown Go.Proofs.YtgldkfaiofkhbaaDoor.Chain Go.Proofs.YtgldkfaiofkhbaaDoor.TreeMath Go.Proofs.YtgldkfaiofkhbaaDoor.TreeMem Go.Proofs.YtgldkfaiofkhbaaDoor.TreeRoot Go.Proofs.YtgldkfaiofkhbaaDoor.Held Go.Proofs.YtgldkfaiofkhbaaDoor.Guard Go.Proofs.YtgldkfaiofkhbaaDoor.Book Go.Proofs.YtgldkfaiofkhbaaDoor.Node Go.Proofs.YtgldkfaiofkhbaaDoor.WayP Go.Proofs.YtgldkfaiofkhbaaDoor.TreeRefRoot Go.Proofs.YtgldkfaiofkhbaaDoor.Sides Go.Proofs.YtgldkfaiofkhbaaDoor.RefSides Go.Proofs.YtgldkfaiofkhbaaDoor.Climb Go.Proofs.YtgldkfaiofkhbaaDoor.Incl Go.Proofs.YtgldkfaiofkhbaaDoor.Subs Go.Proofs.YtgldkfaiofkhbaaDoor.RowsP Go.Proofs.YtgldkfaiofkhbaaDoor.Joint Go.Proofs.YtgldkfaiofkhbaaDoor.SubRef Go.Proofs.YtgldkfaiofkhbaaDoor.RefIncl0 Go.Proofs.YtgldkfaiofkhbaaDoor.AheadM Go.Proofs.YtgldkfaiofkhbaaDoor.AheadT Go.Proofs.YtgldkfaiofkhbaaDoor.RefAhead0 Go.Proofs.YtgldkfaiofkhbaaDoor.RefCut

end Go.Proofs.YtgldkfaiofkhbaaDoor.RefAhead

namespace Go.Proofs.YtgldkfaiofkhbaaDoor.RowsT
open Go Go.RowKit Go.Proofs.YtgldkfaiofkhbaaDoor Go.Proofs.YtgldkfaiofkhbaaDoor.Mem Go.Proofs.YtgldkfaiofkhbaaDoor.Sha Go.Proofs.YtgldkfaiofkhbaaDoor.Bytes Go.Proofs.YtgldkfaiofkhbaaDoor.Append Go.Proofs.YtgldkfaiofkhbaaDoor.TreeMem Go.Proofs.YtgldkfaiofkhbaaDoor.Node Go.Proofs.YtgldkfaiofkhbaaDoor.Texts Go.Proofs.YtgldkfaiofkhbaaDoor.AheadT

theorem own_up {w : World} {B e size n : Nat} {v : Value} {xs : List Value} (h : w.ownsRow 0 e size v n xs) (hB : ∀ k, v.ownBlock = some k → B ≤ k) : w.ownsRow B e size v n xs :=
  ⟨h.1, h.2.imp id fun ⟨g, cap, cur, h1, _, h3⟩ => ⟨g, cap, cur, h1, hB g (by rw [h1]; rfl), h3⟩⟩
theorem Tx.keep {S : Nat → Prop} {w w' : World} {xs : List Value} {ts : List Text} (h : Tx w xs ts) (hk : Kept S w w') (hS : ∀ g, S g → ∃ u, w.cell? ⟨g, 0, none⟩ = some u ∧ ∀ n, u ≠ .int .u8 n) : Tx w' xs ts := fun i q hq => by
  obtain ⟨hl, g, c, b1, b2, b3⟩ := h i q hq
  refine ⟨hl, g, c, b1, b2, b3.kept hk (fun b o e hs => ?_)⟩
  injection e with e
  injection e with e1 e2
  subst e1 e2
  obtain ⟨b', o, e1, -, e2⟩ := b3.at_ (by omega)
  injection e1 with e1
  injection e1 with e3 e4
  subst e3 e4
  obtain ⟨u, hu, hne⟩ := hS _ hs
  have h2 := e2 0 _ (cells8_at q 0 (by omega))
  rw [Nat.add_zero, hu] at h2
  exact hne _ (Option.some.inj h2)
theorem Tx.pieces {w : World} {B : Nat} {v : Value} {xs : List Value} {ts : List Text} (hO : w.ownsRow B 31 1 v ts.length xs) (hx : Tx w xs ts) : ∃ A c, v = .slice A ts.length c ∧ ts.length ≤ c ∧ (A = none → ts.length = 0 ∧ c = 0) ∧ Pieces w A ts := by
  obtain ⟨A, c, e, hc, -, hnil, hr, -⟩ := Append.Own.reads hO
  refine ⟨A, c, e, hc, hnil, fun h0 => ?_⟩
  obtain ⟨b, o, e1, hb, hcs⟩ := hr.at_ (by omega)
  refine ⟨b, o, e1, hb, fun i q hq => ?_⟩
  obtain ⟨-, g, cq, a1, a2, a3⟩ := hx i q hq
  exact ⟨some ⟨g, 0, none⟩, cq, hcs i _ a1, a2, a3, fun h => by cases h⟩
end Go.Proofs.YtgldkfaiofkhbaaDoor.RowsT

namespace Go.Proofs.YtgldkfaiofkhbaaDoor.Ahead
open Go Go.RowKit Go.Proofs.YtgldkfaiofkhbaaDoor Go.Proofs.YtgldkfaiofkhbaaDoor.Digest Go.Proofs.YtgldkfaiofkhbaaDoor.Mem Go.Proofs.YtgldkfaiofkhbaaDoor.Sha Go.Proofs.YtgldkfaiofkhbaaDoor.ShaWalk Go.Proofs.YtgldkfaiofkhbaaDoor.Bytes Go.Proofs.YtgldkfaiofkhbaaDoor.Append Go.Proofs.YtgldkfaiofkhbaaDoor.HashMem Go.Proofs.YtgldkfaiofkhbaaDoor.DigestMem Go.Proofs.YtgldkfaiofkhbaaDoor.DigestTop Go.Proofs.YtgldkfaiofkhbaaDoor.QuietTail Go.Proofs.YtgldkfaiofkhbaaDoor.Grown Go.Proofs.YtgldkfaiofkhbaaDoor.Chain Go.Proofs.YtgldkfaiofkhbaaDoor.TreeMath Go.Proofs.YtgldkfaiofkhbaaDoor.TreeMem Go.Proofs.YtgldkfaiofkhbaaDoor.TreeRoot Go.Proofs.YtgldkfaiofkhbaaDoor.Held Go.Proofs.YtgldkfaiofkhbaaDoor.Guard Go.Proofs.YtgldkfaiofkhbaaDoor.Book Go.Proofs.YtgldkfaiofkhbaaDoor.Node Go.Proofs.YtgldkfaiofkhbaaDoor.NodeW Go.Proofs.YtgldkfaiofkhbaaDoor.WayP Go.Proofs.YtgldkfaiofkhbaaDoor.RevP Go.Proofs.YtgldkfaiofkhbaaDoor.TreeRefRoot Go.Proofs.YtgldkfaiofkhbaaDoor.Climb Go.Proofs.YtgldkfaiofkhbaaDoor.Incl Go.Proofs.YtgldkfaiofkhbaaDoor.Subs Go.Proofs.YtgldkfaiofkhbaaDoor.RowsP Go.Proofs.YtgldkfaiofkhbaaDoor.Joint Go.Proofs.YtgldkfaiofkhbaaDoor.RefIncl0 Go.Proofs.YtgldkfaiofkhbaaDoor.AheadM Go.Proofs.YtgldkfaiofkhbaaDoor.AheadT

/-- What it leaves. -/
def AhPost (w : World) (Z : Ah) (e : Ending) (w' : World) : Prop := ∃ A c xs, e = .returned (.tuple #[.agg (cells8 Z.fr).toArray, .agg (cells8 Z.sr).toArray, .slice A (Z.ft.length + Z.st.length) c]) ∧ Reads w' 1 A (Z.ft.length + Z.st.length) xs ∧ Tx w' xs (Z.ft ++ Z.st) ∧ Below w.heap.size w w'
/-- .. and the texts are a row of its own. -/
def AhOwn (w : World) (Z : Ah) (e : Ending) (w' : World) : Prop := ∃ A c xs, e = .returned (.tuple #[.agg (cells8 Z.fr).toArray, .agg (cells8 Z.sr).toArray, .slice A (Z.ft.length + Z.st.length) c]) ∧ w'.ownsRow w.heap.size 31 1 (.slice A (Z.ft.length + Z.st.length) c) (Z.ft.length + Z.st.length) xs ∧ Tx w' xs (Z.ft ++ Z.st) ∧ Below w.heap.size w w'
theorem AhOwn.post {w : World} {Z : Ah} {e : Ending} {w' : World} (h : AhOwn w Z e w') : AhPost w Z e w' := by
  obtain ⟨A, c, xs, h1, h2, h3, h4⟩ := h
  obtain ⟨A9, c9, e9, -, -, -, hR9, -⟩ := Append.Own.reads h2
  injection e9 with e91 e92 e93
  subst e91
  exact ⟨A, c, xs, h1, hR9, h3, h4⟩
set_option maxRecDepth 100000 in
set_option maxHeartbeats 4000000 in
theorem ahead_own (s : Int) (old size : Nat) (h1 : 1 ≤ old) (h2 : old < size) (hs : size ≤ 1099511627776) (root : Text) (hrt : root.length = 32) (ds : List Text) (A : Option Addr) (n c : Nat) (hn : (partsOf old size).length = n) (w : World) (hB : Base w) (hr : RdD w A n ds) :
    Calls Tryd.prog 158 #[.int .i64 s, .int .i64 (old : Int), .int .i64 (size : Int), .agg (cells8 root).toArray, .slice A n c] w (AhOwn w (aheadOf s old size root ds)) := by
  obtain ⟨i0, ii, iz0, iz1, iz2⟩ := info_partsN infoT
  have hn41 : Hid (n ≤ 41) := by show _ ≤ _; rw [← hn, partsOf_len (by omega)]; exact betw_le (by omega) hs
  obtain ⟨hlow, -, -⟩ := parts_low h1 h2
  rw [hn] at hlow
  obtain ⟨low, hlo⟩ : ∃ low, lowOf old = low := ⟨_, rfl⟩
  rw [hlo] at hlow
  obtain ⟨P, hP⟩ : ∃ P, ((partsOf old size).map (bh old)).zip ds = P := ⟨_, rfl⟩
  obtain ⟨x0, hx0⟩ : ∃ x0, (if powB old then root else ds.getD 0 []) = x0 := ⟨_, rfl⟩
  have hZ : aheadOf s old size root ds = aheadS s x0 low P n := by unfold aheadOf; rw [hP, hlo, hx0, hr.1]
  rw [hZ]
  clear hZ
  have hPl : P.length = n := by rw [← hP, List.length_zip, List.length_map, hn, hr.1]; omega
  have hPd : ∀ p ∈ P, p.2.length = 32 := fun p hp => by rw [← hP] at hp; exact hr.2.1 _ (List.of_mem_zip (show (p.1, p.2) ∈ _ from hp)).2
  obtain ⟨d0, hd0⟩ : ∃ d0, ds[0]? = some d0 := ⟨_, List.getElem?_eq_getElem (by have := hr.1; omega)⟩
  have hx0l : x0.length = 32 := by
    rw [← hx0]
    split
    · exact hrt
    · have := hr.2.1.at_ hd0
      simpa [List.getD, hd0] using this
  have hok : Hid (∀ j, low ≤ j → j ≤ n → (aheadS s x0 low P j).Ok (j - low)) := fun j h1 h2 => by
    have := aheadS_ok (s := s) (low := low) hx0l hPd (j - low) (by omega)
    rwa [show low + (j - low) = j by omega] at this
  have hPj : Hid (∀ j p d, (partsOf old size)[j]? = some p → ds[j]? = some d → P[j]? = some (bh old p, d)) := fun j p d h1 h2 => by
    rw [← hP]
    exact List.getElem?_zip_eq_some.2 ⟨by rw [List.getElem?_map, h1]; rfl, h2⟩
  obtain ⟨ps, hps⟩ : ∃ ps, partsOf old size = ps := ⟨_, rfl⟩
  have hPt := Lib.hid (fun w' => parts_any old size (by omega) hs w')
  rw [hps] at hPt hPj hn
  have hpw := and_pred h1
  have hai := and_i64 old h1 (by omega)
  have hb0 : Hid (Below w.heap.size w (((w.alloc (.cells (cells8 root).toArray 23)).alloc (.cells Z32 23)).alloc (.cells Z32 23))) := ((Below.heap_below w _).alloc (by simp) _).alloc (by simp; omega) _
  have hz0 : Hid ((((w.alloc (.cells (cells8 root).toArray 23)).alloc (.cells Z32 23)).alloc (.cells Z32 23)).heap.size = w.heap.size + 3) := by show _ = _; simp
  have hz2 : ((w.alloc (.cells (cells8 root).toArray 23)).alloc (.cells Z32 23)).heap.size = w.heap.size + 2 := by simp
  have hz1 : (w.alloc (.cells (cells8 root).toArray 23)).heap.size = w.heap.size + 1 := by simp
  have hR0 : Hid (Blk (((w.alloc (.cells (cells8 root).toArray 23)).alloc (.cells Z32 23)).alloc (.cells Z32 23)) w.heap.size 23 (cells8 root).toArray) := ((Blk.new w _ _).alloc _).alloc _
  have hA0 : Hid (Blk (((w.alloc (.cells (cells8 root).toArray 23)).alloc (.cells Z32 23)).alloc (.cells Z32 23)) (w.heap.size + 1) 23 Z32) := by
    have := (Blk.new (w.alloc (.cells (cells8 root).toArray 23)) 23 Z32).alloc (.cells Z32 23)
    rwa [hz1] at this
  have hE0 : Hid (Blk (((w.alloc (.cells (cells8 root).toArray 23)).alloc (.cells Z32 23)).alloc (.cells Z32 23)) (w.heap.size + 2) 23 Z32) := by
    have := Blk.new ((w.alloc (.cells (cells8 root).toArray 23)).alloc (.cells Z32 23)) 23 Z32
    rwa [hz2] at this
  have Fr := Lib.hid (fit (x := root) hrt)
  have Fx := Lib.hid (fit (x := x0) hx0l)
  have hBs := Lib.hid (fun w' (hb : Below w.heap.size w w') => hB.below hb hB.1)
  have hgb : Hid (1 < w.heap.size) := hB.1
  have hlw := Lib.hid hlo
  have hx0h := Lib.hid hx0
  have hd0h := Lib.hid hd0
  replace hr := Lib.hid hr
  replace hn := Lib.hid hn
  replace hlow := Lib.hid hlow
  have hob : Hid (1 ≤ old ∧ old ≤ 1099511627776) := by show _ ∧ _; omega
  have hx0lh := Lib.hid hx0l
  clear hs hrt hB hx0 hx0l hd0 hlo hz1 hz2 hP hPl hPd hps h1 h2
  go_enter Tryd.func158, Tryd.ntmps158
  go_wp2_with fail
  change Calls _ _ _ (((w.alloc (.cells (cells8 root).toArray 23)).alloc (.cells Z32 23)).alloc (.cells Z32 23)) _
  generalize (((w.alloc (.cells (cells8 root).toArray 23)).alloc (.cells Z32 23)).alloc (.cells Z32 23)) = w0 at *
  refine (hPt.out _).mono ?_
  rintro e w3 ⟨v, rfl, hO, hk1⟩
  rw [hn.out] at hO
  obtain ⟨Ap, cp, rfl, -, -, -, hPr, hApB⟩ := Append.Own.reads hO
  have hb3 : Hid (Below w.heap.size w w3) := hb0.out.trans (hk1.mono hb0.out.size)
  have hR3 : Hid (Blk w3 w.heap.size 23 (cells8 root).toArray) := (hk1.block _ hR0.out.lt).trans hR0.out
  have hA3 : Hid (Blk w3 (w.heap.size + 1) 23 Z32) := (hk1.block _ hA0.out.lt).trans hA0.out
  have hE3 : Hid (Blk w3 (w.heap.size + 2) 23 Z32) := (hk1.block _ hE0.out.lt).trans hE0.out
  have hs3 : Hid (w.heap.size + 3 ≤ w3.heap.size) := by have := hk1.size; have := hz0.out; show _ ≤ _; omega
  replace hPr := Lib.hid hPr
  clear hO hk1 hb0 hR0 hA0 hE0 hz0 hPt hApB
  go_wp2_with fail
  obtain ⟨w4, hw4⟩ : ∃ w4, Hid (w4 = (w3.alloc (.cells #[.int .i64 s, .slice none 0 0] 256)).alloc (.cells #[.int .i64 s, .slice none 0 0] 256)) := ⟨_, rfl⟩
  have hb4 : Hid (Below w3.heap.size w3 w4) := by show Below _ _ _; rw [hw4.out]; exact (Below.heap_below w3 _).alloc (by simp) _
  have hW4 : Hid (Blk w4 w3.heap.size 256 #[.int .i64 s, .slice none 0 0]) := by show Blk _ _ _ _; rw [hw4.out]; exact heap_alloc2_old w3 _ _
  have hI4 : Hid (Blk w4 (w3.heap.size + 1) 256 #[.int .i64 s, .slice none 0 0]) := by show Blk _ _ _ _; rw [hw4.out]; exact heap_alloc2_new w3 _ _
  have hs4 : Hid (w4.heap.size = w3.heap.size + 2) := by show _ = _; rw [hw4.out]; simp
  have hR4 : Hid (Blk w4 w.heap.size 23 (cells8 root).toArray) := (hb4.out.block _ hR3.out.lt).trans hR3.out
  change (Code.region _ _ _).wp _ _ _ ((w3.alloc (.cells #[.int .i64 s, .slice none 0 0] 256)).alloc (.cells #[.int .i64 s, .slice none 0 0] 256))
  rw [← hw4.out]
  clear hw4 hR3
  go_cut [16, 17, 18] from 29 to 30 (fun v u z wr => ∃ m16 m17 : Nat, v = .pointer (some ⟨m16, 0, none⟩) ∧ u = .pointer (some ⟨m17, 0, none⟩) ∧ z = .int .i64 0 ∧ Hid (m16 ≠ m17) ∧ Hid (w4.heap.size ≤ m16) ∧ Hid (w4.heap.size ≤ m17) ∧ Hid (Blk wr m16 23 (cells8 root).toArray) ∧ Hid (Blk wr m17 23 (cells8 root).toArray) ∧ Hid (Below w4.heap.size w4 wr))
  case first =>
    have s0 : Hid (Below w4.heap.size w4 w4.drew) := (Below.refl _ _).drew
    refine held_start (fun w' => Below w4.heap.size w4 w') 7 rfl (by kernel_rfl) ?_
    refine held_take (i := 0) (v := .agg ((cells8 root).toArray)) rfl (by kernel_rfl) (by kernel_rfl) (by kernel_rfl) (fun _ _ _ h => h) s0.out (by rfl) (fun w' hw' => exec_row 23 (.tmp 8) rfl (w.heap.size) rfl 23 ((cells8 root).toArray) (0, 0) _ ((hw'.block _ hR4.out.lt).trans hR4.out) Tryd.underlying23 rfl Fr.out.size) ?_
    (intro K hK; go_simp; refine hK _ ?_; clear hK K)
    refine held_take (i := 1) (v := .agg ((cells8 root).toArray)) rfl (by kernel_rfl) (by kernel_rfl) (by kernel_rfl) (fun _ _ _ h => h) s0.out (by rfl) (fun w' hw' => exec_row 23 (.tmp 8) rfl (w.heap.size) rfl 23 ((cells8 root).toArray) (0, 0) _ ((hw'.block _ hR4.out.lt).trans hR4.out) Tryd.underlying23 rfl Fr.out.size) ?_
    (intro K hK; go_simp; refine hK _ ?_; clear hK K)
    refine held_two (i := 2) (j := 3) rfl rfl (by kernel_rfl) (by rfl) (by rfl) (fun K hK => ?_) (fun K hK => ?_)
    · have h5 : Hid (Below w4.heap.size w4 (w4.drew.alloc (.cells Z32 23))) := s0.out.alloc s0.out.size _
      have bA : Hid (Blk (w4.drew.alloc (.cells Z32 23)) w4.drew.heap.size 23 Z32) := Blk.new _ _ _
      go_simp
      refine hK _ _ h5.out ?_
      clear hK K
      refine held_only (i := 3) rfl (by kernel_rfl) (by rfl) (fun K hK => ?_)
      have h6 : Hid (Below w4.heap.size w4 ((w4.drew.alloc (.cells Z32 23)).alloc (.cells Z32 23))) := h5.out.alloc h5.out.size _
      have bB : Hid (Blk ((w4.drew.alloc (.cells Z32 23)).alloc (.cells Z32 23)) (w4.drew.alloc (.cells Z32 23)).heap.size 23 Z32) := Blk.new _ _ _
      go_simp
      refine hK _ _ h6.out ?_
      clear hK K
      have hzA : Hid ((w4.drew.alloc (.cells Z32 23)).heap.size = w4.heap.size + 1) := by show _ = _; simp
      replace bA : Hid (Blk ((w4.drew.alloc (.cells Z32 23)).alloc (.cells Z32 23)) w4.heap.size 23 Z32) := bA.out.alloc _
      replace bB : Hid (Blk ((w4.drew.alloc (.cells Z32 23)).alloc (.cells Z32 23)) (w4.heap.size + 1) 23 Z32) := by have := bB.out; rw [hzA.out] at this; exact this
      refine held_only (i := 4) rfl (by kernel_rfl) (by rfl) (fun K hK => ?_)
      refine wp_store_whole 23 (.tmp 16) (.tmp 29) rfl (w4.heap.size) ((cells8 root).toArray) rfl rfl 23 Z32 bA.out Fr.out.size Fr.out.zero Fr.out.one ?_
      intro w7 q7 k7
      have h7 : Hid (Below w4.heap.size w4 w7) := h6.out.trans (Kept.below_of k7 (by omega) h6.out.size)
      have o7 : Hid (Blk w7 (w4.heap.size + 1) 23 Z32) := bB.out.kept k7 (by omega)
      go_simp
      refine hK _ _ h7.out ?_
      clear hK K
      refine held_only (i := 5) rfl (by kernel_rfl) (by rfl) (fun K hK => ?_)
      refine wp_store_whole 23 (.tmp 17) (.tmp 30) rfl (w4.heap.size + 1) ((cells8 root).toArray) rfl rfl 23 Z32 o7.out Fr.out.size Fr.out.zero Fr.out.one ?_
      intro w8 q8 k8
      have h8 : Hid (Below w4.heap.size w4 w8) := h7.out.trans (Kept.below_of k8 (by omega) h7.out.size)
      have o8 : Hid (Blk w8 (w4.heap.size) 23 (cells8 root).toArray) := q7.kept k8 (by omega)
      go_simp
      refine hK _ _ h8.out ?_
      clear hK K
      refine held_take (i := 6) (v := .int .i64 0) rfl (by kernel_rfl) (by kernel_rfl) (by kernel_rfl) (fun _ _ _ h => h) h8.out (by rfl) (fun w' hw' => by first | go_simp | rfl) ?_
      (intro K hK; go_simp; refine hK _ ?_; clear hK K)
      refine held_end (by kernel_rfl) ?_
      go_wp2_with fail
      go_meet
      case rel => exact ⟨w4.heap.size, w4.heap.size + 1, rfl, rfl, rfl, (by show _ ≠ _; omega), (by show _ ≤ _; omega), (by show _ ≤ _; omega), o8.out, q8, h8.out⟩
    · have h5 : Hid (Below w4.heap.size w4 (w4.drew.alloc (.cells Z32 23))) := s0.out.alloc s0.out.size _
      have bA : Hid (Blk (w4.drew.alloc (.cells Z32 23)) w4.drew.heap.size 23 Z32) := Blk.new _ _ _
      go_simp
      refine hK _ _ h5.out ?_
      clear hK K
      refine held_only (i := 2) rfl (by kernel_rfl) (by rfl) (fun K hK => ?_)
      have h6 : Hid (Below w4.heap.size w4 ((w4.drew.alloc (.cells Z32 23)).alloc (.cells Z32 23))) := h5.out.alloc h5.out.size _
      have bB : Hid (Blk ((w4.drew.alloc (.cells Z32 23)).alloc (.cells Z32 23)) (w4.drew.alloc (.cells Z32 23)).heap.size 23 Z32) := Blk.new _ _ _
      go_simp
      refine hK _ _ h6.out ?_
      clear hK K
      have hzA : Hid ((w4.drew.alloc (.cells Z32 23)).heap.size = w4.heap.size + 1) := by show _ = _; simp
      replace bA : Hid (Blk ((w4.drew.alloc (.cells Z32 23)).alloc (.cells Z32 23)) w4.heap.size 23 Z32) := bA.out.alloc _
      replace bB : Hid (Blk ((w4.drew.alloc (.cells Z32 23)).alloc (.cells Z32 23)) (w4.heap.size + 1) 23 Z32) := by have := bB.out; rw [hzA.out] at this; exact this
      refine held_only (i := 4) rfl (by kernel_rfl) (by rfl) (fun K hK => ?_)
      refine wp_store_whole 23 (.tmp 16) (.tmp 29) rfl (w4.heap.size + 1) ((cells8 root).toArray) rfl rfl 23 Z32 bB.out Fr.out.size Fr.out.zero Fr.out.one ?_
      intro w7 q7 k7
      have h7 : Hid (Below w4.heap.size w4 w7) := h6.out.trans (Kept.below_of k7 (by omega) h6.out.size)
      have o7 : Hid (Blk w7 (w4.heap.size) 23 Z32) := bA.out.kept k7 (by omega)
      go_simp
      refine hK _ _ h7.out ?_
      clear hK K
      refine held_only (i := 5) rfl (by kernel_rfl) (by rfl) (fun K hK => ?_)
      refine wp_store_whole 23 (.tmp 17) (.tmp 30) rfl (w4.heap.size) ((cells8 root).toArray) rfl rfl 23 Z32 o7.out Fr.out.size Fr.out.zero Fr.out.one ?_
      intro w8 q8 k8
      have h8 : Hid (Below w4.heap.size w4 w8) := h7.out.trans (Kept.below_of k8 (by omega) h7.out.size)
      have o8 : Hid (Blk w8 (w4.heap.size + 1) 23 (cells8 root).toArray) := q7.kept k8 (by omega)
      go_simp
      refine hK _ _ h8.out ?_
      clear hK K
      refine held_take (i := 6) (v := .int .i64 0) rfl (by kernel_rfl) (by kernel_rfl) (by kernel_rfl) (fun _ _ _ h => h) h8.out (by rfl) (fun w' hw' => by first | go_simp | rfl) ?_
      (intro K hK; go_simp; refine hK _ ?_; clear hK K)
      refine held_end (by kernel_rfl) ?_
      go_wp2_with fail
      go_meet
      case rel => exact ⟨w4.heap.size + 1, w4.heap.size, rfl, rfl, rfl, (by show _ ≠ _; omega), (by show _ ≤ _; omega), (by show _ ≤ _; omega), o8.out, q8, h8.out⟩
  case rest =>
    obtain ⟨m16, m17, rfl, rfl, rfl, hne, hl16, hl17, hM16, hM17, hk5⟩ := hcut
    obtain ⟨w5, rfl⟩ : ∃ w5 : World, w5 = wc := ⟨_, rfl⟩
    have b1 : (0 : Int) ≤ (old : Int) := by omega
    have b2 : (old : Int) ≤ 1099511627776 := by have := hob.out; omega
    have b3 : (1 : Int) ≤ (old : Int) := by have := hob.out; omega
    obtain ⟨an, han⟩ : ∃ an, old &&& (old - 1) = an := ⟨_, rfl⟩
    rw [han] at hai hpw
    replace hpw := Lib.hid hpw
    clear han
    go_upto_if 35 with fail
    clear b1 b2 b3
    try clear hai
    go_cut [18] from 31 to 41 (fun v wr => v = .int .i64 (low : Int) ∧ Hid (Blk wr m16 23 (cells8 x0).toArray) ∧ Hid (Blk wr m17 23 (cells8 x0).toArray) ∧ Hid (Kept (fun k => k = m16 ∨ k = m17) w5 wr))
    case first =>
      by_cases hp : powB old = true
      · have hand := hpw.2 hp
        have hl0 : low = 0 := by rw [← hlw.out]; unfold lowOf; rw [if_pos hp]
        have hxr : root = x0 := by rw [← hx0h.out, if_pos hp]
        subst hl0 hxr
        clear hp hpw
        go_wp2_with fail
        go_meet
        case rel => exact ⟨rfl, hM16.out, hM17.out, Kept.refl _ _⟩
      · have hand : ¬ an = 0 := fun e => hp (hpw.out.1 e)
        have ha1 : ((an : Int) == 0) = false := beq_eq_false_iff_ne.2 (by omega)
        have hl0 : low = 1 := by rw [← hlw.out]; unfold lowOf; rw [if_neg hp]
        have hxd : d0 = x0 := by
          have h := hx0h.out
          rw [if_neg hp] at h
          rw [← h]
          simp [List.getD, hd0h.out]
        subst hl0 hxd
        have hn1 : (0 : Int) < (n : Int) := by have := hlow.out; omega
        obtain ⟨b, o, rfl, hbb, hdc0⟩ := hr.out.at_ hd0h.out
        have hbw5 : Hid (Below w.heap.size w w5) := (hb3.out.trans (hb4.out.mono hb3.out.size)).trans (hk5.out.mono (by have := hb3.out.size; have := hb4.out.size; omega))
        have hdc : Hid (∀ w', Below w5.heap.size w5 w' → ∀ k v, (cells8 d0)[k]? = some v → w'.cell? ⟨b, o + k, none⟩ = some v) := fun w' hb k v hv => by
          have := ((hbw5.out.trans (hb.mono hbw5.out.size)).cell (p := ⟨b, o + 0 * 32 + k, none⟩) hbb).trans (hdc0 k v hv)
          simpa using this
        have hbbh := Lib.hid hbb
        have hn0 : ¬ n = 0 := by omega
        clear hp hpw hdc0 hbb
        go_wp2_with fail
        have hbq : Hid (b < w.heap.size) := hbbh.out
        have hdk : Hid (∀ w', Kept (fun k => k = m16 ∨ k = m17) w5 w' → ∀ k v, (cells8 d0)[k]? = some v → w'.cell? ⟨b, o + k, none⟩ = some v) := fun w' hk k v hv => (hk.cell (p := ⟨b, o + k, none⟩) (by have := hbq.out; have := hbw5.out.size; show b < _; omega) (fun h => by have := hbq.out; have := hl16.out; have := hl17.out; have := hb3.out.size; have := hb4.out.size; rcases h with h | h <;> (have h : b = _ := h; omega))).trans (hdc.out w5 (Below.refl _ _) k v hv)
        have s0 : Hid (Kept (fun k => k = m16 ∨ k = m17) w5 w5.drew) := (Kept.refl _ _).drew
        refine held_start (fun w' => Kept (fun k => k = m16 ∨ k = m17) w5 w') 9 rfl (by kernel_rfl) ?_
        refine held_take (i := 0) (v := .slice (some ⟨b, o, none⟩) n c) rfl (by kernel_rfl) (by kernel_rfl) (by kernel_rfl) (fun _ _ _ h => h) s0.out (by rfl) (fun w' hw' => run_mv (.tmp 4) rfl w') ?_
        (intro K hK; go_simp; refine hK _ ?_; clear hK K)
        refine held_take (i := 1) (v := .pointer (some ⟨b, o, none⟩)) rfl (by kernel_rfl) (by kernel_rfl) (by kernel_rfl) (fun _ _ _ h => h) s0.out (by rfl) (fun w' hw' => by go_simp) ?_
        (intro K hK; go_simp; refine hK _ ?_; clear hK K)
        refine held_take (i := 2) (v := .agg (cells8 d0).toArray) rfl (by kernel_rfl) (by kernel_rfl) (by kernel_rfl) (fun _ _ _ h => h) s0.out (by rfl) (fun w' hw' => exec_part 23 (.tmp 37) rfl (b) (o) rfl (cells8 d0) _ (hdk.out w' hw') Tryd.underlying23 rfl Fx.out.part) ?_
        (intro K hK; go_simp; refine hK _ ?_; clear hK K)
        refine held_take (i := 3) (v := .slice (some ⟨b, o, none⟩) n c) rfl (by kernel_rfl) (by kernel_rfl) (by kernel_rfl) (fun _ _ _ h => h) s0.out (by rfl) (fun w' hw' => run_mv (.tmp 4) rfl w') ?_
        (intro K hK; go_simp; refine hK _ ?_; clear hK K)
        refine held_take (i := 4) (v := .pointer (some ⟨b, o, none⟩)) rfl (by kernel_rfl) (by kernel_rfl) (by kernel_rfl) (fun _ _ _ h => h) s0.out (by rfl) (fun w' hw' => by go_simp) ?_
        (intro K hK; go_simp; refine hK _ ?_; clear hK K)
        refine held_take (i := 5) (v := .agg (cells8 d0).toArray) rfl (by kernel_rfl) (by kernel_rfl) (by kernel_rfl) (fun _ _ _ h => h) s0.out (by rfl) (fun w' hw' => exec_part 23 (.tmp 40) rfl (b) (o) rfl (cells8 d0) _ (hdk.out w' hw') Tryd.underlying23 rfl Fx.out.part) ?_
        (intro K hK; go_simp; refine hK _ ?_; clear hK K)
        refine held_only (i := 6) rfl (by kernel_rfl) (by rfl) (fun K hK => ?_)
        refine wp_store_whole 23 (.tmp 16) (.tmp 38) rfl (m16) ((cells8 d0).toArray) rfl rfl 23 (cells8 root).toArray hM16.out Fx.out.size (Fx.out.same root (by have := Fr.out.part; rw [← cells8_len]; have h2 := size31; rw [h2] at this; simpa using this.symm)) Fx.out.one ?_
        intro w7 q7 k7
        have h7 : Hid (Kept (fun k => k = m16 ∨ k = m17) w5 w7) := s0.out.trans k7 (fun i _ h => .inl h)
        have o7 : Hid (Blk w7 m17 23 (cells8 root).toArray) := Blk.kept (w := w5.drew) hM17.out k7 (fun h => hne.out (Eq.symm h))
        go_simp
        refine hK _ _ h7.out ?_
        clear hK K
        refine held_only (i := 7) rfl (by kernel_rfl) (by rfl) (fun K hK => ?_)
        refine wp_store_whole 23 (.tmp 17) (.tmp 41) rfl (m17) ((cells8 d0).toArray) rfl rfl 23 (cells8 root).toArray o7.out Fx.out.size (Fx.out.same root (by have := Fr.out.part; rw [← cells8_len]; have h2 := size31; rw [h2] at this; simpa using this.symm)) Fx.out.one ?_
        intro w8 q8 k8
        have h8 : Hid (Kept (fun k => k = m16 ∨ k = m17) w5 w8) := h7.out.trans k8 (fun i _ h => .inr h)
        have o8 : Hid (Blk w8 m16 23 (cells8 d0).toArray) := q7.kept k8 (fun h => hne.out h)
        go_simp
        refine hK _ _ h8.out ?_
        clear hK K
        refine held_take (i := 8) (v := .int .i64 1) rfl (by kernel_rfl) (by kernel_rfl) (by kernel_rfl) (fun _ _ _ h => h) h8.out (by rfl) (fun w' hw' => by first | go_simp | rfl) ?_
        (intro K hK; go_simp; refine hK _ ?_; clear hK K)
        refine held_end (by kernel_rfl) ?_
        go_wp2_with fail
        go_meet
        case rel => exact ⟨rfl, o8.out, q8, h8.out⟩
    case rest =>
      obtain ⟨rfl, hX16, hX17, hk6⟩ := hcut
      clear hpw hM16 hM17 hd0h hx0h hR4
      have hb6 : Hid (Below w3.heap.size w3 wc) := Kept.toBelow (hb4.out.trans (hk5.out.mono hb4.out.size)) hk6.out (fun k h => by have := hl16.out; have := hl17.out; have := hs4.out; rcases h with h | h <;> omega) (by have := hb4.out.size; have := hk5.out.size; omega)
      have hW6 : Hid (Blk wc w3.heap.size 256 #[.int .i64 s, .slice none 0 0]) := Blk.kept (w := w5) (show Blk w5 _ _ _ from (hk5.out.block _ hW4.out.lt).trans hW4.out) hk6.out (fun h => by have := hl16.out; have := hl17.out; have := hs4.out; rcases h with h | h <;> omega)
      have hI6 : Hid (Blk wc (w3.heap.size + 1) 256 #[.int .i64 s, .slice none 0 0]) := Blk.kept (w := w5) (show Blk w5 _ _ _ from (hk5.out.block _ hI4.out.lt).trans hI4.out) hk6.out (fun h => by have := hl16.out; have := hl17.out; have := hs4.out; rcases h with h | h <;> omega)
      have hlt : Hid (w3.heap.size < wc.heap.size ∧ w3.heap.size + 1 < wc.heap.size ∧ m16 < wc.heap.size ∧ m17 < wc.heap.size) := ⟨hW6.out.lt, hI6.out.lt, hX16.out.lt, hX17.out.lt⟩
      have hA0 : Hid (AhAt wc wc w3.heap.size (w3.heap.size + 1) none none m16 m17 s (aheadS s x0 low P low).fr (aheadS s x0 low P low).sr (aheadS s x0 low P low).ft (aheadS s x0 low P low).st) := by
        show AhAt _ _ _ _ _ _ _ _ _ _ _ _ _
        rw [aheadS_low]
        have e1 : ClAt wc w3.heap.size none s [] := ⟨_, [], hW6.out, World.ownsRow_nil _ _ _ _, rfl, (fun k e => by cases e), fun i q h => by simp at h⟩
        have e2 : ClAt wc (w3.heap.size + 1) none s [] := ⟨_, [], hI6.out, World.ownsRow_nil _ _ _ _, rfl, (fun k e => by cases e), fun i q h => by simp at h⟩
        exact ⟨hX16.out, hX17.out, e1, e2, (fun k e => by cases e), (fun k e => by cases e), (fun k e => by cases e), fun _ => rfl, fun _ => rfl, Kept.refl _ _⟩
      have hdis : Hid (w3.heap.size ≠ m16 ∧ w3.heap.size ≠ m17 ∧ w3.heap.size + 1 ≠ m16 ∧ w3.heap.size + 1 ≠ m17 ∧ m16 ≠ m17 ∧ w3.heap.size ≤ m16 ∧ w3.heap.size ≤ m17) := by have := hl16.out; have := hl17.out; have := hs4.out; have := hne.out; show _ ∧ _; omega
      obtain ⟨w6, rfl⟩ : ∃ w6 : World, w6 = wc := ⟨_, rfl⟩
      clear hW4 hI4 hW6 hI6 hX16 hX17 hk5 hk6 hl16 hl17 hne hs4 hb4
      go_wp2_with fail
      go_loopw [19] (fun v wr => ∃ (j : Nat) (r1 r2 : Option Nat), v = .int .i64 (j : Int) ∧ Hid (low ≤ j ∧ j ≤ n) ∧ Hid (AhAt w6 wr w3.heap.size (w3.heap.size + 1) r1 r2 m16 m17 s (aheadS s x0 low P j).fr (aheadS s x0 low P j).sr (aheadS s x0 low P j).ft (aheadS s x0 low P j).st)) (fun v _ => (n - intOf v).toNat)
      case atStart => exact ⟨low, none, none, rfl, ⟨Nat.le_refl _, by have := hlow.out; omega⟩, hA0.out⟩
      case round =>
        clear hA0
        obtain ⟨j, r1, r2, rfl, hj, hI⟩ := hrel
        have hbw : Hid (Below w3.heap.size w3 wr) := Kept.toBelow hb6.out hI.out.kept (fun k h => by have := hdis.out; rcases h with h | h | h | h <;> omega) hb6.out.size
        have hbW : Hid (Below w.heap.size w wr) := hb3.out.trans (hbw.out.mono hb3.out.size)
        have hZok := Lib.hid (hok.out j hj.out.1 hj.out.2)
        by_cases hlt2 : j < n
        · obtain ⟨p, hp⟩ : ∃ p, ps[j]? = some p := ⟨_, List.getElem?_eq_getElem (by rw [hn.out]; exact hlt2)⟩
          obtain ⟨d, hd⟩ : ∃ d, ds[j]? = some d := ⟨_, List.getElem?_eq_getElem (by rw [hr.out.1]; exact hlt2)⟩
          have hst := Lib.hid (aheadS_succ (s := s) (x := x0) hj.out.1 (hPj.out j p d hp hd))
          have hZok2 := Lib.hid (hok.out (j + 1) (by have := hj.out.1; omega) hlt2)
          have hdl := Lib.hid (hr.out.2.1.at_ hd)
          have Fd := Lib.hid (fit (x := d) hdl.out)
          obtain ⟨Z, hZe⟩ : ∃ Z, Hid (aheadS s x0 low P j = Z) := ⟨_, Lib.hid rfl⟩
          obtain ⟨Y, hYe⟩ : ∃ Y, Hid (aheadS s x0 low P (j + 1) = Y) := ⟨_, Lib.hid rfl⟩
          rw [hZe.out] at hI hst hZok
          rw [hYe.out] at hst hZok2
          obtain ⟨bp, op, rfl, hbp, hpc0⟩ := hPr.out.at_ (by omega)
          have hpc : wr.cell? ⟨bp, op + j * 2, none⟩ = some (.int .i64 (p.1 : Int)) := by
            have h1 := flatP_at ps [] j p hp 0 (.int .i64 (p.1 : Int)) rfl
            rw [List.append_nil, List.getElem?_toArray] at h1
            have h2 := hpc0 _ _ h1
            rw [Nat.add_zero] at h2
            exact (hbw.out.cell (p := ⟨bp, op + j * 2, none⟩) hbp).trans h2
          obtain ⟨b, o, rfl, hbb, hdc0⟩ := hr.out.at_ hd
          have hdc : Hid (∀ w', Below w.heap.size w w' → ∀ k v, (cells8 d)[k]? = some v → w'.cell? ⟨b, o + j * 32 + k, none⟩ = some v) := fun w' hb k v hv => (hb.cell (p := ⟨b, o + j * 32 + k, none⟩) hbb).trans (hdc0 k v hv)
          have hjn : Hid (j + 1 ≤ n) := hlt2
          have z1 : (0 : Int) ≤ (j : Int) := by omega
          have z2 : (j : Int) < (n : Int) := by omega
          have z3 : (n : Int) ≤ 41 := by have := hn41.out; omega
          have Fa := Lib.hid (fit (x := Z.fr) hZok.out.fl)
          have Fb := Lib.hid (fit (x := Z.sr) hZok.out.sl)
          clear hlt2 hp hd hpc0 hdc0 hbb hbp
          by_cases hside : old ≤ p.1
          · have hY : Hid (Y = ⟨Z.fr, ndOf s Z.sr d, Z.ft, Z.st ++ [kb 1 :: (Z.sr ++ d)]⟩) := by show _ = _; rw [hst.out, ahead1, if_pos (by simp [bh, hside])]
            obtain ⟨zb, hzb⟩ : ∃ z, Hid (ndOf s Z.sr d = z) := ⟨_, Lib.hid rfl⟩
            have Fzb := Lib.hid (fit (x := zb) (by rw [← hzb.out]; exact ndOf_len s _ _))
            rw [hzb.out] at hY
            have hq65 : Hid (∀ q ∈ Z.st ++ [kb 1 :: (Z.sr ++ d)], q.length = 65) := by have := hZok2.out.st; rw [hY.out] at this; exact this
            have zt : (old : Int) ≤ (p.1 : Int) := by omega
            clear hside hst
            go_wp2_with fail
            refine wp_region_class_tail 6 (Class wr) (by kernel_rfl) (by kernel_rfl) (Class.mk_ ((Below.refl _ _).drew)) ?_
            refine wpQuiet_move rfl (.tmp 15) rfl ?_
            (intro K hK; go_simp; refine hK _ ?_; clear hK K)
            refine wpQuiet_load_row rfl 23 (.tmp 17) rfl m17 rfl 23 ((cells8 Z.sr).toArray) (0, 0) _ (fun w' hw' => (hw'.below.block _ hI.out.lf2.lt).trans hI.out.lf2) Tryd.underlying23 rfl Fb.out.size ?_
            (intro K hK; go_simp; refine hK _ ?_; clear hK K)
            refine wpQuiet_move rfl (.tmp 4) rfl ?_
            (intro K hK; go_simp; refine hK _ ?_; clear hK K)
            refine wpQuiet_move rfl (.tmp 19) rfl ?_
            (intro K hK; go_simp; refine hK _ ?_; clear hK K)
            refine wpQuiet_val (v := .pointer (some ⟨b, o + j * 32, none⟩)) rfl (fun w' hw' => by go_simp) ?_
            (intro K hK; go_simp; refine hK _ ?_; clear hK K)
            refine wpQuiet_load_part rfl 23 (.tmp 60) rfl b (o + j * 32) rfl (cells8 d) _ (fun w' hw' => hdc.out w' (hbW.out.trans (hw'.below.mono hbW.out.size))) Tryd.underlying23 rfl Fd.out.part ?_
            (intro K hK; go_simp; refine hK _ ?_; clear hK K)
            refine wpQuiet_nil ?_
            intro u7 hu7
            have hbu7 : Hid (Below w.heap.size w u7) := hbW.out.trans (hu7.below.mono hbW.out.size)
            simp only [List.drop]
            go_wp2_with fail
            refine (node_walk (w3.heap.size + 1) r2 s Z.st Z.sr d hZok.out.sl hdl.out u7 (hBs.out _ hbu7.out) (by have := hgb.out; have := hs3.out; omega) (ClAtM.kept hI.out.cl2 (Kept.of_below hu7.below) (fun h => h) (fun _ _ h => h)) (by have := hZok.out.sk; have := hn41.out; have := hjn.out; omega)).mono ?_
            rw [hzb.out]
            rintro e y7 ⟨rfl, hC7⟩
            obtain ⟨hB7, rn7, hN7⟩ := AhAt.step (z := zb) hI.out.swap hu7.below hC7 hq65.out hZok.out.ft hZok.out.sl (by omega) hdis.out.2.2.2.1 hdis.out.2.2.1 hdis.out.2.1 (fun e => hdis.out.2.2.2.2.1 e.symm) ⟨hlt.out.2.1, hlt.out.1, hlt.out.2.2.2, hlt.out.2.2.1⟩
            replace hB7 := Lib.hid hB7
            replace hN7 := Lib.hid hN7.swap
            have hq7 := Lib.hid (Fzb.out.same Z.sr hZok.out.sl)
            clear hC7
            go_wp2_with ((with_reducible change wpList _ _ _ ({ dst := none, op := Op.store 23 _ _, type := _, pos := _, after := _, guard := _ } :: _) _ _); refine wpList_store_row (o := ⟨none, _, _, _, _, _⟩) rfl 23 (.tmp 17) (.tmp 62) rfl (m17) ((cells8 zb).toArray) rfl rfl 23 ((cells8 Z.sr).toArray) hB7.out Fzb.out.size hq7.out Fzb.out.one ?_)
            go_roundw
            case rel => exact ⟨j + 1, r1, rn7, by go_num, ⟨by have := hj.out.1; omega, hjn.out⟩, (by show AhAt _ _ _ _ _ _ _ _ _ _ _ _ _; rw [hYe.out, hY.out]; exact hN7.out)⟩
            case measure => (have := hjn.out; simp [intOf]; omega)
          · have hY : Hid (Y = ⟨ndOf s d Z.fr, ndOf s d Z.sr, Z.ft ++ [kb 1 :: (d ++ Z.fr)], Z.st ++ [kb 1 :: (d ++ Z.sr)]⟩) := by show _ = _; rw [hst.out, ahead1, if_neg (by simp [bh]; omega)]
            obtain ⟨za, hza⟩ : ∃ z, Hid (ndOf s d Z.fr = z) := ⟨_, Lib.hid rfl⟩
            have Fza := Lib.hid (fit (x := za) (by rw [← hza.out]; exact ndOf_len s _ _))
            obtain ⟨zb, hzb⟩ : ∃ z, Hid (ndOf s d Z.sr = z) := ⟨_, Lib.hid rfl⟩
            have Fzb := Lib.hid (fit (x := zb) (by rw [← hzb.out]; exact ndOf_len s _ _))
            have hzal : Hid (za.length = 32) := by show _ = _; rw [← hza.out]; exact ndOf_len s _ _
            rw [hza.out, hzb.out] at hY
            have hq65 : Hid (∀ q ∈ Z.st ++ [kb 1 :: (d ++ Z.sr)], q.length = 65) := by have := hZok2.out.st; rw [hY.out] at this; exact this
            have hf65 : Hid (∀ q ∈ Z.ft ++ [kb 1 :: (d ++ Z.fr)], q.length = 65) := by have := hZok2.out.ft; rw [hY.out] at this; exact this
            have zt : ¬ ((old : Int) ≤ (p.1 : Int)) := by omega
            clear hside hst
            go_wp2_with fail
            refine wp_region_class_tail 6 (Class wr) (by kernel_rfl) (by kernel_rfl) (Class.mk_ ((Below.refl _ _).drew)) ?_
            refine wpQuiet_move rfl (.tmp 14) rfl ?_
            (intro K hK; go_simp; refine hK _ ?_; clear hK K)
            refine wpQuiet_move rfl (.tmp 4) rfl ?_
            (intro K hK; go_simp; refine hK _ ?_; clear hK K)
            refine wpQuiet_move rfl (.tmp 19) rfl ?_
            (intro K hK; go_simp; refine hK _ ?_; clear hK K)
            refine wpQuiet_val (v := .pointer (some ⟨b, o + j * 32, none⟩)) rfl (fun w' hw' => by go_simp) ?_
            (intro K hK; go_simp; refine hK _ ?_; clear hK K)
            refine wpQuiet_load_part rfl 23 (.tmp 66) rfl b (o + j * 32) rfl (cells8 d) _ (fun w' hw' => hdc.out w' (hbW.out.trans (hw'.below.mono hbW.out.size))) Tryd.underlying23 rfl Fd.out.part ?_
            (intro K hK; go_simp; refine hK _ ?_; clear hK K)
            refine wpQuiet_load_row rfl 23 (.tmp 16) rfl m16 rfl 23 ((cells8 Z.fr).toArray) (0, 0) _ (fun w' hw' => (hw'.below.block _ hI.out.lf1.lt).trans hI.out.lf1) Tryd.underlying23 rfl Fa.out.size ?_
            (intro K hK; go_simp; refine hK _ ?_; clear hK K)
            refine wpQuiet_nil ?_
            intro u7 hu7
            have hbu7 : Hid (Below w.heap.size w u7) := hbW.out.trans (hu7.below.mono hbW.out.size)
            simp only [List.drop]
            go_wp2_with fail
            refine (node_walk w3.heap.size r1 s Z.ft d Z.fr hdl.out hZok.out.fl u7 (hBs.out _ hbu7.out) (by have := hgb.out; have := hs3.out; omega) (ClAtM.kept hI.out.cl1 (Kept.of_below hu7.below) (fun h => h) (fun _ _ h => h)) (by have := hZok.out.fk; have := hn41.out; have := hjn.out; omega)).mono ?_
            rw [hza.out]
            rintro e y7 ⟨rfl, hC7⟩
            obtain ⟨hB7, rn7, hN7⟩ := AhAt.step (z := za) hI.out hu7.below hC7 hf65.out hZok.out.st hZok.out.fl (by omega) hdis.out.1 hdis.out.2.1 hdis.out.2.2.1 hdis.out.2.2.2.2.1 hlt.out
            replace hB7 := Lib.hid hB7
            replace hN7 := Lib.hid hN7
            have hq7 := Lib.hid (Fza.out.same Z.fr hZok.out.fl)
            clear hC7
            go_wp2_with ((with_reducible change wpList _ _ _ ({ dst := none, op := Op.store 23 _ _, type := _, pos := _, after := _, guard := _ } :: _) _ _); refine wpList_store_row (o := ⟨none, _, _, _, _, _⟩) rfl 23 (.tmp 16) (.tmp 69) rfl (m16) ((cells8 za).toArray) rfl rfl 23 ((cells8 Z.fr).toArray) hB7.out Fza.out.size hq7.out Fza.out.one ?_)
            generalize y7.setRow m16 (cells8 za).toArray = y8 at *
            have hbw8 : Hid (Below w3.heap.size w3 y8) := Kept.toBelow hb6.out hN7.out.kept (fun k h => by have := hdis.out; rcases h with h | h | h | h <;> omega) hb6.out.size
            have hbW8 : Hid (Below w.heap.size w y8) := hb3.out.trans (hbw8.out.mono hb3.out.size)
            clear hB7 hq7 hI hbw hbW hu7 hbu7
            refine wp_region_class_tail 6 (Class y8) (by kernel_rfl) (by kernel_rfl) (Class.mk_ ((Below.refl _ _).drew)) ?_
            refine wpQuiet_move rfl (.tmp 15) rfl ?_
            (intro K hK; go_simp; refine hK _ ?_; clear hK K)
            refine wpQuiet_move rfl (.tmp 4) rfl ?_
            (intro K hK; go_simp; refine hK _ ?_; clear hK K)
            refine wpQuiet_move rfl (.tmp 19) rfl ?_
            (intro K hK; go_simp; refine hK _ ?_; clear hK K)
            refine wpQuiet_val (v := .pointer (some ⟨b, o + j * 32, none⟩)) rfl (fun w' hw' => by go_simp) ?_
            (intro K hK; go_simp; refine hK _ ?_; clear hK K)
            refine wpQuiet_load_part rfl 23 (.tmp 73) rfl b (o + j * 32) rfl (cells8 d) _ (fun w' hw' => hdc.out w' (hbW8.out.trans (hw'.below.mono hbW8.out.size))) Tryd.underlying23 rfl Fd.out.part ?_
            (intro K hK; go_simp; refine hK _ ?_; clear hK K)
            refine wpQuiet_load_row rfl 23 (.tmp 17) rfl m17 rfl 23 ((cells8 Z.sr).toArray) (0, 0) _ (fun w' hw' => (hw'.below.block _ hN7.out.lf2.lt).trans hN7.out.lf2) Tryd.underlying23 rfl Fb.out.size ?_
            (intro K hK; go_simp; refine hK _ ?_; clear hK K)
            refine wpQuiet_nil ?_
            intro u9 hu9
            have hbu9 : Hid (Below w.heap.size w u9) := hbW8.out.trans (hu9.below.mono hbW8.out.size)
            simp only [List.drop]
            go_wp2_with fail
            refine (node_walk (w3.heap.size + 1) r2 s Z.st d Z.sr hdl.out hZok.out.sl u9 (hBs.out _ hbu9.out) (by have := hgb.out; have := hs3.out; omega) (ClAtM.kept hN7.out.cl2 (Kept.of_below hu9.below) (fun h => h) (fun _ _ h => h)) (by have := hZok.out.sk; have := hn41.out; have := hjn.out; omega)).mono ?_
            rw [hzb.out]
            rintro e y9 ⟨rfl, hC9⟩
            obtain ⟨hB9, rn9, hN9⟩ := AhAt.step (z := zb) hN7.out.swap hu9.below hC9 hq65.out hf65.out hZok.out.sl (by omega) hdis.out.2.2.2.1 hdis.out.2.2.1 hdis.out.2.1 (fun e => hdis.out.2.2.2.2.1 e.symm) ⟨hlt.out.2.1, hlt.out.1, hlt.out.2.2.2, hlt.out.2.2.1⟩
            replace hB9 := Lib.hid hB9
            replace hN9 := Lib.hid hN9.swap
            have hq9 := Lib.hid (Fzb.out.same Z.sr hZok.out.sl)
            clear hC9
            go_wp2_with ((with_reducible change wpList _ _ _ ({ dst := none, op := Op.store 23 _ _, type := _, pos := _, after := _, guard := _ } :: _) _ _); refine wpList_store_row (o := ⟨none, _, _, _, _, _⟩) rfl 23 (.tmp 17) (.tmp 76) rfl (m17) ((cells8 zb).toArray) rfl rfl 23 ((cells8 Z.sr).toArray) hB9.out Fzb.out.size hq9.out Fzb.out.one ?_)
            go_roundw
            case rel => exact ⟨j + 1, rn7, rn9, by go_num, ⟨by have := hj.out.1; omega, hjn.out⟩, (by show AhAt _ _ _ _ _ _ _ _ _ _ _ _ _; rw [hYe.out, hY.out]; exact hN9.out)⟩
            case measure => (have := hjn.out; simp [intOf]; omega)
        · obtain rfl : j = n := by have := hj.out; omega
          have z2 : ¬ ((j : Int) < (j : Int)) := by omega
          obtain ⟨Z, hZe⟩ : ∃ Z, aheadS s x0 low P j = Z := ⟨_, rfl⟩
          rw [hZe] at hI hZok ⊢
          have Fa := Lib.hid (fit (x := Z.fr) hZok.out.fl)
          have Fb := Lib.hid (fit (x := Z.sr) hZok.out.sl)
          have hAr : Hid (Blk wr (w.heap.size + 1) 23 Z32) := (hbw.out.block _ hA3.out.lt).trans hA3.out
          have hEr : Hid (Blk wr (w.heap.size + 2) 23 Z32) := (hbw.out.block _ hE3.out.lt).trans hE3.out
          obtain ⟨v1, xs1, cb1, co1, cv1, cn1, cx1⟩ := hI.out.cl1
          obtain ⟨v2, xs2, cb2, co2, cv2, cn2, cx2⟩ := hI.out.cl2
          obtain ⟨A1, c1, rfl, -⟩ := Append.Own.reads co1
          obtain ⟨A2, c2, rfl, -, -, hnil2, hrd2, -⟩ := Append.Own.reads co2
          obtain ⟨S, hS⟩ : ∃ S : Nat → Prop, Hid (S = fun k => some k = r1 ∨ k = w.heap.size + 1 ∨ k = w.heap.size + 2) := ⟨_, rfl⟩
          have hr1 : Hid (∀ k, some k = r1 → w6.heap.size ≤ k) := fun k e => hI.out.n1 k e.symm
          have hw6s : Hid (w.heap.size + 3 ≤ w6.heap.size) := by have := hs3.out; have := hb6.out.size; show _ ≤ _; omega
          have hSf : Hid (∀ g, S g → (∃ t cs, Blk wr g t cs ∧ cs.size < 65) ∨ (∃ u, wr.cell? ⟨g, 0, none⟩ = some u ∧ ∀ n, u ≠ .int .u8 n)) := fun g hg => by
            rw [hS.out] at hg
            rcases hg with hg | rfl | rfl
            · exact .inr (ClAt.front hI.out.cl1 hI.out.e1 g (.inr hg))
            · exact .inl ⟨_, _, hAr.out, by simp [Z32]⟩
            · exact .inl ⟨_, _, hEr.out, by simp [Z32]⟩
          have hnS : Hid (∀ k, w.heap.size + 3 ≤ k → k < w6.heap.size → ¬ S k) := fun k h1 h2 h => by
            rw [hS.out] at h
            rcases h with h | h | h
            · have := hr1.out k h; omega
            · omega
            · omega
          have hx65 := Lib.hid (And.intro hZok.out.ft hZok.out.st)
          obtain ⟨n1, hn1⟩ : ∃ n1, Z.ft.length = n1 := ⟨_, rfl⟩
          obtain ⟨n2, hn2⟩ : ∃ n2, Z.st.length = n2 := ⟨_, rfl⟩
          have hk1 : Hid (n1 ≤ 41 ∧ n2 ≤ 41) := by have := hZok.out.fk; have := hZok.out.sk; have := hn41.out; show _ ∧ _; omega
          rw [hn1] at co1
          rw [hn2] at co2 hrd2 hnil2
          have hn1h := Lib.hid hn1
          have hn2h := Lib.hid hn2
          have hL1 : Hid (∀ w', Kept S wr w' → Blk w' m16 23 (cells8 Z.fr).toArray) := fun w' h => hI.out.lf1.kept h (hnS.out m16 (by have := hdis.out; have := hs3.out; omega) hlt.out.2.2.1)
          have hL2 : Hid (∀ w', Kept S wr w' → Blk w' m17 23 (cells8 Z.sr).toArray) := fun w' h => hI.out.lf2.kept h (hnS.out m17 (by have := hdis.out; have := hs3.out; omega) hlt.out.2.2.2)
          have hL3 : Hid (∀ w', Kept S wr w' → w'.cell? ⟨w3.heap.size, 1, none⟩ = some (.slice A1 n1 c1)) := fun w' h => by
            have h2 : Blk w' w3.heap.size 256 #[.int .i64 s, .slice A1 Z.ft.length c1] := cb1.kept h (hnS.out _ (by have := hs3.out; omega) hlt.out.1)
            rw [hn1] at h2
            exact h2.cell 1
          have hL4 : Hid (∀ w', Kept S wr w' → w'.cell? ⟨w3.heap.size + 1, 1, none⟩ = some (.slice A2 n2 c2)) := fun w' h => by
            have h2 : Blk w' (w3.heap.size + 1) 256 #[.int .i64 s, .slice A2 Z.st.length c2] := cb2.kept h (hnS.out _ (by have := hs3.out; omega) hlt.out.2.1)
            rw [hn2] at h2
            exact h2.cell 1
          have hv1 : Hid ((Value.slice A1 n1 c1).ownBlock = r1) := by rw [hn1] at cv1; exact cv1
          have hone2 : Hid (∀ u ∈ xs2, u.oneCell' = true) := fun u hu => by
            obtain ⟨i, hi, rfl⟩ := List.getElem_of_mem hu
            have hl : xs2.length = n2 := by simpa using hrd2.1
            obtain ⟨q, hq⟩ : ∃ q, Z.st[i]? = some q := ⟨_, List.getElem?_eq_getElem (by omega)⟩
            obtain ⟨g, cq, a1, -⟩ := cx2 i q hq
            rw [List.getElem?_eq_getElem hi] at a1
            rw [Option.some.inj a1]
            rfl
          have hxl1 : Hid (xs1.length = Z.ft.length) := by show _ = _; have := co1.1; rw [hn1]; simpa using this
          replace co1 := Lib.hid co1
          replace hrd2 := Lib.hid hrd2
          replace hnil2 := Lib.hid hnil2
          replace cx1 := Lib.hid cx1
          replace cx2 := Lib.hid cx2
          clear co2 cb1 cb2 cv1 cv2 cn1 cn2 hn1 hn2
          go_wp2_with fail
          have s0 : Hid (Kept S wr wr.drew) := (Kept.refl _ _).drew
          refine held_start (fun w' => Kept S wr w') 14 rfl (by kernel_rfl) ?_
          refine held_take (i := 0) (v := .agg ((cells8 Z.fr).toArray)) rfl (by kernel_rfl) (by kernel_rfl) (by kernel_rfl) (fun _ _ _ h => h) s0.out (by rfl) (fun w' hw' => exec_row 23 (.tmp 16) rfl (m16) rfl 23 ((cells8 Z.fr).toArray) (0, 0) _ (hL1.out w' hw') Tryd.underlying23 rfl Fa.out.size) ?_
          (intro K hK; go_simp; refine hK _ ?_; clear hK K)
          refine held_take (i := 1) (v := .agg ((cells8 Z.sr).toArray)) rfl (by kernel_rfl) (by kernel_rfl) (by kernel_rfl) (fun _ _ _ h => h) s0.out (by rfl) (fun w' hw' => exec_row 23 (.tmp 17) rfl (m17) rfl 23 ((cells8 Z.sr).toArray) (0, 0) _ (hL2.out w' hw') Tryd.underlying23 rfl Fb.out.size) ?_
          (intro K hK; go_simp; refine hK _ ?_; clear hK K)
          refine held_take (i := 2) (v := .pointer (some ⟨w3.heap.size, 0, none⟩)) rfl (by kernel_rfl) (by kernel_rfl) (by kernel_rfl) (fun _ _ _ h => h) s0.out (by rfl) (fun w' hw' => run_mv (.tmp 14) rfl w') ?_
          (intro K hK; go_simp; refine hK _ ?_; clear hK K)
          refine held_take (i := 3) (v := .pointer (some ⟨w3.heap.size, 0, none⟩)) rfl (by kernel_rfl) (by kernel_rfl) (by kernel_rfl) (fun _ _ _ h => h) s0.out (by rfl) (fun w' hw' => by go_simp) ?_
          (intro K hK; go_simp; refine hK _ ?_; clear hK K)
          refine held_take (i := 4) (v := .pointer (some ⟨w3.heap.size, 1, none⟩)) rfl (by kernel_rfl) (by kernel_rfl) (by kernel_rfl) (fun _ _ _ h => h) s0.out (by rfl) (fun w' hw' => by go_simp) ?_
          (intro K hK; go_simp; refine hK _ ?_; clear hK K)
          refine held_take (i := 5) (v := .slice A1 n1 c1) rfl (by kernel_rfl) (by kernel_rfl) (by kernel_rfl) (fun _ _ _ h => h) s0.out (by rfl) (fun w' hw' => by have h := hL3.out w' hw'; go_simp) ?_
          (intro K hK; go_simp; refine hK _ ?_; clear hK K)
          refine held_take (i := 6) (v := .pointer (some ⟨w3.heap.size + 1, 0, none⟩)) rfl (by kernel_rfl) (by kernel_rfl) (by kernel_rfl) (fun _ _ _ h => h) s0.out (by rfl) (fun w' hw' => run_mv (.tmp 15) rfl w') ?_
          (intro K hK; go_simp; refine hK _ ?_; clear hK K)
          refine held_take (i := 7) (v := .pointer (some ⟨w3.heap.size + 1, 0, none⟩)) rfl (by kernel_rfl) (by kernel_rfl) (by kernel_rfl) (fun _ _ _ h => h) s0.out (by rfl) (fun w' hw' => by go_simp) ?_
          (intro K hK; go_simp; refine hK _ ?_; clear hK K)
          refine held_take (i := 8) (v := .pointer (some ⟨w3.heap.size + 1, 1, none⟩)) rfl (by kernel_rfl) (by kernel_rfl) (by kernel_rfl) (fun _ _ _ h => h) s0.out (by rfl) (fun w' hw' => by go_simp) ?_
          (intro K hK; go_simp; refine hK _ ?_; clear hK K)
          refine held_take (i := 9) (v := .slice A2 n2 c2) rfl (by kernel_rfl) (by kernel_rfl) (by kernel_rfl) (fun _ _ _ h => h) s0.out (by rfl) (fun w' hw' => by have h := hL4.out w' hw'; go_simp) ?_
          (intro K hK; go_simp; refine hK _ ?_; clear hK K)
          refine held_only (i := 10) rfl (by kernel_rfl) (by rfl) (fun K hK => ?_)
          refine wp_append_src _ (.tmp 82) (.tmp 86) 24 rfl 0 31 i0 (.slice none 0 0) 1 24 Tryd.underlying24 ii iz0 iz1 iz2 rfl (by decide) (.slice A1 n1 c1) n1 xs1 rfl co1.out A2 n2 c2 xs2 rfl hrd2.out hnil2.out hone2.out (by have := hk1.out; unfold maxLen; omega) (by have := hk1.out; omega) (Nat.zero_le _) ?_
          intro v8 w8 hG
          obtain ⟨A8, c8, rfl, -⟩ := Append.Own.reads hG.own
          have h8 : Hid (Kept S wr w8) := (Kept.refl S wr).drew.grown hG.grow (fun k e => .inl (by rw [hS.out]; exact .inl (by rw [← hv1.out, e])))
          have hat : Hid (∀ k, (Value.slice A8 (n1 + n2) c8).ownBlock = some k → w6.heap.size ≤ k) := fun k e => by
            rcases hG.at_ with h | h
            · rw [h] at e; exact hr1.out k (by rw [← hv1.out, e])
            · rw [h] at e; have h9 : wr.heap.size = k := Option.some.inj e; have := hI.out.kept.size; omega
          have hA8 : Hid (Blk w8 (w.heap.size + 1) 23 Z32) := Blk.grown (w := wr.drew) hAr.out hG.grow (fun e => by have h := hr1.out _ (e.trans hv1.out); have := hw6s.out; omega)
          have hE8 : Hid (Blk w8 (w.heap.size + 2) 23 Z32) := Blk.grown (w := wr.drew) hEr.out hG.grow (fun e => by have h := hr1.out _ (e.trans hv1.out); have := hw6s.out; omega)
          replace hG := Lib.hid hG
          go_simp
          refine hK _ _ h8.out ?_
          clear hK K
          refine held_only (i := 11) rfl (by kernel_rfl) (by rfl) (fun K hK => ?_)
          refine wp_store_whole 23 (.tmp 10) (.tmp 77) rfl (w.heap.size + 1) ((cells8 Z.fr).toArray) rfl rfl 23 Z32 hA8.out Fa.out.size Fa.out.zero Fa.out.one ?_
          intro w9 q9 k9
          have h9 : Hid (Kept S wr w9) := h8.out.trans k9 (fun i _ h => by rw [hS.out]; exact .inr (.inl h))
          go_simp
          refine hK _ _ h9.out ?_
          clear hK K
          refine held_only (i := 12) rfl (by kernel_rfl) (by rfl) (fun K hK => ?_)
          refine wp_store_whole 23 (.tmp 11) (.tmp 78) rfl (w.heap.size + 2) ((cells8 Z.sr).toArray) rfl rfl 23 Z32 (hE8.out.kept k9 (by omega)) Fb.out.size Fb.out.zero Fb.out.one ?_
          intro w10 q10 k10
          have h10 : Hid (Kept S wr w10) := h9.out.trans k10 (fun i _ h => by rw [hS.out]; exact .inr (.inr h))
          go_simp
          refine hK _ _ h10.out ?_
          clear hK K
          refine held_take (i := 13) (v := .slice A8 (n1 + n2) c8) rfl (by kernel_rfl) (by kernel_rfl) (by kernel_rfl) (fun _ _ _ h => h) h10.out (by rfl) (fun w' hw' => by first | go_simp | rfl) ?_
          (intro K hK; go_simp; refine hK _ ?_; clear hK K)
          refine held_end (by kernel_rfl) ?_
          have hQ1 : Hid (Blk w10 (w.heap.size + 1) 23 (cells8 Z.fr).toArray) := Blk.kept q9 k10 (by omega)
          have hQ2 : Hid (Blk w10 (w.heap.size + 2) 23 (cells8 Z.sr).toArray) := q10
          have hO10 : w10.ownsRow 0 31 1 (.slice A8 (n1 + n2) c8) (n1 + n2) (xs1 ++ xs2) := own_kept (own_kept hG.out.own k9 (fun k e h => by have := hat.out k e; have := hw6s.out; omega)) k10 (fun k e h => by have := hat.out k e; have := hw6s.out; omega)
          have hO11 : Hid (w10.ownsRow w.heap.size 31 1 (.slice A8 (n1 + n2) c8) (n1 + n2) (xs1 ++ xs2)) := Go.Proofs.YtgldkfaiofkhbaaDoor.RowsT.own_up hO10 (fun k e => by have := hat.out k e; have := hw6s.out; omega)
          have hT9 : Hid (Tx w10 (xs1 ++ xs2) (Z.ft ++ Z.st)) := (Txs.toTx cx1.out hx65.out.1 h10.out hSf.out).append (Txs.toTx cx2.out hx65.out.2 h10.out hSf.out) hxl1.out
          have hfin : Hid (Below w.heap.size w w10) := Kept.toBelow hbW.out h10.out (fun k h => by rw [hS.out] at h; rcases h with h | h | h; (have := hr1.out k h; have := hw6s.out; omega); omega; omega) hbW.out.size
          clear hG hO10
          go_wp2_with fail
          refine bodyPost_ret (results_ccr rfl _ _ (w.heap.size + 1) (w.heap.size + 2) 23 23 (cells8 Z.fr).toArray (cells8 Z.sr).toArray (0, 0) (0, 0) _ rfl hQ1.out rfl hQ2.out Tryd.underlying23 rfl Fa.out.size Fb.out.size) rfl ?_
          show AhOwn w _ _ _
          try rw [hZe]
          exact ⟨A8, c8, xs1 ++ xs2, by rw [hn1h.out, hn2h.out]; rfl, by rw [hn1h.out, hn2h.out]; exact hO11.out, hT9.out, hfin.out⟩
theorem ahead_any (s : Int) (old size : Nat) (h1 : 1 ≤ old) (h2 : old < size) (hs : size ≤ 1099511627776) (root : Text) (hrt : root.length = 32) (ds : List Text) (A : Option Addr) (n c : Nat) (hn : (partsOf old size).length = n) (w : World) (hB : Base w) (hr : RdD w A n ds) :
    Calls Tryd.prog 158 #[.int .i64 s, .int .i64 (old : Int), .int .i64 (size : Int), .agg (cells8 root).toArray, .slice A n c] w (AhPost w (aheadOf s old size root ds)) :=
  (ahead_own s old size h1 h2 hs root hrt ds A n c hn w hB hr).mono fun _ _ h => h.post
end Go.Proofs.YtgldkfaiofkhbaaDoor.Ahead

namespace Go.Proofs.YtgldkfaiofkhbaaDoor.Agree
open Go Go.RowKit Go.Proofs.YtgldkfaiofkhbaaDoor Go.Proofs.YtgldkfaiofkhbaaDoor.Digest Go.Proofs.YtgldkfaiofkhbaaDoor.Mem Go.Proofs.YtgldkfaiofkhbaaDoor.Sha Go.Proofs.YtgldkfaiofkhbaaDoor.Bytes Go.Proofs.YtgldkfaiofkhbaaDoor.Append Go.Proofs.YtgldkfaiofkhbaaDoor.HashMem Go.Proofs.YtgldkfaiofkhbaaDoor.DigestMem Go.Proofs.YtgldkfaiofkhbaaDoor.DigestTop Go.Proofs.YtgldkfaiofkhbaaDoor.DigEq Go.Proofs.YtgldkfaiofkhbaaDoor.QuietTail Go.Proofs.YtgldkfaiofkhbaaDoor.Grown Go.Proofs.YtgldkfaiofkhbaaDoor.TreeMath Go.Proofs.YtgldkfaiofkhbaaDoor.TreeMem Go.Proofs.YtgldkfaiofkhbaaDoor.TreeRoot Go.Proofs.YtgldkfaiofkhbaaDoor.Held Go.Proofs.YtgldkfaiofkhbaaDoor.Guard Go.Proofs.YtgldkfaiofkhbaaDoor.Book Go.Proofs.YtgldkfaiofkhbaaDoor.Subs Go.Proofs.YtgldkfaiofkhbaaDoor.RowsP Go.Proofs.YtgldkfaiofkhbaaDoor.Joint Go.Proofs.YtgldkfaiofkhbaaDoor.AheadM Go.Proofs.YtgldkfaiofkhbaaDoor.AheadT Go.Proofs.YtgldkfaiofkhbaaDoor.Ahead

theorem _root_.Go.Proofs.YtgldkfaiofkhbaaDoor.Mem.Blk.onA {w w' : World} {g : Nat} {t : TypeId} {cs : Array Value} (h : Blk w g t cs) (hb : Below w.heap.size w w') : Blk w' g t cs := (hb.block g h.lt).trans h
/-- To which old root, to which new one the digests lead. -/
def agA (s : Int) (old size : Nat) (r0 : Text) (ds : List Text) : Text := if old = 0 then noneOf s else if old = size then r0 else (aheadOf s old size r0 ds).fr
def agB (s : Int) (old size : Nat) (r0 r1 : Text) (ds : List Text) : Text := if old = size then r0 else if old = 0 then r1 else (aheadOf s old size r0 ds).sr
/-- The answer. -/
def agreeOf (s : Int) (old size : Int) (r0 r1 : Text) (ds : List Text) : Int :=
  if joinsB old size = false then 60 else if betw old.toNat size.toNat ≠ ds.length then 170
  else if agA s old.toNat size.toNat r0 ds = r0 ∧ agB s old.toNat size.toNat r0 r1 ds = r1 then 0 else 171
theorem aheadOf_ok {s : Int} {old size : Nat} {r0 : Text} {ds : List Text} (h1 : 1 ≤ old) (h2 : old < size) (h0 : r0.length = 32) (hd : Digs ds) (hn : betw old size = ds.length) : (aheadOf s old size r0 ds).fr.length = 32 ∧ (aheadOf s old size r0 ds).sr.length = 32 ∧ (∀ q ∈ (aheadOf s old size r0 ds).ft, q.length = 65) ∧ (∀ q ∈ (aheadOf s old size r0 ds).st, q.length = 65) ∧ (aheadOf s old size r0 ds).ft.length ≤ ds.length ∧ (aheadOf s old size r0 ds).st.length ≤ ds.length := by
  obtain ⟨hl, -, -⟩ := parts_low h1 h2
  have hpl := partsOf_len (Nat.le_of_lt h2)
  have hz : (((partsOf old size).map (bh old)).zip ds).length = ds.length := by rw [List.length_zip, List.length_map]; omega
  have hx : (if powB old then r0 else ds.getD 0 []).length = 32 := by
    split
    · exact h0
    · obtain ⟨d, hd0⟩ : ∃ d, ds[0]? = some d := ⟨_, List.getElem?_eq_getElem (by omega)⟩
      have := hd.at_ hd0
      simpa [List.getD, hd0] using this
  have h := aheadS_ok (s := s) (low := lowOf old) (P := ((partsOf old size).map (bh old)).zip ds) hx (fun p hp => hd _ (List.of_mem_zip (show (p.1, p.2) ∈ _ from hp)).2) (ds.length - lowOf old) (by omega)
  rw [show lowOf old + (ds.length - lowOf old) = ds.length by omega] at h
  exact ⟨h.fl, h.sl, h.ft, h.st, by have := h.fk; show (aheadS _ _ _ _ _).ft.length ≤ _; omega, by have := h.sk; show (aheadS _ _ _ _ _).st.length ≤ _; omega⟩
theorem agA_len {s : Int} {old size : Nat} {r0 : Text} {ds : List Text} (hle : old ≤ size) (h0 : r0.length = 32) (hd : Digs ds) (hn : betw old size = ds.length) : (agA s old size r0 ds).length = 32 := by
  unfold agA
  split
  · exact noneOf_len s
  · split
    · exact h0
    · exact (aheadOf_ok (by omega) (by omega) h0 hd hn).1
theorem agB_len {s : Int} {old size : Nat} {r0 r1 : Text} {ds : List Text} (hle : old ≤ size) (h0 : r0.length = 32) (h1 : r1.length = 32) (hd : Digs ds) (hn : betw old size = ds.length) : (agB s old size r0 r1 ds).length = 32 := by
  unfold agB
  split
  · exact h0
  · split
    · exact h1
    · exact (aheadOf_ok (by omega) (by omega) h0 hd hn).2.1

set_option maxRecDepth 100000 in
set_option maxHeartbeats 1000000 in
theorem agree_out (s old size : Int) (h : joinsB old size = false) (r0 r1 : Text) (A : Option Addr) (n c : Nat) (w : World) :
    Calls Tryd.prog 105 #[.int .i64 s, .int .i64 old, .int .i64 size, .agg (cells8 r0).toArray, .agg (cells8 r1).toArray, .slice A n c] w fun e w' => e = .returned (.int .i64 60) ∧ Below w.heap.size w w' := by
  have hb : Hid (Below w.heap.size w ((w.alloc (.cells (cells8 r0).toArray 23)).alloc (.cells (cells8 r1).toArray 23))) := (Below.heap_below w _).alloc (by simp) _
  replace h := Lib.hid h
  go_enter Tryd.func105, Tryd.ntmps105
  go_wp2_with fail
  refine (sizes_any old size _).mono ?_
  rw [h.out]
  rintro e w1 ⟨rfl, rfl⟩
  go_wp2_with fail
  go_ret
  exact ⟨rfl, hb.out⟩

set_option maxRecDepth 100000 in
set_option maxHeartbeats 4000000 in
theorem agree_in (s : Int) (old size : Nat) (hle : old ≤ size) (hs : size ≤ 1099511627776) (r0 r1 : Text) (h0 : r0.length = 32) (h1 : r1.length = 32) (ds : List Text) (A : Option Addr) (n c : Nat) (w : World) (hB : Base w) (hr : RdD w A n ds) :
    Calls Tryd.prog 105 #[.int .i64 s, .int .i64 (old : Int), .int .i64 (size : Int), .agg (cells8 r0).toArray, .agg (cells8 r1).toArray, .slice A n c] w fun e w' => e = .returned (.int .i64 (agreeOf s old size r0 r1 ds)) ∧ Below w.heap.size w w' := by
  have hj : joinsB (old : Int) (size : Int) = true := by
    have a1 : (0 : Int) ≤ old := by omega
    have a2 : (old : Int) ≤ size := by omega
    have a3 : (size : Int) ≤ 1099511627776 := by omega
    simp [joinsB, a1, a2, a3]
  have hSz : Hid (∀ w', Calls Tryd.prog 70 #[.int .i64 (old : Int), .int .i64 (size : Int)] w' fun e w'' => e = .returned (.bool true) ∧ w' = w'') := fun w' => by have := sizes_any old size w'; rwa [hj] at this
  have hPt := Lib.hid (fun w' => parts_any old size hle hs w')
  have hpl := partsOf_len hle
  obtain ⟨m, hm⟩ : ∃ m, betw old size = m := ⟨_, rfl⟩
  have hans : agreeOf s old size r0 r1 ds = if m ≠ n then 170 else if agA s old size r0 ds = r0 ∧ agB s old size r0 r1 ds = r1 then 0 else 171 := by
    unfold agreeOf
    rw [if_neg (by rw [hj]; decide), Int.toNat_natCast, Int.toNat_natCast, hm, hr.1]
  obtain ⟨ans, han⟩ : ∃ a, agreeOf s old size r0 r1 ds = a := ⟨_, rfl⟩
  rw [han] at hans ⊢
  obtain ⟨w0, hw0⟩ : ∃ w0, Hid (w0 = (w.alloc (.cells (cells8 r0).toArray 23)).alloc (.cells (cells8 r1).toArray 23)) := ⟨_, rfl⟩
  have hb0 : Hid (Below w.heap.size w w0) := by show Below _ _ _; rw [hw0.out]; exact (Below.heap_below w _).alloc (by simp) _
  have hX0 : Hid (Blk w0 w.heap.size 23 (cells8 r0).toArray) := by show Blk _ _ _ _; rw [hw0.out]; exact heap_alloc2_old w _ _
  have hY0 : Hid (Blk w0 (w.heap.size + 1) 23 (cells8 r1).toArray) := by show Blk _ _ _ _; rw [hw0.out]; exact heap_alloc2_new w _ _
  have F0 := Lib.hid (fit (x := r0) h0)
  have F1 := Lib.hid (fit (x := r1) h1)
  have hBs := Lib.hid (fun w' (hb : Below w.heap.size w w') => hB.below hb hB.1)
  have g1 : (0 : Int) ≤ (old : Int) := by omega
  have g2 : (old : Int) ≤ 1099511627776 := by omega
  have g3 : (0 : Int) ≤ (size : Int) := by omega
  have g4 : (size : Int) ≤ 1099511627776 := by omega
  have hpm : Hid ((partsOf old size).length = m) := by show _ = _; rw [hpl, hm]
  by_cases hmn : m = n
  · rw [if_neg (fun h => h hmn)] at hans
    have hn : betw old size = ds.length := by rw [hm, hmn, hr.1]
    subst hmn
    have hal := agA_len (s := s) hle h0 hr.2.1 hn
    have hbl := agB_len (s := s) (r1 := r1) hle h0 h1 hr.2.1 hn
    have hva : Hid (∀ w', Below w.heap.size w w' → 1 ≤ old → old < size → Calls Tryd.prog 158 #[.int .i64 s, .int .i64 (old : Int), .int .i64 (size : Int), .agg (cells8 r0).toArray, .slice A m c] w' (AhPost w' (aheadOf s old size r0 ds))) := fun w' hb e1 e2 => ahead_any s old size e1 e2 hs r0 h0 ds A m c hpm.out w' (hBs.out w' hb) (hr.below hb)
    have hA0 : Hid (old = 0 → agA s old size r0 ds = noneOf s) := fun h => if_pos h
    have hA1 : Hid (old ≠ 0 → old = size → agA s old size r0 ds = r0) := fun h k => by unfold agA; rw [if_neg h, if_pos k]
    have hA2 : Hid (old ≠ 0 → old ≠ size → agA s old size r0 ds = (aheadOf s old size r0 ds).fr) := fun h k => by unfold agA; rw [if_neg h, if_neg k]
    have hB1 : Hid (old = size → agB s old size r0 r1 ds = r0) := fun h => if_pos h
    have hB0 : Hid (old ≠ size → old = 0 → agB s old size r0 r1 ds = r1) := fun h k => by unfold agB; rw [if_neg h, if_pos k]
    have hB2 : Hid (old ≠ size → old ≠ 0 → agB s old size r0 r1 ds = (aheadOf s old size r0 ds).sr) := fun h k => by unfold agB; rw [if_neg h, if_neg k]
    obtain ⟨va, hvA⟩ : ∃ v, agA s old size r0 ds = v := ⟨_, rfl⟩
    obtain ⟨vb, hvB⟩ : ∃ v, agB s old size r0 r1 ds = v := ⟨_, rfl⟩
    rw [hvA] at hans hal hA0 hA1 hA2
    rw [hvB] at hans hbl hB0 hB1 hB2
    have Fa := Lib.hid (fit (x := va) hal)
    have Fb := Lib.hid (fit (x := vb) hbl)
    have hqa := Lib.hid (fun w => equal_dig va r0 hal h0 w)
    have hqb := Lib.hid (fun w => equal_dig vb r1 hbl h1 w)
    have hNo := Lib.hid (fun w' (hb : Below w.heap.size w w') => nothing_any s w' (hBs.out w' hb))
    have e1 : ((m : Int) == (m : Int)) = true := beq_self_eq_true _
    have l0 := Lib.hid h0
    have l1 := Lib.hid h1
    replace hans := Lib.hid hans
    replace hle := Lib.hid hle
    clear hj hB hr hs h0 h1 hpl hm han hn hal hbl hvA hvB
    go_enter Tryd.func105, Tryd.ntmps105
    go_wp2_with fail
    change Calls _ _ _ ((w.alloc (.cells (cells8 r0).toArray 23)).alloc (.cells (cells8 r1).toArray 23)) _
    rw [← hw0.out]
    clear hw0
    refine (hSz.out _).mono ?_
    rintro e w1 ⟨rfl, rfl⟩
    go_wp2_with fail
    refine (hPt.out _).mono ?_
    rintro e w4 ⟨v, rfl, hO, hk1⟩
    rw [hpm.out] at hO
    obtain ⟨Ap, cp, rfl, -⟩ := Append.Own.reads hO
    have hb4 : Hid (Below w.heap.size w w4) := hb0.out.trans (hk1.mono hb0.out.size)
    have hX4 : Hid (Blk w4 w.heap.size 23 (cells8 r0).toArray) := Blk.onA hX0.out hk1
    have hY4 : Hid (Blk w4 (w.heap.size + 1) 23 (cells8 r1).toArray) := Blk.onA hY0.out hk1
    clear hO hk1 hb0 hX0 hY0 hSz hPt hpm
    go_wp2_with fail
    go_cut [13, 14] from 26 to 27 (fun v u wr => ∃ m13 m14 : Nat, v = .pointer (some ⟨m13, 0, none⟩) ∧ u = .pointer (some ⟨m14, 0, none⟩) ∧ Hid (m13 ≠ m14) ∧ Hid (w4.heap.size ≤ m13) ∧ Hid (w4.heap.size ≤ m14) ∧ Hid (Blk wr m13 23 (cells8 r0).toArray) ∧ Hid (Blk wr m14 23 (cells8 r1).toArray) ∧ Hid (Below w4.heap.size w4 wr))
    case first =>
      have s0 : Hid (Below w4.heap.size w4 w4.drew) := (Below.refl _ _).drew
      refine held_start (fun w' => Below w4.heap.size w4 w') 6 rfl (by kernel_rfl) ?_
      refine held_take (i := 0) (v := .agg ((cells8 r0).toArray)) rfl (by kernel_rfl) (by kernel_rfl) (by kernel_rfl) (fun _ _ _ h => h) s0.out (by rfl) (fun w' hw' => exec_row 23 (.tmp 9) rfl (w.heap.size) rfl 23 ((cells8 r0).toArray) (0, 0) _ ((hw'.block _ hX4.out.lt).trans hX4.out) Tryd.underlying23 rfl F0.out.size) ?_
      (intro K hK; go_simp; refine hK _ ?_; clear hK K)
      refine held_take (i := 1) (v := .agg ((cells8 r1).toArray)) rfl (by kernel_rfl) (by kernel_rfl) (by kernel_rfl) (fun _ _ _ h => h) s0.out (by rfl) (fun w' hw' => exec_row 23 (.tmp 10) rfl ((w.heap.size + 1)) rfl 23 ((cells8 r1).toArray) (0, 0) _ ((hw'.block _ hY4.out.lt).trans hY4.out) Tryd.underlying23 rfl F1.out.size) ?_
      (intro K hK; go_simp; refine hK _ ?_; clear hK K)
      refine held_two (i := 2) (j := 3) rfl rfl (by kernel_rfl) (by rfl) (by rfl) (fun K hK => ?_) (fun K hK => ?_)
      · have h5 : Hid (Below w4.heap.size w4 (w4.drew.alloc (.cells Z32 23))) := s0.out.alloc s0.out.size _
        have bA : Hid (Blk (w4.drew.alloc (.cells Z32 23)) w4.drew.heap.size 23 Z32) := Blk.new _ _ _
        go_simp
        refine hK _ _ h5.out ?_
        clear hK K
        refine held_only (i := 3) rfl (by kernel_rfl) (by rfl) (fun K hK => ?_)
        have h6 : Hid (Below w4.heap.size w4 ((w4.drew.alloc (.cells Z32 23)).alloc (.cells Z32 23))) := h5.out.alloc h5.out.size _
        have bB : Hid (Blk ((w4.drew.alloc (.cells Z32 23)).alloc (.cells Z32 23)) (w4.drew.alloc (.cells Z32 23)).heap.size 23 Z32) := Blk.new _ _ _
        go_simp
        refine hK _ _ h6.out ?_
        clear hK K
        have hzA : Hid ((w4.drew.alloc (.cells Z32 23)).heap.size = w4.heap.size + 1) := by show _ = _; simp
        replace bA : Hid (Blk ((w4.drew.alloc (.cells Z32 23)).alloc (.cells Z32 23)) w4.heap.size 23 Z32) := bA.out.alloc _
        replace bB : Hid (Blk ((w4.drew.alloc (.cells Z32 23)).alloc (.cells Z32 23)) (w4.heap.size + 1) 23 Z32) := by have := bB.out; rw [hzA.out] at this; exact this
        refine held_only (i := 4) rfl (by kernel_rfl) (by rfl) (fun K hK => ?_)
        refine wp_store_whole 23 (.tmp 13) (.tmp 26) rfl (w4.heap.size) ((cells8 r0).toArray) rfl rfl 23 Z32 bA.out F0.out.size F0.out.zero F0.out.one ?_
        intro w7 q7 k7
        have h7 : Hid (Below w4.heap.size w4 w7) := h6.out.trans (Kept.below_of k7 (by omega) h6.out.size)
        have o7 : Hid (Blk w7 (w4.heap.size + 1) 23 Z32) := bB.out.kept k7 (by omega)
        go_simp
        refine hK _ _ h7.out ?_
        clear hK K
        refine held_only (i := 5) rfl (by kernel_rfl) (by rfl) (fun K hK => ?_)
        refine wp_store_whole 23 (.tmp 14) (.tmp 27) rfl (w4.heap.size + 1) ((cells8 r1).toArray) rfl rfl 23 Z32 o7.out F1.out.size F1.out.zero F1.out.one ?_
        intro w8 q8 k8
        have h8 : Hid (Below w4.heap.size w4 w8) := h7.out.trans (Kept.below_of k8 (by omega) h7.out.size)
        have o8 : Hid (Blk w8 (w4.heap.size) 23 (cells8 r0).toArray) := q7.kept k8 (by omega)
        go_simp
        refine hK _ _ h8.out ?_
        clear hK K
        refine held_end (by kernel_rfl) ?_
        go_wp2_with fail
        go_meet
        case rel => exact ⟨w4.heap.size, w4.heap.size + 1, rfl, rfl, (by show _ ≠ _; omega), (by show _ ≤ _; omega), (by show _ ≤ _; omega), o8.out, q8, h8.out⟩
      · have h5 : Hid (Below w4.heap.size w4 (w4.drew.alloc (.cells Z32 23))) := s0.out.alloc s0.out.size _
        have bA : Hid (Blk (w4.drew.alloc (.cells Z32 23)) w4.drew.heap.size 23 Z32) := Blk.new _ _ _
        go_simp
        refine hK _ _ h5.out ?_
        clear hK K
        refine held_only (i := 2) rfl (by kernel_rfl) (by rfl) (fun K hK => ?_)
        have h6 : Hid (Below w4.heap.size w4 ((w4.drew.alloc (.cells Z32 23)).alloc (.cells Z32 23))) := h5.out.alloc h5.out.size _
        have bB : Hid (Blk ((w4.drew.alloc (.cells Z32 23)).alloc (.cells Z32 23)) (w4.drew.alloc (.cells Z32 23)).heap.size 23 Z32) := Blk.new _ _ _
        go_simp
        refine hK _ _ h6.out ?_
        clear hK K
        have hzA : Hid ((w4.drew.alloc (.cells Z32 23)).heap.size = w4.heap.size + 1) := by show _ = _; simp
        replace bA : Hid (Blk ((w4.drew.alloc (.cells Z32 23)).alloc (.cells Z32 23)) w4.heap.size 23 Z32) := bA.out.alloc _
        replace bB : Hid (Blk ((w4.drew.alloc (.cells Z32 23)).alloc (.cells Z32 23)) (w4.heap.size + 1) 23 Z32) := by have := bB.out; rw [hzA.out] at this; exact this
        refine held_only (i := 4) rfl (by kernel_rfl) (by rfl) (fun K hK => ?_)
        refine wp_store_whole 23 (.tmp 13) (.tmp 26) rfl (w4.heap.size + 1) ((cells8 r0).toArray) rfl rfl 23 Z32 bB.out F0.out.size F0.out.zero F0.out.one ?_
        intro w7 q7 k7
        have h7 : Hid (Below w4.heap.size w4 w7) := h6.out.trans (Kept.below_of k7 (by omega) h6.out.size)
        have o7 : Hid (Blk w7 (w4.heap.size) 23 Z32) := bA.out.kept k7 (by omega)
        go_simp
        refine hK _ _ h7.out ?_
        clear hK K
        refine held_only (i := 5) rfl (by kernel_rfl) (by rfl) (fun K hK => ?_)
        refine wp_store_whole 23 (.tmp 14) (.tmp 27) rfl (w4.heap.size) ((cells8 r1).toArray) rfl rfl 23 Z32 o7.out F1.out.size F1.out.zero F1.out.one ?_
        intro w8 q8 k8
        have h8 : Hid (Below w4.heap.size w4 w8) := h7.out.trans (Kept.below_of k8 (by omega) h7.out.size)
        have o8 : Hid (Blk w8 (w4.heap.size + 1) 23 (cells8 r0).toArray) := q7.kept k8 (by omega)
        go_simp
        refine hK _ _ h8.out ?_
        clear hK K
        refine held_end (by kernel_rfl) ?_
        go_wp2_with fail
        go_meet
        case rel => exact ⟨w4.heap.size + 1, w4.heap.size, rfl, rfl, (by show _ ≠ _; omega), (by show _ ≤ _; omega), (by show _ ≤ _; omega), o8.out, q8, h8.out⟩
    case rest =>
      obtain ⟨m13, m14, rfl, rfl, hne, hl13, hl14, hM13, hM14, hk5⟩ := hcut
      obtain ⟨w5, rfl⟩ : ∃ w5 : World, w5 = wc := ⟨_, rfl⟩
      have hb5 : Hid (Below w.heap.size w w5) := hb4.out.trans (hk5.out.mono hb4.out.size)
      have hX5 : Hid (Blk w5 w.heap.size 23 (cells8 r0).toArray) := Blk.onA hX4.out hk5.out
      have hY5 : Hid (Blk w5 (w.heap.size + 1) 23 (cells8 r1).toArray) := Blk.onA hY4.out hk5.out
      have hd : Hid (m13 ≠ m14 ∧ w.heap.size + 1 < m13 ∧ w.heap.size + 1 < m14) := by have := hne.out; have := hl13.out; have := hl14.out; have := hY4.out.lt; show _ ∧ _; omega
      clear hne hl13 hl14 hk5 hb4 hX4 hY4 e1
      by_cases ho : old = 0
      · have t1 : ((old : Int) == 0) = true := by rw [ho]; rfl
        have t0 : old = 0 := ho
        by_cases hz : size = 0
        · have t2 : ¬ ((0 : Int) < (size : Int)) := by omega
          have t3 : ((old : Int) == (size : Int)) = true := beq_iff_eq.2 (by omega)
          have t4 : ((size : Int) == 0) = true := by rw [hz]; rfl
          have hbe : r0 = vb := (hB1.out (by omega)).symm
          have hae : noneOf s = va := (hA0.out ho).symm
          have hM5 := hM13
          have hN5 := hM14
          replace hae := Lib.hid hae
          subst hbe
          clear hA0 hA1 hA2 hB0 hB1 hB2 ho hz hM13 hM14
          by_cases hv1 : va = r0
          · by_cases hv2 : r0 = r1
            · have qa : ∀ w, (Op.equalIn 10000 23 (.agg (cells8 va).toArray) (.agg (cells8 r0).toArray)).run Tryd.prog w = .ok true w := fun w => by rw [hqa.out w, decide_eq_true hv1]
              have qb : ∀ w, (Op.equalIn 10000 23 (.agg (cells8 r0).toArray) (.agg (cells8 r1).toArray)).run Tryd.prog w = .ok true w := fun w => by rw [hqb.out w, decide_eq_true hv2]
              have ha : ans = 0 := by rw [hans.out, if_pos ⟨hv1, hv2⟩]
              clear hv1 hv2
              go_wp2_with (first
                | ((with_reducible change wpList _ _ _ ({ dst := some 51, op := _, type := _, pos := _, after := _, guard := _ } :: _) _ _); refine wpList_load_row (o := ⟨some 51, _, _, _, _, _⟩) rfl 23 (.tmp 9) rfl (w.heap.size) rfl 23 ((cells8 r0).toArray) (0, 0) _ hX5.out Tryd.underlying23 rfl F0.out.size ?_)
                | ((with_reducible change wpList _ _ _ ({ dst := none, op := Op.store 23 (.tmp 14) _, type := _, pos := _, after := _, guard := _ } :: _) _ _); refine wpList_store_whole (o := ⟨none, _, _, _, _, _⟩) rfl 23 (.tmp 14) (.tmp 51) rfl (m14) ((cells8 r0).toArray) rfl rfl 23 ((cells8 r1).toArray) hN5.out F0.out.size (F0.out.same r1 l1.out) F0.out.one ?_; intro w6 q6 k6; have hN6 : Hid (Blk w6 m14 23 (cells8 r0).toArray) := q6; have hX6 : Hid (Blk w6 w.heap.size 23 (cells8 r0).toArray) := hX5.out.kept k6 (by have := hd.out; omega); have hY6 : Hid (Blk w6 (w.heap.size + 1) 23 (cells8 r1).toArray) := hY5.out.kept k6 (by have := hd.out; omega); have hb6 : Hid (Below w.heap.size w w6) := hb5.out.trans (Kept.below_of k6 (by have := hd.out; omega) hb5.out.size); have hM6 : Hid (Blk w6 m13 23 (cells8 r0).toArray) := hM5.out.kept k6 (by have := hd.out; omega); clear q6 k6)
                | (go_at_call 50; refine (hNo.out _ hb6.out).mono ?_; rw [show cutTo (sum []) (clampN s) = va from hae.out]; rintro e w7 ⟨rfl, kk7⟩; have hX7 : Hid (Blk w7 w.heap.size 23 (cells8 r0).toArray) := Blk.onA hX6.out kk7; have hY7 : Hid (Blk w7 (w.heap.size + 1) 23 (cells8 r1).toArray) := Blk.onA hY6.out kk7; have hb7 : Hid (Below w.heap.size w w7) := hb6.out.trans (kk7.mono hb6.out.size); have hM7 : Hid (Blk w7 m13 23 (cells8 r0).toArray) := Blk.onA hM6.out kk7; have hN7 : Hid (Blk w7 m14 23 (cells8 r0).toArray) := Blk.onA hN6.out kk7; clear kk7)
                | ((with_reducible change wpList _ _ _ ({ dst := none, op := Op.store 23 (.tmp 13) _, type := _, pos := _, after := _, guard := _ } :: _) _ _); refine wpList_store_whole (o := ⟨none, _, _, _, _, _⟩) rfl 23 (.tmp 13) (.tmp 55) rfl (m13) ((cells8 va).toArray) rfl rfl 23 ((cells8 r0).toArray) hM7.out Fa.out.size (Fa.out.same r0 l0.out) Fa.out.one ?_; intro w8 q8 k8; have hM8 : Hid (Blk w8 m13 23 (cells8 va).toArray) := q8; have hX8 : Hid (Blk w8 w.heap.size 23 (cells8 r0).toArray) := hX7.out.kept k8 (by have := hd.out; omega); have hY8 : Hid (Blk w8 (w.heap.size + 1) 23 (cells8 r1).toArray) := hY7.out.kept k8 (by have := hd.out; omega); have hb8 : Hid (Below w.heap.size w w8) := hb7.out.trans (Kept.below_of k8 (by have := hd.out; omega) hb7.out.size); have hN8 : Hid (Blk w8 m14 23 (cells8 r0).toArray) := hN7.out.kept k8 (by have := hd.out; omega); clear q8 k8)
                | ((with_reducible change wpList _ _ _ ({ dst := some 56, op := _, type := _, pos := _, after := _, guard := _ } :: _) _ _); refine wpList_load_row (o := ⟨some 56, _, _, _, _, _⟩) rfl 23 (.tmp 13) rfl (m13) rfl 23 ((cells8 va).toArray) (0, 0) _ hM8.out Tryd.underlying23 rfl Fa.out.size ?_)
                | ((with_reducible change wpList _ _ _ ({ dst := some 57, op := _, type := _, pos := _, after := _, guard := _ } :: _) _ _); refine wpList_load_row (o := ⟨some 57, _, _, _, _, _⟩) rfl 23 (.tmp 9) rfl (w.heap.size) rfl 23 ((cells8 r0).toArray) (0, 0) _ hX8.out Tryd.underlying23 rfl F0.out.size ?_)
                | ((with_reducible change wpList _ _ _ ({ dst := some 60, op := _, type := _, pos := _, after := _, guard := _ } :: _) _ _); refine wpList_load_rowG (o := ⟨some 60, _, _, _, _, _⟩) rfl 23 (.tmp 14) rfl (m14) rfl 23 ((cells8 r0).toArray) (0, 0) _ hN8.out Tryd.underlying23 rfl F0.out.size ?_)
                | ((with_reducible change wpList _ _ _ ({ dst := some 61, op := _, type := _, pos := _, after := _, guard := _ } :: _) _ _); refine wpList_load_rowG (o := ⟨some 61, _, _, _, _, _⟩) rfl 23 (.tmp 10) rfl (w.heap.size + 1) rfl 23 ((cells8 r1).toArray) (0, 0) _ hY8.out Tryd.underlying23 rfl F1.out.size ?_))
              go_ret
              exact ⟨by first | (rw [ha]; rfl) | rfl, hb8.out⟩
            · have qa : ∀ w, (Op.equalIn 10000 23 (.agg (cells8 va).toArray) (.agg (cells8 r0).toArray)).run Tryd.prog w = .ok true w := fun w => by rw [hqa.out w, decide_eq_true hv1]
              have qb : ∀ w, (Op.equalIn 10000 23 (.agg (cells8 r0).toArray) (.agg (cells8 r1).toArray)).run Tryd.prog w = .ok false w := fun w => by rw [hqb.out w, decide_eq_false hv2]
              have ha : ans = 171 := by rw [hans.out, if_neg (fun h => hv2 h.2)]
              clear hv1 hv2
              go_wp2_with (first
                | ((with_reducible change wpList _ _ _ ({ dst := some 51, op := _, type := _, pos := _, after := _, guard := _ } :: _) _ _); refine wpList_load_row (o := ⟨some 51, _, _, _, _, _⟩) rfl 23 (.tmp 9) rfl (w.heap.size) rfl 23 ((cells8 r0).toArray) (0, 0) _ hX5.out Tryd.underlying23 rfl F0.out.size ?_)
                | ((with_reducible change wpList _ _ _ ({ dst := none, op := Op.store 23 (.tmp 14) _, type := _, pos := _, after := _, guard := _ } :: _) _ _); refine wpList_store_whole (o := ⟨none, _, _, _, _, _⟩) rfl 23 (.tmp 14) (.tmp 51) rfl (m14) ((cells8 r0).toArray) rfl rfl 23 ((cells8 r1).toArray) hN5.out F0.out.size (F0.out.same r1 l1.out) F0.out.one ?_; intro w6 q6 k6; have hN6 : Hid (Blk w6 m14 23 (cells8 r0).toArray) := q6; have hX6 : Hid (Blk w6 w.heap.size 23 (cells8 r0).toArray) := hX5.out.kept k6 (by have := hd.out; omega); have hY6 : Hid (Blk w6 (w.heap.size + 1) 23 (cells8 r1).toArray) := hY5.out.kept k6 (by have := hd.out; omega); have hb6 : Hid (Below w.heap.size w w6) := hb5.out.trans (Kept.below_of k6 (by have := hd.out; omega) hb5.out.size); have hM6 : Hid (Blk w6 m13 23 (cells8 r0).toArray) := hM5.out.kept k6 (by have := hd.out; omega); clear q6 k6)
                | (go_at_call 50; refine (hNo.out _ hb6.out).mono ?_; rw [show cutTo (sum []) (clampN s) = va from hae.out]; rintro e w7 ⟨rfl, kk7⟩; have hX7 : Hid (Blk w7 w.heap.size 23 (cells8 r0).toArray) := Blk.onA hX6.out kk7; have hY7 : Hid (Blk w7 (w.heap.size + 1) 23 (cells8 r1).toArray) := Blk.onA hY6.out kk7; have hb7 : Hid (Below w.heap.size w w7) := hb6.out.trans (kk7.mono hb6.out.size); have hM7 : Hid (Blk w7 m13 23 (cells8 r0).toArray) := Blk.onA hM6.out kk7; have hN7 : Hid (Blk w7 m14 23 (cells8 r0).toArray) := Blk.onA hN6.out kk7; clear kk7)
                | ((with_reducible change wpList _ _ _ ({ dst := none, op := Op.store 23 (.tmp 13) _, type := _, pos := _, after := _, guard := _ } :: _) _ _); refine wpList_store_whole (o := ⟨none, _, _, _, _, _⟩) rfl 23 (.tmp 13) (.tmp 55) rfl (m13) ((cells8 va).toArray) rfl rfl 23 ((cells8 r0).toArray) hM7.out Fa.out.size (Fa.out.same r0 l0.out) Fa.out.one ?_; intro w8 q8 k8; have hM8 : Hid (Blk w8 m13 23 (cells8 va).toArray) := q8; have hX8 : Hid (Blk w8 w.heap.size 23 (cells8 r0).toArray) := hX7.out.kept k8 (by have := hd.out; omega); have hY8 : Hid (Blk w8 (w.heap.size + 1) 23 (cells8 r1).toArray) := hY7.out.kept k8 (by have := hd.out; omega); have hb8 : Hid (Below w.heap.size w w8) := hb7.out.trans (Kept.below_of k8 (by have := hd.out; omega) hb7.out.size); have hN8 : Hid (Blk w8 m14 23 (cells8 r0).toArray) := hN7.out.kept k8 (by have := hd.out; omega); clear q8 k8)
                | ((with_reducible change wpList _ _ _ ({ dst := some 56, op := _, type := _, pos := _, after := _, guard := _ } :: _) _ _); refine wpList_load_row (o := ⟨some 56, _, _, _, _, _⟩) rfl 23 (.tmp 13) rfl (m13) rfl 23 ((cells8 va).toArray) (0, 0) _ hM8.out Tryd.underlying23 rfl Fa.out.size ?_)
                | ((with_reducible change wpList _ _ _ ({ dst := some 57, op := _, type := _, pos := _, after := _, guard := _ } :: _) _ _); refine wpList_load_row (o := ⟨some 57, _, _, _, _, _⟩) rfl 23 (.tmp 9) rfl (w.heap.size) rfl 23 ((cells8 r0).toArray) (0, 0) _ hX8.out Tryd.underlying23 rfl F0.out.size ?_)
                | ((with_reducible change wpList _ _ _ ({ dst := some 60, op := _, type := _, pos := _, after := _, guard := _ } :: _) _ _); refine wpList_load_rowG (o := ⟨some 60, _, _, _, _, _⟩) rfl 23 (.tmp 14) rfl (m14) rfl 23 ((cells8 r0).toArray) (0, 0) _ hN8.out Tryd.underlying23 rfl F0.out.size ?_)
                | ((with_reducible change wpList _ _ _ ({ dst := some 61, op := _, type := _, pos := _, after := _, guard := _ } :: _) _ _); refine wpList_load_rowG (o := ⟨some 61, _, _, _, _, _⟩) rfl 23 (.tmp 10) rfl (w.heap.size + 1) rfl 23 ((cells8 r1).toArray) (0, 0) _ hY8.out Tryd.underlying23 rfl F1.out.size ?_))
              go_ret
              exact ⟨by first | (rw [ha]; rfl) | rfl, hb8.out⟩
          · have qa : ∀ w, (Op.equalIn 10000 23 (.agg (cells8 va).toArray) (.agg (cells8 r0).toArray)).run Tryd.prog w = .ok false w := fun w => by rw [hqa.out w, decide_eq_false hv1]
            have ha : ans = 171 := by rw [hans.out, if_neg (fun h => hv1 h.1)]
            clear hv1
            go_wp2_with (first
              | ((with_reducible change wpList _ _ _ ({ dst := some 51, op := _, type := _, pos := _, after := _, guard := _ } :: _) _ _); refine wpList_load_row (o := ⟨some 51, _, _, _, _, _⟩) rfl 23 (.tmp 9) rfl (w.heap.size) rfl 23 ((cells8 r0).toArray) (0, 0) _ hX5.out Tryd.underlying23 rfl F0.out.size ?_)
              | ((with_reducible change wpList _ _ _ ({ dst := none, op := Op.store 23 (.tmp 14) _, type := _, pos := _, after := _, guard := _ } :: _) _ _); refine wpList_store_whole (o := ⟨none, _, _, _, _, _⟩) rfl 23 (.tmp 14) (.tmp 51) rfl (m14) ((cells8 r0).toArray) rfl rfl 23 ((cells8 r1).toArray) hN5.out F0.out.size (F0.out.same r1 l1.out) F0.out.one ?_; intro w6 q6 k6; have hN6 : Hid (Blk w6 m14 23 (cells8 r0).toArray) := q6; have hX6 : Hid (Blk w6 w.heap.size 23 (cells8 r0).toArray) := hX5.out.kept k6 (by have := hd.out; omega); have hY6 : Hid (Blk w6 (w.heap.size + 1) 23 (cells8 r1).toArray) := hY5.out.kept k6 (by have := hd.out; omega); have hb6 : Hid (Below w.heap.size w w6) := hb5.out.trans (Kept.below_of k6 (by have := hd.out; omega) hb5.out.size); have hM6 : Hid (Blk w6 m13 23 (cells8 r0).toArray) := hM5.out.kept k6 (by have := hd.out; omega); clear q6 k6)
              | (go_at_call 50; refine (hNo.out _ hb6.out).mono ?_; rw [show cutTo (sum []) (clampN s) = va from hae.out]; rintro e w7 ⟨rfl, kk7⟩; have hX7 : Hid (Blk w7 w.heap.size 23 (cells8 r0).toArray) := Blk.onA hX6.out kk7; have hY7 : Hid (Blk w7 (w.heap.size + 1) 23 (cells8 r1).toArray) := Blk.onA hY6.out kk7; have hb7 : Hid (Below w.heap.size w w7) := hb6.out.trans (kk7.mono hb6.out.size); have hM7 : Hid (Blk w7 m13 23 (cells8 r0).toArray) := Blk.onA hM6.out kk7; have hN7 : Hid (Blk w7 m14 23 (cells8 r0).toArray) := Blk.onA hN6.out kk7; clear kk7)
              | ((with_reducible change wpList _ _ _ ({ dst := none, op := Op.store 23 (.tmp 13) _, type := _, pos := _, after := _, guard := _ } :: _) _ _); refine wpList_store_whole (o := ⟨none, _, _, _, _, _⟩) rfl 23 (.tmp 13) (.tmp 55) rfl (m13) ((cells8 va).toArray) rfl rfl 23 ((cells8 r0).toArray) hM7.out Fa.out.size (Fa.out.same r0 l0.out) Fa.out.one ?_; intro w8 q8 k8; have hM8 : Hid (Blk w8 m13 23 (cells8 va).toArray) := q8; have hX8 : Hid (Blk w8 w.heap.size 23 (cells8 r0).toArray) := hX7.out.kept k8 (by have := hd.out; omega); have hY8 : Hid (Blk w8 (w.heap.size + 1) 23 (cells8 r1).toArray) := hY7.out.kept k8 (by have := hd.out; omega); have hb8 : Hid (Below w.heap.size w w8) := hb7.out.trans (Kept.below_of k8 (by have := hd.out; omega) hb7.out.size); have hN8 : Hid (Blk w8 m14 23 (cells8 r0).toArray) := hN7.out.kept k8 (by have := hd.out; omega); clear q8 k8)
              | ((with_reducible change wpList _ _ _ ({ dst := some 56, op := _, type := _, pos := _, after := _, guard := _ } :: _) _ _); refine wpList_load_row (o := ⟨some 56, _, _, _, _, _⟩) rfl 23 (.tmp 13) rfl (m13) rfl 23 ((cells8 va).toArray) (0, 0) _ hM8.out Tryd.underlying23 rfl Fa.out.size ?_)
              | ((with_reducible change wpList _ _ _ ({ dst := some 57, op := _, type := _, pos := _, after := _, guard := _ } :: _) _ _); refine wpList_load_row (o := ⟨some 57, _, _, _, _, _⟩) rfl 23 (.tmp 9) rfl (w.heap.size) rfl 23 ((cells8 r0).toArray) (0, 0) _ hX8.out Tryd.underlying23 rfl F0.out.size ?_)
              | ((with_reducible change wpList _ _ _ ({ dst := some 60, op := _, type := _, pos := _, after := _, guard := _ } :: _) _ _); refine wpList_load_rowG (o := ⟨some 60, _, _, _, _, _⟩) rfl 23 (.tmp 14) rfl (m14) rfl 23 ((cells8 r0).toArray) (0, 0) _ hN8.out Tryd.underlying23 rfl F0.out.size ?_)
              | ((with_reducible change wpList _ _ _ ({ dst := some 61, op := _, type := _, pos := _, after := _, guard := _ } :: _) _ _); refine wpList_load_rowG (o := ⟨some 61, _, _, _, _, _⟩) rfl 23 (.tmp 10) rfl (w.heap.size + 1) rfl 23 ((cells8 r1).toArray) (0, 0) _ hY8.out Tryd.underlying23 rfl F1.out.size ?_))
            go_ret
            exact ⟨by first | (rw [ha]; rfl) | rfl, hb8.out⟩
        · have t2 : (0 : Int) < (size : Int) := by omega
          have hbe : r1 = vb := (hB0.out (by omega) ho).symm
          have hae : noneOf s = va := (hA0.out ho).symm
          have hM5 := hM13
          have hN5 := hM14
          replace hae := Lib.hid hae
          subst hbe
          clear hA0 hA1 hA2 hB0 hB1 hB2 ho hz hM13 hM14
          by_cases hv1 : va = r0
          · by_cases hv2 : r1 = r1
            · have qa : ∀ w, (Op.equalIn 10000 23 (.agg (cells8 va).toArray) (.agg (cells8 r0).toArray)).run Tryd.prog w = .ok true w := fun w => by rw [hqa.out w, decide_eq_true hv1]
              have qb : ∀ w, (Op.equalIn 10000 23 (.agg (cells8 r1).toArray) (.agg (cells8 r1).toArray)).run Tryd.prog w = .ok true w := fun w => by rw [hqb.out w, decide_eq_true hv2]
              have ha : ans = 0 := by rw [hans.out, if_pos ⟨hv1, hv2⟩]
              clear hv1 hv2
              go_wp2_with (first
                | (go_at_call 50; refine (hNo.out _ hb5.out).mono ?_; rw [show cutTo (sum []) (clampN s) = va from hae.out]; rintro e w6 ⟨rfl, kk6⟩; have hX6 : Hid (Blk w6 w.heap.size 23 (cells8 r0).toArray) := Blk.onA hX5.out kk6; have hY6 : Hid (Blk w6 (w.heap.size + 1) 23 (cells8 r1).toArray) := Blk.onA hY5.out kk6; have hb6 : Hid (Below w.heap.size w w6) := hb5.out.trans (kk6.mono hb5.out.size); have hM6 : Hid (Blk w6 m13 23 (cells8 r0).toArray) := Blk.onA hM5.out kk6; have hN6 : Hid (Blk w6 m14 23 (cells8 r1).toArray) := Blk.onA hN5.out kk6; clear kk6)
                | ((with_reducible change wpList _ _ _ ({ dst := none, op := Op.store 23 (.tmp 13) _, type := _, pos := _, after := _, guard := _ } :: _) _ _); refine wpList_store_whole (o := ⟨none, _, _, _, _, _⟩) rfl 23 (.tmp 13) (.tmp 46) rfl (m13) ((cells8 va).toArray) rfl rfl 23 ((cells8 r0).toArray) hM6.out Fa.out.size (Fa.out.same r0 l0.out) Fa.out.one ?_; intro w7 q7 k7; have hM7 : Hid (Blk w7 m13 23 (cells8 va).toArray) := q7; have hX7 : Hid (Blk w7 w.heap.size 23 (cells8 r0).toArray) := hX6.out.kept k7 (by have := hd.out; omega); have hY7 : Hid (Blk w7 (w.heap.size + 1) 23 (cells8 r1).toArray) := hY6.out.kept k7 (by have := hd.out; omega); have hb7 : Hid (Below w.heap.size w w7) := hb6.out.trans (Kept.below_of k7 (by have := hd.out; omega) hb6.out.size); have hN7 : Hid (Blk w7 m14 23 (cells8 r1).toArray) := hN6.out.kept k7 (by have := hd.out; omega); clear q7 k7)
                | ((with_reducible change wpList _ _ _ ({ dst := some 56, op := _, type := _, pos := _, after := _, guard := _ } :: _) _ _); refine wpList_load_row (o := ⟨some 56, _, _, _, _, _⟩) rfl 23 (.tmp 13) rfl (m13) rfl 23 ((cells8 va).toArray) (0, 0) _ hM7.out Tryd.underlying23 rfl Fa.out.size ?_)
                | ((with_reducible change wpList _ _ _ ({ dst := some 57, op := _, type := _, pos := _, after := _, guard := _ } :: _) _ _); refine wpList_load_row (o := ⟨some 57, _, _, _, _, _⟩) rfl 23 (.tmp 9) rfl (w.heap.size) rfl 23 ((cells8 r0).toArray) (0, 0) _ hX7.out Tryd.underlying23 rfl F0.out.size ?_)
                | ((with_reducible change wpList _ _ _ ({ dst := some 60, op := _, type := _, pos := _, after := _, guard := _ } :: _) _ _); refine wpList_load_rowG (o := ⟨some 60, _, _, _, _, _⟩) rfl 23 (.tmp 14) rfl (m14) rfl 23 ((cells8 r1).toArray) (0, 0) _ hN7.out Tryd.underlying23 rfl F1.out.size ?_)
                | ((with_reducible change wpList _ _ _ ({ dst := some 61, op := _, type := _, pos := _, after := _, guard := _ } :: _) _ _); refine wpList_load_rowG (o := ⟨some 61, _, _, _, _, _⟩) rfl 23 (.tmp 10) rfl (w.heap.size + 1) rfl 23 ((cells8 r1).toArray) (0, 0) _ hY7.out Tryd.underlying23 rfl F1.out.size ?_))
              go_ret
              exact ⟨by first | (rw [ha]; rfl) | rfl, hb7.out⟩
            · have qa : ∀ w, (Op.equalIn 10000 23 (.agg (cells8 va).toArray) (.agg (cells8 r0).toArray)).run Tryd.prog w = .ok true w := fun w => by rw [hqa.out w, decide_eq_true hv1]
              have qb : ∀ w, (Op.equalIn 10000 23 (.agg (cells8 r1).toArray) (.agg (cells8 r1).toArray)).run Tryd.prog w = .ok false w := fun w => by rw [hqb.out w, decide_eq_false hv2]
              have ha : ans = 171 := by rw [hans.out, if_neg (fun h => hv2 h.2)]
              clear hv1 hv2
              go_wp2_with (first
                | (go_at_call 50; refine (hNo.out _ hb5.out).mono ?_; rw [show cutTo (sum []) (clampN s) = va from hae.out]; rintro e w6 ⟨rfl, kk6⟩; have hX6 : Hid (Blk w6 w.heap.size 23 (cells8 r0).toArray) := Blk.onA hX5.out kk6; have hY6 : Hid (Blk w6 (w.heap.size + 1) 23 (cells8 r1).toArray) := Blk.onA hY5.out kk6; have hb6 : Hid (Below w.heap.size w w6) := hb5.out.trans (kk6.mono hb5.out.size); have hM6 : Hid (Blk w6 m13 23 (cells8 r0).toArray) := Blk.onA hM5.out kk6; have hN6 : Hid (Blk w6 m14 23 (cells8 r1).toArray) := Blk.onA hN5.out kk6; clear kk6)
                | ((with_reducible change wpList _ _ _ ({ dst := none, op := Op.store 23 (.tmp 13) _, type := _, pos := _, after := _, guard := _ } :: _) _ _); refine wpList_store_whole (o := ⟨none, _, _, _, _, _⟩) rfl 23 (.tmp 13) (.tmp 46) rfl (m13) ((cells8 va).toArray) rfl rfl 23 ((cells8 r0).toArray) hM6.out Fa.out.size (Fa.out.same r0 l0.out) Fa.out.one ?_; intro w7 q7 k7; have hM7 : Hid (Blk w7 m13 23 (cells8 va).toArray) := q7; have hX7 : Hid (Blk w7 w.heap.size 23 (cells8 r0).toArray) := hX6.out.kept k7 (by have := hd.out; omega); have hY7 : Hid (Blk w7 (w.heap.size + 1) 23 (cells8 r1).toArray) := hY6.out.kept k7 (by have := hd.out; omega); have hb7 : Hid (Below w.heap.size w w7) := hb6.out.trans (Kept.below_of k7 (by have := hd.out; omega) hb6.out.size); have hN7 : Hid (Blk w7 m14 23 (cells8 r1).toArray) := hN6.out.kept k7 (by have := hd.out; omega); clear q7 k7)
                | ((with_reducible change wpList _ _ _ ({ dst := some 56, op := _, type := _, pos := _, after := _, guard := _ } :: _) _ _); refine wpList_load_row (o := ⟨some 56, _, _, _, _, _⟩) rfl 23 (.tmp 13) rfl (m13) rfl 23 ((cells8 va).toArray) (0, 0) _ hM7.out Tryd.underlying23 rfl Fa.out.size ?_)
                | ((with_reducible change wpList _ _ _ ({ dst := some 57, op := _, type := _, pos := _, after := _, guard := _ } :: _) _ _); refine wpList_load_row (o := ⟨some 57, _, _, _, _, _⟩) rfl 23 (.tmp 9) rfl (w.heap.size) rfl 23 ((cells8 r0).toArray) (0, 0) _ hX7.out Tryd.underlying23 rfl F0.out.size ?_)
                | ((with_reducible change wpList _ _ _ ({ dst := some 60, op := _, type := _, pos := _, after := _, guard := _ } :: _) _ _); refine wpList_load_rowG (o := ⟨some 60, _, _, _, _, _⟩) rfl 23 (.tmp 14) rfl (m14) rfl 23 ((cells8 r1).toArray) (0, 0) _ hN7.out Tryd.underlying23 rfl F1.out.size ?_)
                | ((with_reducible change wpList _ _ _ ({ dst := some 61, op := _, type := _, pos := _, after := _, guard := _ } :: _) _ _); refine wpList_load_rowG (o := ⟨some 61, _, _, _, _, _⟩) rfl 23 (.tmp 10) rfl (w.heap.size + 1) rfl 23 ((cells8 r1).toArray) (0, 0) _ hY7.out Tryd.underlying23 rfl F1.out.size ?_))
              go_ret
              exact ⟨by first | (rw [ha]; rfl) | rfl, hb7.out⟩
          · have qa : ∀ w, (Op.equalIn 10000 23 (.agg (cells8 va).toArray) (.agg (cells8 r0).toArray)).run Tryd.prog w = .ok false w := fun w => by rw [hqa.out w, decide_eq_false hv1]
            have ha : ans = 171 := by rw [hans.out, if_neg (fun h => hv1 h.1)]
            clear hv1
            go_wp2_with (first
              | (go_at_call 50; refine (hNo.out _ hb5.out).mono ?_; rw [show cutTo (sum []) (clampN s) = va from hae.out]; rintro e w6 ⟨rfl, kk6⟩; have hX6 : Hid (Blk w6 w.heap.size 23 (cells8 r0).toArray) := Blk.onA hX5.out kk6; have hY6 : Hid (Blk w6 (w.heap.size + 1) 23 (cells8 r1).toArray) := Blk.onA hY5.out kk6; have hb6 : Hid (Below w.heap.size w w6) := hb5.out.trans (kk6.mono hb5.out.size); have hM6 : Hid (Blk w6 m13 23 (cells8 r0).toArray) := Blk.onA hM5.out kk6; have hN6 : Hid (Blk w6 m14 23 (cells8 r1).toArray) := Blk.onA hN5.out kk6; clear kk6)
              | ((with_reducible change wpList _ _ _ ({ dst := none, op := Op.store 23 (.tmp 13) _, type := _, pos := _, after := _, guard := _ } :: _) _ _); refine wpList_store_whole (o := ⟨none, _, _, _, _, _⟩) rfl 23 (.tmp 13) (.tmp 46) rfl (m13) ((cells8 va).toArray) rfl rfl 23 ((cells8 r0).toArray) hM6.out Fa.out.size (Fa.out.same r0 l0.out) Fa.out.one ?_; intro w7 q7 k7; have hM7 : Hid (Blk w7 m13 23 (cells8 va).toArray) := q7; have hX7 : Hid (Blk w7 w.heap.size 23 (cells8 r0).toArray) := hX6.out.kept k7 (by have := hd.out; omega); have hY7 : Hid (Blk w7 (w.heap.size + 1) 23 (cells8 r1).toArray) := hY6.out.kept k7 (by have := hd.out; omega); have hb7 : Hid (Below w.heap.size w w7) := hb6.out.trans (Kept.below_of k7 (by have := hd.out; omega) hb6.out.size); have hN7 : Hid (Blk w7 m14 23 (cells8 r1).toArray) := hN6.out.kept k7 (by have := hd.out; omega); clear q7 k7)
              | ((with_reducible change wpList _ _ _ ({ dst := some 56, op := _, type := _, pos := _, after := _, guard := _ } :: _) _ _); refine wpList_load_row (o := ⟨some 56, _, _, _, _, _⟩) rfl 23 (.tmp 13) rfl (m13) rfl 23 ((cells8 va).toArray) (0, 0) _ hM7.out Tryd.underlying23 rfl Fa.out.size ?_)
              | ((with_reducible change wpList _ _ _ ({ dst := some 57, op := _, type := _, pos := _, after := _, guard := _ } :: _) _ _); refine wpList_load_row (o := ⟨some 57, _, _, _, _, _⟩) rfl 23 (.tmp 9) rfl (w.heap.size) rfl 23 ((cells8 r0).toArray) (0, 0) _ hX7.out Tryd.underlying23 rfl F0.out.size ?_)
              | ((with_reducible change wpList _ _ _ ({ dst := some 60, op := _, type := _, pos := _, after := _, guard := _ } :: _) _ _); refine wpList_load_rowG (o := ⟨some 60, _, _, _, _, _⟩) rfl 23 (.tmp 14) rfl (m14) rfl 23 ((cells8 r1).toArray) (0, 0) _ hN7.out Tryd.underlying23 rfl F1.out.size ?_)
              | ((with_reducible change wpList _ _ _ ({ dst := some 61, op := _, type := _, pos := _, after := _, guard := _ } :: _) _ _); refine wpList_load_rowG (o := ⟨some 61, _, _, _, _, _⟩) rfl 23 (.tmp 10) rfl (w.heap.size + 1) rfl 23 ((cells8 r1).toArray) (0, 0) _ hY7.out Tryd.underlying23 rfl F1.out.size ?_))
            go_ret
            exact ⟨by first | (rw [ha]; rfl) | rfl, hb7.out⟩
      · have t1 : ((old : Int) == 0) = false := beq_eq_false_iff_ne.2 (by omega)
        have t0 : ¬ old = 0 := ho
        by_cases hz : old = size
        · have t3 : ((old : Int) == (size : Int)) = true := beq_iff_eq.2 (by omega)
          have t4 : ((size : Int) == 0) = false := beq_eq_false_iff_ne.2 (by omega)
          have t5 : ¬ size = 0 := by omega
          have hbe : r0 = vb := (hB1.out hz).symm
          have hae : r0 = va := (hA1.out ho hz).symm
          have hM5 := hM13
          have hN5 := hM14
          subst hbe
          subst hae
          clear hA0 hA1 hA2 hB0 hB1 hB2 ho hz hM13 hM14
          by_cases hv1 : r0 = r0
          · by_cases hv2 : r0 = r1
            · have qa : ∀ w, (Op.equalIn 10000 23 (.agg (cells8 r0).toArray) (.agg (cells8 r0).toArray)).run Tryd.prog w = .ok true w := fun w => by rw [hqa.out w, decide_eq_true hv1]
              have qb : ∀ w, (Op.equalIn 10000 23 (.agg (cells8 r0).toArray) (.agg (cells8 r1).toArray)).run Tryd.prog w = .ok true w := fun w => by rw [hqb.out w, decide_eq_true hv2]
              have ha : ans = 0 := by rw [hans.out, if_pos ⟨hv1, hv2⟩]
              clear hv1 hv2
              go_wp2_with (first
                | ((with_reducible change wpList _ _ _ ({ dst := some 51, op := _, type := _, pos := _, after := _, guard := _ } :: _) _ _); refine wpList_load_row (o := ⟨some 51, _, _, _, _, _⟩) rfl 23 (.tmp 9) rfl (w.heap.size) rfl 23 ((cells8 r0).toArray) (0, 0) _ hX5.out Tryd.underlying23 rfl F0.out.size ?_)
                | ((with_reducible change wpList _ _ _ ({ dst := none, op := Op.store 23 (.tmp 14) _, type := _, pos := _, after := _, guard := _ } :: _) _ _); refine wpList_store_whole (o := ⟨none, _, _, _, _, _⟩) rfl 23 (.tmp 14) (.tmp 51) rfl (m14) ((cells8 r0).toArray) rfl rfl 23 ((cells8 r1).toArray) hN5.out F0.out.size (F0.out.same r1 l1.out) F0.out.one ?_; intro w6 q6 k6; have hN6 : Hid (Blk w6 m14 23 (cells8 r0).toArray) := q6; have hX6 : Hid (Blk w6 w.heap.size 23 (cells8 r0).toArray) := hX5.out.kept k6 (by have := hd.out; omega); have hY6 : Hid (Blk w6 (w.heap.size + 1) 23 (cells8 r1).toArray) := hY5.out.kept k6 (by have := hd.out; omega); have hb6 : Hid (Below w.heap.size w w6) := hb5.out.trans (Kept.below_of k6 (by have := hd.out; omega) hb5.out.size); have hM6 : Hid (Blk w6 m13 23 (cells8 r0).toArray) := hM5.out.kept k6 (by have := hd.out; omega); clear q6 k6)
                | ((with_reducible change wpList _ _ _ ({ dst := some 56, op := _, type := _, pos := _, after := _, guard := _ } :: _) _ _); refine wpList_load_row (o := ⟨some 56, _, _, _, _, _⟩) rfl 23 (.tmp 13) rfl (m13) rfl 23 ((cells8 r0).toArray) (0, 0) _ hM6.out Tryd.underlying23 rfl F0.out.size ?_)
                | ((with_reducible change wpList _ _ _ ({ dst := some 57, op := _, type := _, pos := _, after := _, guard := _ } :: _) _ _); refine wpList_load_row (o := ⟨some 57, _, _, _, _, _⟩) rfl 23 (.tmp 9) rfl (w.heap.size) rfl 23 ((cells8 r0).toArray) (0, 0) _ hX6.out Tryd.underlying23 rfl F0.out.size ?_)
                | ((with_reducible change wpList _ _ _ ({ dst := some 60, op := _, type := _, pos := _, after := _, guard := _ } :: _) _ _); refine wpList_load_rowG (o := ⟨some 60, _, _, _, _, _⟩) rfl 23 (.tmp 14) rfl (m14) rfl 23 ((cells8 r0).toArray) (0, 0) _ hN6.out Tryd.underlying23 rfl F0.out.size ?_)
                | ((with_reducible change wpList _ _ _ ({ dst := some 61, op := _, type := _, pos := _, after := _, guard := _ } :: _) _ _); refine wpList_load_rowG (o := ⟨some 61, _, _, _, _, _⟩) rfl 23 (.tmp 10) rfl (w.heap.size + 1) rfl 23 ((cells8 r1).toArray) (0, 0) _ hY6.out Tryd.underlying23 rfl F1.out.size ?_))
              go_ret
              exact ⟨by first | (rw [ha]; rfl) | rfl, hb6.out⟩
            · have qa : ∀ w, (Op.equalIn 10000 23 (.agg (cells8 r0).toArray) (.agg (cells8 r0).toArray)).run Tryd.prog w = .ok true w := fun w => by rw [hqa.out w, decide_eq_true hv1]
              have qb : ∀ w, (Op.equalIn 10000 23 (.agg (cells8 r0).toArray) (.agg (cells8 r1).toArray)).run Tryd.prog w = .ok false w := fun w => by rw [hqb.out w, decide_eq_false hv2]
              have ha : ans = 171 := by rw [hans.out, if_neg (fun h => hv2 h.2)]
              clear hv1 hv2
              go_wp2_with (first
                | ((with_reducible change wpList _ _ _ ({ dst := some 51, op := _, type := _, pos := _, after := _, guard := _ } :: _) _ _); refine wpList_load_row (o := ⟨some 51, _, _, _, _, _⟩) rfl 23 (.tmp 9) rfl (w.heap.size) rfl 23 ((cells8 r0).toArray) (0, 0) _ hX5.out Tryd.underlying23 rfl F0.out.size ?_)
                | ((with_reducible change wpList _ _ _ ({ dst := none, op := Op.store 23 (.tmp 14) _, type := _, pos := _, after := _, guard := _ } :: _) _ _); refine wpList_store_whole (o := ⟨none, _, _, _, _, _⟩) rfl 23 (.tmp 14) (.tmp 51) rfl (m14) ((cells8 r0).toArray) rfl rfl 23 ((cells8 r1).toArray) hN5.out F0.out.size (F0.out.same r1 l1.out) F0.out.one ?_; intro w6 q6 k6; have hN6 : Hid (Blk w6 m14 23 (cells8 r0).toArray) := q6; have hX6 : Hid (Blk w6 w.heap.size 23 (cells8 r0).toArray) := hX5.out.kept k6 (by have := hd.out; omega); have hY6 : Hid (Blk w6 (w.heap.size + 1) 23 (cells8 r1).toArray) := hY5.out.kept k6 (by have := hd.out; omega); have hb6 : Hid (Below w.heap.size w w6) := hb5.out.trans (Kept.below_of k6 (by have := hd.out; omega) hb5.out.size); have hM6 : Hid (Blk w6 m13 23 (cells8 r0).toArray) := hM5.out.kept k6 (by have := hd.out; omega); clear q6 k6)
                | ((with_reducible change wpList _ _ _ ({ dst := some 56, op := _, type := _, pos := _, after := _, guard := _ } :: _) _ _); refine wpList_load_row (o := ⟨some 56, _, _, _, _, _⟩) rfl 23 (.tmp 13) rfl (m13) rfl 23 ((cells8 r0).toArray) (0, 0) _ hM6.out Tryd.underlying23 rfl F0.out.size ?_)
                | ((with_reducible change wpList _ _ _ ({ dst := some 57, op := _, type := _, pos := _, after := _, guard := _ } :: _) _ _); refine wpList_load_row (o := ⟨some 57, _, _, _, _, _⟩) rfl 23 (.tmp 9) rfl (w.heap.size) rfl 23 ((cells8 r0).toArray) (0, 0) _ hX6.out Tryd.underlying23 rfl F0.out.size ?_)
                | ((with_reducible change wpList _ _ _ ({ dst := some 60, op := _, type := _, pos := _, after := _, guard := _ } :: _) _ _); refine wpList_load_rowG (o := ⟨some 60, _, _, _, _, _⟩) rfl 23 (.tmp 14) rfl (m14) rfl 23 ((cells8 r0).toArray) (0, 0) _ hN6.out Tryd.underlying23 rfl F0.out.size ?_)
                | ((with_reducible change wpList _ _ _ ({ dst := some 61, op := _, type := _, pos := _, after := _, guard := _ } :: _) _ _); refine wpList_load_rowG (o := ⟨some 61, _, _, _, _, _⟩) rfl 23 (.tmp 10) rfl (w.heap.size + 1) rfl 23 ((cells8 r1).toArray) (0, 0) _ hY6.out Tryd.underlying23 rfl F1.out.size ?_))
              go_ret
              exact ⟨by first | (rw [ha]; rfl) | rfl, hb6.out⟩
          · have qa : ∀ w, (Op.equalIn 10000 23 (.agg (cells8 r0).toArray) (.agg (cells8 r0).toArray)).run Tryd.prog w = .ok false w := fun w => by rw [hqa.out w, decide_eq_false hv1]
            have ha : ans = 171 := by rw [hans.out, if_neg (fun h => hv1 h.1)]
            clear hv1
            go_wp2_with (first
              | ((with_reducible change wpList _ _ _ ({ dst := some 51, op := _, type := _, pos := _, after := _, guard := _ } :: _) _ _); refine wpList_load_row (o := ⟨some 51, _, _, _, _, _⟩) rfl 23 (.tmp 9) rfl (w.heap.size) rfl 23 ((cells8 r0).toArray) (0, 0) _ hX5.out Tryd.underlying23 rfl F0.out.size ?_)
              | ((with_reducible change wpList _ _ _ ({ dst := none, op := Op.store 23 (.tmp 14) _, type := _, pos := _, after := _, guard := _ } :: _) _ _); refine wpList_store_whole (o := ⟨none, _, _, _, _, _⟩) rfl 23 (.tmp 14) (.tmp 51) rfl (m14) ((cells8 r0).toArray) rfl rfl 23 ((cells8 r1).toArray) hN5.out F0.out.size (F0.out.same r1 l1.out) F0.out.one ?_; intro w6 q6 k6; have hN6 : Hid (Blk w6 m14 23 (cells8 r0).toArray) := q6; have hX6 : Hid (Blk w6 w.heap.size 23 (cells8 r0).toArray) := hX5.out.kept k6 (by have := hd.out; omega); have hY6 : Hid (Blk w6 (w.heap.size + 1) 23 (cells8 r1).toArray) := hY5.out.kept k6 (by have := hd.out; omega); have hb6 : Hid (Below w.heap.size w w6) := hb5.out.trans (Kept.below_of k6 (by have := hd.out; omega) hb5.out.size); have hM6 : Hid (Blk w6 m13 23 (cells8 r0).toArray) := hM5.out.kept k6 (by have := hd.out; omega); clear q6 k6)
              | ((with_reducible change wpList _ _ _ ({ dst := some 56, op := _, type := _, pos := _, after := _, guard := _ } :: _) _ _); refine wpList_load_row (o := ⟨some 56, _, _, _, _, _⟩) rfl 23 (.tmp 13) rfl (m13) rfl 23 ((cells8 r0).toArray) (0, 0) _ hM6.out Tryd.underlying23 rfl F0.out.size ?_)
              | ((with_reducible change wpList _ _ _ ({ dst := some 57, op := _, type := _, pos := _, after := _, guard := _ } :: _) _ _); refine wpList_load_row (o := ⟨some 57, _, _, _, _, _⟩) rfl 23 (.tmp 9) rfl (w.heap.size) rfl 23 ((cells8 r0).toArray) (0, 0) _ hX6.out Tryd.underlying23 rfl F0.out.size ?_)
              | ((with_reducible change wpList _ _ _ ({ dst := some 60, op := _, type := _, pos := _, after := _, guard := _ } :: _) _ _); refine wpList_load_rowG (o := ⟨some 60, _, _, _, _, _⟩) rfl 23 (.tmp 14) rfl (m14) rfl 23 ((cells8 r0).toArray) (0, 0) _ hN6.out Tryd.underlying23 rfl F0.out.size ?_)
              | ((with_reducible change wpList _ _ _ ({ dst := some 61, op := _, type := _, pos := _, after := _, guard := _ } :: _) _ _); refine wpList_load_rowG (o := ⟨some 61, _, _, _, _, _⟩) rfl 23 (.tmp 10) rfl (w.heap.size + 1) rfl 23 ((cells8 r1).toArray) (0, 0) _ hY6.out Tryd.underlying23 rfl F1.out.size ?_))
            go_ret
            exact ⟨by first | (rw [ha]; rfl) | rfl, hb6.out⟩
        · have t3 : ((old : Int) == (size : Int)) = false := beq_eq_false_iff_ne.2 (by omega)
          have t5 : ¬ old = size := hz
          have hbe : (aheadOf s old size r0 ds).sr = vb := (hB2.out hz ho).symm
          have hae : (aheadOf s old size r0 ds).fr = va := (hA2.out ho hz).symm
          have hAhead : Hid (∀ w', Below w.heap.size w w' → Calls Tryd.prog 158 #[.int .i64 s, .int .i64 (old : Int), .int .i64 (size : Int), .agg (cells8 r0).toArray, .slice A m c] w' (fun e w'' => ∃ A9 n9 c9, e = .returned (.tuple #[.agg (cells8 va).toArray, .agg (cells8 vb).toArray, .slice A9 n9 c9]) ∧ Below w'.heap.size w' w'')) := fun w' hb => by
            refine (hva.out w' hb (by omega) (by have := hle.out; omega)).mono ?_
            rintro e w'' ⟨A9, c9, xs, rfl, -, -, hk⟩
            rw [hae, hbe]
            exact ⟨A9, _, c9, rfl, hk⟩
          have hM5 := hM13
          have hN5 := hM14
          clear hA0 hA1 hA2 hB0 hB1 hB2 ho hz hM13 hM14 hae hbe hva
          by_cases hv1 : va = r0
          · by_cases hv2 : vb = r1
            · have qa : ∀ w, (Op.equalIn 10000 23 (.agg (cells8 va).toArray) (.agg (cells8 r0).toArray)).run Tryd.prog w = .ok true w := fun w => by rw [hqa.out w, decide_eq_true hv1]
              have qb : ∀ w, (Op.equalIn 10000 23 (.agg (cells8 vb).toArray) (.agg (cells8 r1).toArray)).run Tryd.prog w = .ok true w := fun w => by rw [hqb.out w, decide_eq_true hv2]
              have ha : ans = 0 := by rw [hans.out, if_pos ⟨hv1, hv2⟩]
              clear hv1 hv2
              go_wp2_with (first
                | ((with_reducible change wpList _ _ _ ({ dst := some 32, op := _, type := _, pos := _, after := _, guard := _ } :: _) _ _); refine wpList_load_row (o := ⟨some 32, _, _, _, _, _⟩) rfl 23 (.tmp 9) rfl (w.heap.size) rfl 23 ((cells8 r0).toArray) (0, 0) _ hX5.out Tryd.underlying23 rfl F0.out.size ?_)
                | (go_at_call 158; refine (hAhead.out _ hb5.out).mono ?_; rintro e w6 ⟨A9, n9, c9, rfl, kk6⟩; have hX6 : Hid (Blk w6 w.heap.size 23 (cells8 r0).toArray) := Blk.onA hX5.out kk6; have hY6 : Hid (Blk w6 (w.heap.size + 1) 23 (cells8 r1).toArray) := Blk.onA hY5.out kk6; have hb6 : Hid (Below w.heap.size w w6) := hb5.out.trans (kk6.mono hb5.out.size); have hM6 : Hid (Blk w6 m13 23 (cells8 r0).toArray) := Blk.onA hM5.out kk6; have hN6 : Hid (Blk w6 m14 23 (cells8 r1).toArray) := Blk.onA hN5.out kk6; clear kk6)
                | ((with_reducible change wpList _ _ _ ({ dst := none, op := Op.store 23 (.tmp 13) _, type := _, pos := _, after := _, guard := _ } :: _) _ _); refine wpList_store_whole (o := ⟨none, _, _, _, _, _⟩) rfl 23 (.tmp 13) (.tmp 35) rfl (m13) ((cells8 va).toArray) rfl rfl 23 ((cells8 r0).toArray) hM6.out Fa.out.size (Fa.out.same r0 l0.out) Fa.out.one ?_; intro w7 q7 k7; have hM7 : Hid (Blk w7 m13 23 (cells8 va).toArray) := q7; have hX7 : Hid (Blk w7 w.heap.size 23 (cells8 r0).toArray) := hX6.out.kept k7 (by have := hd.out; omega); have hY7 : Hid (Blk w7 (w.heap.size + 1) 23 (cells8 r1).toArray) := hY6.out.kept k7 (by have := hd.out; omega); have hb7 : Hid (Below w.heap.size w w7) := hb6.out.trans (Kept.below_of k7 (by have := hd.out; omega) hb6.out.size); have hN7 : Hid (Blk w7 m14 23 (cells8 r1).toArray) := hN6.out.kept k7 (by have := hd.out; omega); clear q7 k7)
                | ((with_reducible change wpList _ _ _ ({ dst := none, op := Op.store 23 (.tmp 14) _, type := _, pos := _, after := _, guard := _ } :: _) _ _); refine wpList_store_whole (o := ⟨none, _, _, _, _, _⟩) rfl 23 (.tmp 14) (.tmp 36) rfl (m14) ((cells8 vb).toArray) rfl rfl 23 ((cells8 r1).toArray) hN7.out Fb.out.size (Fb.out.same r1 l1.out) Fb.out.one ?_; intro w8 q8 k8; have hN8 : Hid (Blk w8 m14 23 (cells8 vb).toArray) := q8; have hX8 : Hid (Blk w8 w.heap.size 23 (cells8 r0).toArray) := hX7.out.kept k8 (by have := hd.out; omega); have hY8 : Hid (Blk w8 (w.heap.size + 1) 23 (cells8 r1).toArray) := hY7.out.kept k8 (by have := hd.out; omega); have hb8 : Hid (Below w.heap.size w w8) := hb7.out.trans (Kept.below_of k8 (by have := hd.out; omega) hb7.out.size); have hM8 : Hid (Blk w8 m13 23 (cells8 va).toArray) := hM7.out.kept k8 (by have := hd.out; omega); clear q8 k8)
                | ((with_reducible change wpList _ _ _ ({ dst := some 56, op := _, type := _, pos := _, after := _, guard := _ } :: _) _ _); refine wpList_load_row (o := ⟨some 56, _, _, _, _, _⟩) rfl 23 (.tmp 13) rfl (m13) rfl 23 ((cells8 va).toArray) (0, 0) _ hM8.out Tryd.underlying23 rfl Fa.out.size ?_)
                | ((with_reducible change wpList _ _ _ ({ dst := some 57, op := _, type := _, pos := _, after := _, guard := _ } :: _) _ _); refine wpList_load_row (o := ⟨some 57, _, _, _, _, _⟩) rfl 23 (.tmp 9) rfl (w.heap.size) rfl 23 ((cells8 r0).toArray) (0, 0) _ hX8.out Tryd.underlying23 rfl F0.out.size ?_)
                | ((with_reducible change wpList _ _ _ ({ dst := some 60, op := _, type := _, pos := _, after := _, guard := _ } :: _) _ _); refine wpList_load_rowG (o := ⟨some 60, _, _, _, _, _⟩) rfl 23 (.tmp 14) rfl (m14) rfl 23 ((cells8 vb).toArray) (0, 0) _ hN8.out Tryd.underlying23 rfl Fb.out.size ?_)
                | ((with_reducible change wpList _ _ _ ({ dst := some 61, op := _, type := _, pos := _, after := _, guard := _ } :: _) _ _); refine wpList_load_rowG (o := ⟨some 61, _, _, _, _, _⟩) rfl 23 (.tmp 10) rfl (w.heap.size + 1) rfl 23 ((cells8 r1).toArray) (0, 0) _ hY8.out Tryd.underlying23 rfl F1.out.size ?_))
              go_ret
              exact ⟨by first | (rw [ha]; rfl) | rfl, hb8.out⟩
            · have qa : ∀ w, (Op.equalIn 10000 23 (.agg (cells8 va).toArray) (.agg (cells8 r0).toArray)).run Tryd.prog w = .ok true w := fun w => by rw [hqa.out w, decide_eq_true hv1]
              have qb : ∀ w, (Op.equalIn 10000 23 (.agg (cells8 vb).toArray) (.agg (cells8 r1).toArray)).run Tryd.prog w = .ok false w := fun w => by rw [hqb.out w, decide_eq_false hv2]
              have ha : ans = 171 := by rw [hans.out, if_neg (fun h => hv2 h.2)]
              clear hv1 hv2
              go_wp2_with (first
                | ((with_reducible change wpList _ _ _ ({ dst := some 32, op := _, type := _, pos := _, after := _, guard := _ } :: _) _ _); refine wpList_load_row (o := ⟨some 32, _, _, _, _, _⟩) rfl 23 (.tmp 9) rfl (w.heap.size) rfl 23 ((cells8 r0).toArray) (0, 0) _ hX5.out Tryd.underlying23 rfl F0.out.size ?_)
                | (go_at_call 158; refine (hAhead.out _ hb5.out).mono ?_; rintro e w6 ⟨A9, n9, c9, rfl, kk6⟩; have hX6 : Hid (Blk w6 w.heap.size 23 (cells8 r0).toArray) := Blk.onA hX5.out kk6; have hY6 : Hid (Blk w6 (w.heap.size + 1) 23 (cells8 r1).toArray) := Blk.onA hY5.out kk6; have hb6 : Hid (Below w.heap.size w w6) := hb5.out.trans (kk6.mono hb5.out.size); have hM6 : Hid (Blk w6 m13 23 (cells8 r0).toArray) := Blk.onA hM5.out kk6; have hN6 : Hid (Blk w6 m14 23 (cells8 r1).toArray) := Blk.onA hN5.out kk6; clear kk6)
                | ((with_reducible change wpList _ _ _ ({ dst := none, op := Op.store 23 (.tmp 13) _, type := _, pos := _, after := _, guard := _ } :: _) _ _); refine wpList_store_whole (o := ⟨none, _, _, _, _, _⟩) rfl 23 (.tmp 13) (.tmp 35) rfl (m13) ((cells8 va).toArray) rfl rfl 23 ((cells8 r0).toArray) hM6.out Fa.out.size (Fa.out.same r0 l0.out) Fa.out.one ?_; intro w7 q7 k7; have hM7 : Hid (Blk w7 m13 23 (cells8 va).toArray) := q7; have hX7 : Hid (Blk w7 w.heap.size 23 (cells8 r0).toArray) := hX6.out.kept k7 (by have := hd.out; omega); have hY7 : Hid (Blk w7 (w.heap.size + 1) 23 (cells8 r1).toArray) := hY6.out.kept k7 (by have := hd.out; omega); have hb7 : Hid (Below w.heap.size w w7) := hb6.out.trans (Kept.below_of k7 (by have := hd.out; omega) hb6.out.size); have hN7 : Hid (Blk w7 m14 23 (cells8 r1).toArray) := hN6.out.kept k7 (by have := hd.out; omega); clear q7 k7)
                | ((with_reducible change wpList _ _ _ ({ dst := none, op := Op.store 23 (.tmp 14) _, type := _, pos := _, after := _, guard := _ } :: _) _ _); refine wpList_store_whole (o := ⟨none, _, _, _, _, _⟩) rfl 23 (.tmp 14) (.tmp 36) rfl (m14) ((cells8 vb).toArray) rfl rfl 23 ((cells8 r1).toArray) hN7.out Fb.out.size (Fb.out.same r1 l1.out) Fb.out.one ?_; intro w8 q8 k8; have hN8 : Hid (Blk w8 m14 23 (cells8 vb).toArray) := q8; have hX8 : Hid (Blk w8 w.heap.size 23 (cells8 r0).toArray) := hX7.out.kept k8 (by have := hd.out; omega); have hY8 : Hid (Blk w8 (w.heap.size + 1) 23 (cells8 r1).toArray) := hY7.out.kept k8 (by have := hd.out; omega); have hb8 : Hid (Below w.heap.size w w8) := hb7.out.trans (Kept.below_of k8 (by have := hd.out; omega) hb7.out.size); have hM8 : Hid (Blk w8 m13 23 (cells8 va).toArray) := hM7.out.kept k8 (by have := hd.out; omega); clear q8 k8)
                | ((with_reducible change wpList _ _ _ ({ dst := some 56, op := _, type := _, pos := _, after := _, guard := _ } :: _) _ _); refine wpList_load_row (o := ⟨some 56, _, _, _, _, _⟩) rfl 23 (.tmp 13) rfl (m13) rfl 23 ((cells8 va).toArray) (0, 0) _ hM8.out Tryd.underlying23 rfl Fa.out.size ?_)
                | ((with_reducible change wpList _ _ _ ({ dst := some 57, op := _, type := _, pos := _, after := _, guard := _ } :: _) _ _); refine wpList_load_row (o := ⟨some 57, _, _, _, _, _⟩) rfl 23 (.tmp 9) rfl (w.heap.size) rfl 23 ((cells8 r0).toArray) (0, 0) _ hX8.out Tryd.underlying23 rfl F0.out.size ?_)
                | ((with_reducible change wpList _ _ _ ({ dst := some 60, op := _, type := _, pos := _, after := _, guard := _ } :: _) _ _); refine wpList_load_rowG (o := ⟨some 60, _, _, _, _, _⟩) rfl 23 (.tmp 14) rfl (m14) rfl 23 ((cells8 vb).toArray) (0, 0) _ hN8.out Tryd.underlying23 rfl Fb.out.size ?_)
                | ((with_reducible change wpList _ _ _ ({ dst := some 61, op := _, type := _, pos := _, after := _, guard := _ } :: _) _ _); refine wpList_load_rowG (o := ⟨some 61, _, _, _, _, _⟩) rfl 23 (.tmp 10) rfl (w.heap.size + 1) rfl 23 ((cells8 r1).toArray) (0, 0) _ hY8.out Tryd.underlying23 rfl F1.out.size ?_))
              go_ret
              exact ⟨by first | (rw [ha]; rfl) | rfl, hb8.out⟩
          · have qa : ∀ w, (Op.equalIn 10000 23 (.agg (cells8 va).toArray) (.agg (cells8 r0).toArray)).run Tryd.prog w = .ok false w := fun w => by rw [hqa.out w, decide_eq_false hv1]
            have ha : ans = 171 := by rw [hans.out, if_neg (fun h => hv1 h.1)]
            clear hv1
            go_wp2_with (first
              | ((with_reducible change wpList _ _ _ ({ dst := some 32, op := _, type := _, pos := _, after := _, guard := _ } :: _) _ _); refine wpList_load_row (o := ⟨some 32, _, _, _, _, _⟩) rfl 23 (.tmp 9) rfl (w.heap.size) rfl 23 ((cells8 r0).toArray) (0, 0) _ hX5.out Tryd.underlying23 rfl F0.out.size ?_)
              | (go_at_call 158; refine (hAhead.out _ hb5.out).mono ?_; rintro e w6 ⟨A9, n9, c9, rfl, kk6⟩; have hX6 : Hid (Blk w6 w.heap.size 23 (cells8 r0).toArray) := Blk.onA hX5.out kk6; have hY6 : Hid (Blk w6 (w.heap.size + 1) 23 (cells8 r1).toArray) := Blk.onA hY5.out kk6; have hb6 : Hid (Below w.heap.size w w6) := hb5.out.trans (kk6.mono hb5.out.size); have hM6 : Hid (Blk w6 m13 23 (cells8 r0).toArray) := Blk.onA hM5.out kk6; have hN6 : Hid (Blk w6 m14 23 (cells8 r1).toArray) := Blk.onA hN5.out kk6; clear kk6)
              | ((with_reducible change wpList _ _ _ ({ dst := none, op := Op.store 23 (.tmp 13) _, type := _, pos := _, after := _, guard := _ } :: _) _ _); refine wpList_store_whole (o := ⟨none, _, _, _, _, _⟩) rfl 23 (.tmp 13) (.tmp 35) rfl (m13) ((cells8 va).toArray) rfl rfl 23 ((cells8 r0).toArray) hM6.out Fa.out.size (Fa.out.same r0 l0.out) Fa.out.one ?_; intro w7 q7 k7; have hM7 : Hid (Blk w7 m13 23 (cells8 va).toArray) := q7; have hX7 : Hid (Blk w7 w.heap.size 23 (cells8 r0).toArray) := hX6.out.kept k7 (by have := hd.out; omega); have hY7 : Hid (Blk w7 (w.heap.size + 1) 23 (cells8 r1).toArray) := hY6.out.kept k7 (by have := hd.out; omega); have hb7 : Hid (Below w.heap.size w w7) := hb6.out.trans (Kept.below_of k7 (by have := hd.out; omega) hb6.out.size); have hN7 : Hid (Blk w7 m14 23 (cells8 r1).toArray) := hN6.out.kept k7 (by have := hd.out; omega); clear q7 k7)
              | ((with_reducible change wpList _ _ _ ({ dst := none, op := Op.store 23 (.tmp 14) _, type := _, pos := _, after := _, guard := _ } :: _) _ _); refine wpList_store_whole (o := ⟨none, _, _, _, _, _⟩) rfl 23 (.tmp 14) (.tmp 36) rfl (m14) ((cells8 vb).toArray) rfl rfl 23 ((cells8 r1).toArray) hN7.out Fb.out.size (Fb.out.same r1 l1.out) Fb.out.one ?_; intro w8 q8 k8; have hN8 : Hid (Blk w8 m14 23 (cells8 vb).toArray) := q8; have hX8 : Hid (Blk w8 w.heap.size 23 (cells8 r0).toArray) := hX7.out.kept k8 (by have := hd.out; omega); have hY8 : Hid (Blk w8 (w.heap.size + 1) 23 (cells8 r1).toArray) := hY7.out.kept k8 (by have := hd.out; omega); have hb8 : Hid (Below w.heap.size w w8) := hb7.out.trans (Kept.below_of k8 (by have := hd.out; omega) hb7.out.size); have hM8 : Hid (Blk w8 m13 23 (cells8 va).toArray) := hM7.out.kept k8 (by have := hd.out; omega); clear q8 k8)
              | ((with_reducible change wpList _ _ _ ({ dst := some 56, op := _, type := _, pos := _, after := _, guard := _ } :: _) _ _); refine wpList_load_row (o := ⟨some 56, _, _, _, _, _⟩) rfl 23 (.tmp 13) rfl (m13) rfl 23 ((cells8 va).toArray) (0, 0) _ hM8.out Tryd.underlying23 rfl Fa.out.size ?_)
              | ((with_reducible change wpList _ _ _ ({ dst := some 57, op := _, type := _, pos := _, after := _, guard := _ } :: _) _ _); refine wpList_load_row (o := ⟨some 57, _, _, _, _, _⟩) rfl 23 (.tmp 9) rfl (w.heap.size) rfl 23 ((cells8 r0).toArray) (0, 0) _ hX8.out Tryd.underlying23 rfl F0.out.size ?_)
              | ((with_reducible change wpList _ _ _ ({ dst := some 60, op := _, type := _, pos := _, after := _, guard := _ } :: _) _ _); refine wpList_load_rowG (o := ⟨some 60, _, _, _, _, _⟩) rfl 23 (.tmp 14) rfl (m14) rfl 23 ((cells8 vb).toArray) (0, 0) _ hN8.out Tryd.underlying23 rfl Fb.out.size ?_)
              | ((with_reducible change wpList _ _ _ ({ dst := some 61, op := _, type := _, pos := _, after := _, guard := _ } :: _) _ _); refine wpList_load_rowG (o := ⟨some 61, _, _, _, _, _⟩) rfl 23 (.tmp 10) rfl (w.heap.size + 1) rfl 23 ((cells8 r1).toArray) (0, 0) _ hY8.out Tryd.underlying23 rfl F1.out.size ?_))
            go_ret
            exact ⟨by first | (rw [ha]; rfl) | rfl, hb8.out⟩
  · rw [if_pos hmn] at hans
    subst hans
    have e1 : ((n : Int) == (m : Int)) = false := beq_eq_false_iff_ne.2 (by omega)
    have e2 : ¬ n = m := fun e => hmn e.symm
    clear hj hB hr hs h0 h1 hpl hm han hmn
    go_enter Tryd.func105, Tryd.ntmps105
    go_wp2_with fail
    change Calls _ _ _ ((w.alloc (.cells (cells8 r0).toArray 23)).alloc (.cells (cells8 r1).toArray 23)) _
    rw [← hw0.out]
    clear hw0
    refine (hSz.out _).mono ?_
    rintro e w1 ⟨rfl, rfl⟩
    go_wp2_with fail
    refine (hPt.out _).mono ?_
    rintro e w4 ⟨v, rfl, hO, hk1⟩
    rw [hpm.out] at hO
    obtain ⟨Ap, cp, rfl, -⟩ := Append.Own.reads hO
    have hb4 : Hid (Below w.heap.size w w4) := hb0.out.trans (hk1.mono hb0.out.size)
    clear hO hk1
    go_wp2_with fail
    go_ret
    exact ⟨rfl, hb4.out⟩
theorem agree_any (s old size : Int) (r0 r1 : Text) (h0 : r0.length = 32) (h1 : r1.length = 32) (ds : List Text) (A : Option Addr) (n c : Nat) (w : World) (hB : Base w) (hr : RdD w A n ds) :
    Calls Tryd.prog 105 #[.int .i64 s, .int .i64 old, .int .i64 size, .agg (cells8 r0).toArray, .agg (cells8 r1).toArray, .slice A n c] w fun e w' => e = .returned (.int .i64 (agreeOf s old size r0 r1 ds)) ∧ Below w.heap.size w w' := by
  cases hj : joinsB old size with
  | false =>
    rw [show agreeOf s old size r0 r1 ds = 60 from if_pos hj]
    exact agree_out s old size hj r0 r1 A n c w
  | true =>
    have h2 := hj
    simp only [joinsB, Bool.and_eq_true, decide_eq_true_eq] at h2
    obtain ⟨o, rfl⟩ := Int.eq_ofNat_of_zero_le h2.1.1
    obtain ⟨z, rfl⟩ := Int.eq_ofNat_of_zero_le (show 0 ≤ size by omega)
    exact agree_in s o z (by omega) (by omega) r0 r1 h0 h1 ds A n c w hB hr
end Go.Proofs.YtgldkfaiofkhbaaDoor.Agree

namespace Go.Proofs.YtgldkfaiofkhbaaDoor.RefAgree
open Go Go.RowKit Go.Proofs.YtgldkfaiofkhbaaDoor Go.Proofs.YtgldkfaiofkhbaaDoor.Digest Go.Proofs.YtgldkfaiofkhbaaDoor.Mem Go.Proofs.YtgldkfaiofkhbaaDoor.Sha Go.Proofs.YtgldkfaiofkhbaaDoor.ShaWalk Go.Proofs.YtgldkfaiofkhbaaDoor.Bytes Go.Proofs.YtgldkfaiofkhbaaDoor.Append Go.Proofs.YtgldkfaiofkhbaaDoor.HashMem Go.Proofs.YtgldkfaiofkhbaaDoor.DigestMem Go.Proofs.YtgldkfaiofkhbaaDoor.DigestTop Go.Proofs.YtgldkfaiofkhbaaDoor.RefTop Go.Proofs.YtgldkfaiofkhbaaDoor.DigEq Go.Proofs.YtgldkfaiofkhbaaDoor.QuietTail Go.Proofs.YtgldkfaiofkhbaaDoor.Grown Go.Proofs.YtgldkfaiofkhbaaDoor.TreeMath Go.Proofs.YtgldkfaiofkhbaaDoor.TreeMem Go.Proofs.YtgldkfaiofkhbaaDoor.TreeRoot Go.Proofs.YtgldkfaiofkhbaaDoor.Held Go.Proofs.YtgldkfaiofkhbaaDoor.Guard Go.Proofs.YtgldkfaiofkhbaaDoor.Book Go.Proofs.YtgldkfaiofkhbaaDoor.Subs Go.Proofs.YtgldkfaiofkhbaaDoor.RowsP Go.Proofs.YtgldkfaiofkhbaaDoor.Joint Go.Proofs.YtgldkfaiofkhbaaDoor.SubRef Go.Proofs.YtgldkfaiofkhbaaDoor.AheadM Go.Proofs.YtgldkfaiofkhbaaDoor.AheadT Go.Proofs.YtgldkfaiofkhbaaDoor.RefIncl0 Go.Proofs.YtgldkfaiofkhbaaDoor.RefAhead Go.Proofs.YtgldkfaiofkhbaaDoor.Agree

end Go.Proofs.YtgldkfaiofkhbaaDoor.RefAgree

namespace Go.Proofs.YtgldkfaiofkhbaaDoor.HeadSign
open Go Go.RowKit Go.Proofs.YtgldkfaiofkhbaaDoor Go.Proofs.YtgldkfaiofkhbaaDoor.Mem Go.Proofs.YtgldkfaiofkhbaaDoor.Sha Go.Proofs.YtgldkfaiofkhbaaDoor.Bytes Go.Proofs.YtgldkfaiofkhbaaDoor.HashMem Go.Proofs.YtgldkfaiofkhbaaDoor.Append Go.Proofs.YtgldkfaiofkhbaaDoor.DigestMem Go.Proofs.YtgldkfaiofkhbaaDoor.Digest Go.Proofs.YtgldkfaiofkhbaaDoor.Mac Go.Proofs.YtgldkfaiofkhbaaDoor.HeadMem Go.Proofs.YtgldkfaiofkhbaaDoor.HeadID Go.Proofs.YtgldkfaiofkhbaaDoor.HeadEnc Go.Proofs.YtgldkfaiofkhbaaDoor.Sign Go.Proofs.YtgldkfaiofkhbaaDoor.Held

theorem exec_build {P : Program} {w : World} {o : Oper} {ρ : Operand → Value} (ty : TypeId) (parts : Array (Nat × Operand)) (ho : o.op = .build ty parts) (vals : Array (Nat × Value)) (hp : (parts.map fun (i, x) => (i, ρ x)) = vals) (v : Value) (h : (Instr.build ty vals).run P w = .ok v w) : (execOp ρ o).run P w = .ok (.value v) w := by
  unfold execOp
  simp only [ho, hp, Sem.run_bind, Sem.run_pure, Result.andThen_ok, h]

set_option maxRecDepth 100000 in
set_option maxHeartbeats 1000000 in
theorem sign_any (h : HeadD) (ok : h.Ok) (hr : rightB h = true) (q : Text) (k : Nat) (hk : q.length = k) (hk64 : k ≤ 64) (A : Option Addr) (c : Nat) (w : World) (hB : Base w) (hq : Reads w 1 A k (cells8 q)) (hc : k ≤ c) (hnil : A = none → k = 0 ∧ c = 0) :
    Calls Tryd.prog 157 #[.agg (headCells h).toArray, .slice A k c] w fun e w' => e = .returned (.agg (cells8 (signOf h q)).toArray) ∧ Below w.heap.size w w' := by
  obtain ⟨w0, hw0⟩ : ∃ w0, Hid (w0 = (w.alloc (.cells (headCells h).toArray 36)).alloc (.cells Z64 116)) := ⟨_, rfl⟩
  have hH : Hid (Blk w0 w.heap.size 36 (headCells h).toArray) := by show Blk _ _ _ _; rw [hw0.out]; exact heap_alloc2_old w _ _
  have hS : Hid (Blk w0 (w.heap.size + 1) 116 Z64) := by show Blk _ _ _ _; rw [hw0.out]; exact heap_alloc2_new w _ _
  have hbw : Hid (Below w.heap.size w w0) := by show Below _ _ _; rw [hw0.out]; exact ((Below.refl _ w).alloc (Nat.le_refl _) _).alloc (by simp) _
  have hz1 : Hid (w.heap.size + 1 ≤ w0.heap.size) := Nat.le_of_lt hS.out.lt
  have hsz : Hid ((Tryd.prog.info? 36).map (·.size) = some (headCells h).toArray.size) := by show _ = _; rw [List.size_toArray, headCells_len ok]; exact size98
  have hlen := Lib.hid (headBytes_len ok)
  have z9 := Lib.hid (sign_size _ (signOf_len h q))
  replace ok := Lib.hid ok
  replace hr := Lib.hid hr
  replace hk := Lib.hid hk
  replace hB := Lib.hid hB
  replace hq := Lib.hid hq
  replace hnil := Lib.hid hnil
  go_enter Tryd.func157, Tryd.ntmps157
  go_wp2_with fail
  change (Code.region _ _ _).wp _ _ _ ((w.alloc (.cells (headCells h).toArray 36)).alloc (.cells Z64 116))
  rw [← hw0.out]
  clear hw0
  have s0 : Hid (Below w0.heap.size w0 w0.drew) := (Below.refl _ _).drew
  refine held_start (fun w' => Below (w.heap.size + 1) w0 w') 8 rfl (by kernel_rfl) ?_
  refine held_take (i := 0) (v := .slice A k c) rfl (by kernel_rfl) (by kernel_rfl) (by kernel_rfl) (fun _ _ _ h => h) (s0.out.mono hz1.out) (by rfl) (fun w' hw' => by go_simp) ?_
  (intro K hK; go_simp; refine hK _ ?_; clear hK K)
  refine held_take (i := 2) (v := .slice A k c) rfl (by kernel_rfl) (by kernel_rfl) (by kernel_rfl) (fun _ _ _ h => h) (s0.out.mono hz1.out) (by rfl) (fun w' hw' => by go_simp) ?_
  (intro K hK; go_simp; refine hK _ ?_; clear hK K)
  refine held_take (i := 3) (v := .agg ((headCells h).toArray)) rfl (by kernel_rfl) (by kernel_rfl) (by kernel_rfl) (fun _ _ _ h => h) (s0.out.mono hz1.out) (by rfl) (fun w' hw' => exec_row 36 (.tmp 2) rfl (w.heap.size) rfl 36 ((headCells h).toArray) (0, 0) _ ((hw'.block _ (by omega)).trans hH.out) Tryd.underlying36 rfl hsz.out) ?_
  (intro K hK; go_simp; refine hK _ ?_; clear hK K)
  refine held_only (i := 1) rfl (by kernel_rfl) (by rfl) (fun K hK => ?_)
  refine wp_fn (R := fun v w'' => v = .agg (cells8 (idOf q)).toArray ∧ Below w0.heap.size w0 w'') (args := #[.slice A k c]) _ _ rfl rfl Tryd.func46 (by kernel_rfl) (by kernel_rfl) ((id_any q k hk.out A c w0.drew (hB.out.below (hbw.out.trans (s0.out.mono hbw.out.size)) hB.out.1) (hq.out.below (hbw.out.trans (s0.out.mono hbw.out.size))) hc (by omega) hnil.out).mono fun e w'' ⟨he, hb⟩ => ⟨_, he, rfl, s0.out.trans (hb.mono s0.out.size)⟩) ?_
  rintro v1 w1 ⟨rfl, k1⟩
  replace k1 := Lib.hid k1
  go_simp
  refine hK _ _ (k1.out.mono hz1.out) ?_
  clear hK K
  refine held_only (i := 4) rfl (by kernel_rfl) (by rfl) (fun K hK => ?_)
  refine wp_fn (R := fun v w'' => ∃ A1 c1, v = .slice A1 113 c1 ∧ 113 ≤ c1 ∧ Reads w'' 1 A1 113 (cells8 (headBytes h)) ∧ Below w0.heap.size w0 w'') (args := #[.agg (headCells h).toArray]) _ _ rfl rfl Tryd.func180 (by kernel_rfl) (by kernel_rfl) ((laid_any h ok.out hr.out w1).mono fun e w'' ⟨v, he, hb, ho⟩ => by obtain ⟨A1, c1, rfl, g1, _, _, g2, _⟩ := Own.reads ho; exact ⟨_, he, A1, c1, rfl, g1, g2, k1.out.trans (hb.mono k1.out.size)⟩) ?_
  rintro v2 w2 ⟨A1, c1, rfl, g1, g2, k2⟩
  replace k2 := Lib.hid k2
  replace g2 := Lib.hid g2
  go_simp
  refine hK _ _ (k2.out.mono hz1.out) ?_
  clear hK K
  refine held_only (i := 5) rfl (by kernel_rfl) (by rfl) (fun K hK => ?_)
  refine wp_fn (R := fun v w'' => v = .agg (cells8 (macOf q (headBytes h))).toArray ∧ Below w0.heap.size w0 w'') (args := #[.slice A k c, .slice A1 113 c1]) _ _ rfl rfl Tryd.func179 (by kernel_rfl) (by kernel_rfl) ((mac_any q (headBytes h) k 113 hk.out hlen.out hk64 A A1 c c1 w2 (hB.out.below (hbw.out.trans (k2.out.mono hbw.out.size)) hB.out.1) (by omega) (hq.out.below (hbw.out.trans (k2.out.mono hbw.out.size))) g2.out g1).mono fun e w'' ⟨he, hb⟩ => ⟨_, he, rfl, k2.out.trans (hb.mono k2.out.size)⟩) ?_
  rintro v3 w3 ⟨rfl, k3⟩
  replace k3 := Lib.hid k3
  go_simp
  refine hK _ _ (k3.out.mono hz1.out) ?_
  clear hK K
  refine held_take (i := 6) (v := .agg (cells8 (signOf h q)).toArray) rfl (by kernel_rfl) (by kernel_rfl) (by kernel_rfl) (fun _ _ _ h => h) (k3.out.mono hz1.out) (by rfl) (fun w' hw' => exec_build 116 #[(0, .tmp 6), (1, .tmp 10)] rfl #[(0, .agg (cells8 (idOf q)).toArray), (1, .agg (cells8 (macOf q (headBytes h))).toArray)] (by simp; exact ⟨rfl, rfl⟩) _ (run_sign h q w')) ?_
  (intro K hK; go_simp; refine hK _ ?_; clear hK K)
  refine held_only (i := 7) rfl (by kernel_rfl) (by rfl) (fun K hK => ?_)
  refine wp_store_whole 116 (.tmp 4) (.tmp 11) rfl (w.heap.size + 1) (cells8 (signOf h q)).toArray rfl rfl 116 Z64 ((k3.out.block _ hS.out.lt).trans hS.out) (sign_size _ (signOf_len h q)) (sign_zero _ (signOf_len h q)) (sign_one _) ?_
  intro w9 B9 k9
  have b9 : Hid (Below w.heap.size w w9) := hbw.out.trans ((k3.out.mono hbw.out.size).trans (Kept.below_of k9 (by omega) (by have := hbw.out.size; have := k3.out.size; omega)))
  go_simp
  refine hK _ _ ?_ ?_
  · exact ((k3.out.mono hz1.out).trans (Kept.below_of k9 (by omega) (by have := k3.out.size; have := hz1.out; omega)))
  refine held_end (by kernel_rfl) ?_
  go_wp2_with fail
  refine bodyPost_ret (results_cell_row rfl _ _ (w.heap.size + 1) 116 (cells8 (signOf h q)).toArray (0, 0) _ rfl B9 Tryd.underlying116 rfl z9.out) rfl ?_
  exact ⟨rfl, b9.out⟩
end Go.Proofs.YtgldkfaiofkhbaaDoor.HeadSign

namespace Go.Proofs.YtgldkfaiofkhbaaDoor.Signs
open Go Go.RowKit Go.Proofs.YtgldkfaiofkhbaaDoor Go.Proofs.YtgldkfaiofkhbaaDoor.Mem Go.Proofs.YtgldkfaiofkhbaaDoor.Sha Go.Proofs.YtgldkfaiofkhbaaDoor.Bytes Go.Proofs.YtgldkfaiofkhbaaDoor.HashMem Go.Proofs.YtgldkfaiofkhbaaDoor.Append Go.Proofs.YtgldkfaiofkhbaaDoor.DigestMem Go.Proofs.YtgldkfaiofkhbaaDoor.Digest Go.Proofs.YtgldkfaiofkhbaaDoor.Mac Go.Proofs.YtgldkfaiofkhbaaDoor.HeadMem Go.Proofs.YtgldkfaiofkhbaaDoor.HeadID Go.Proofs.YtgldkfaiofkhbaaDoor.Sign Go.Proofs.YtgldkfaiofkhbaaDoor.HeadSign

/-- A key has one to 64 bytes. -/
def keyB (k : Nat) : Bool := decide (0 < (k : Int)) && decide ((k : Int) ≤ 64)
theorem keyB_yes {k : Nat} (h : keyB k = true) : 0 < k ∧ k ≤ 64 := by
  unfold keyB at h
  simp at h
  omega
set_option maxRecDepth 100000 in
theorem isKey_any (k : Nat) (A : Option Addr) (c : Nat) (w : World) :
    Calls Tryd.prog 45 #[.slice A k c] w fun e w' => e = .returned (.bool (keyB k)) ∧ w' = w := by
  by_cases h1 : (0 : Int) < (k : Int)
  · by_cases h2 : (k : Int) ≤ 64
    · have h3 : Hid (keyB k = true) := by show _ = _; simp only [keyB, h1, h2, decide_true, Bool.and_self]
      go_enter Tryd.func45, Tryd.ntmps45
      go_wp2_with fail
      go_ret
      rw [h3.out]
      exact ⟨rfl, rfl⟩
    · have h3 : Hid (keyB k = false) := by show _ = _; simp only [keyB, h2, decide_false, Bool.and_false]
      go_enter Tryd.func45, Tryd.ntmps45
      go_wp2_with fail
      go_ret
      rw [h3.out]
      exact ⟨rfl, rfl⟩
  · have h3 : Hid (keyB k = false) := by show _ = _; simp only [keyB, h1, decide_false, Bool.false_and]
    go_enter Tryd.func45, Tryd.ntmps45
    go_wp2_with fail
    go_ret
    rw [h3.out]
    exact ⟨rfl, rfl⟩

end Go.Proofs.YtgldkfaiofkhbaaDoor.Signs

namespace Go.Proofs.YtgldkfaiofkhbaaDoor.Check
open Go Go.RowKit Go.Proofs.YtgldkfaiofkhbaaDoor Go.Proofs.YtgldkfaiofkhbaaDoor.Mem Go.Proofs.YtgldkfaiofkhbaaDoor.Sha Go.Proofs.YtgldkfaiofkhbaaDoor.Bytes Go.Proofs.YtgldkfaiofkhbaaDoor.HashMem Go.Proofs.YtgldkfaiofkhbaaDoor.HashSum Go.Proofs.YtgldkfaiofkhbaaDoor.Append Go.Proofs.YtgldkfaiofkhbaaDoor.DigestMem Go.Proofs.YtgldkfaiofkhbaaDoor.Digest Go.Proofs.YtgldkfaiofkhbaaDoor.Mac Go.Proofs.YtgldkfaiofkhbaaDoor.HeadMem Go.Proofs.YtgldkfaiofkhbaaDoor.HeadID Go.Proofs.YtgldkfaiofkhbaaDoor.Sign Go.Proofs.YtgldkfaiofkhbaaDoor.HeadSign Go.Proofs.YtgldkfaiofkhbaaDoor.Signs Go.Proofs.YtgldkfaiofkhbaaDoor.DigEq Go.Proofs.YtgldkfaiofkhbaaDoor.SignEq Go.Proofs.YtgldkfaiofkhbaaDoor.QuietTail Go.Proofs.YtgldkfaiofkhbaaDoor.Grown

/-- What checking answers. -/
def checkAns (h : HeadD) (s q : Text) : Int := if keyB q.length = true ∧ idOf q = s.take 32 then (if rightB h then (if signOf h q = s then 0 else 161) else 1) else 160

set_option maxRecDepth 100000 in
set_option maxHeartbeats 1000000 in
theorem check_any (h : HeadD) (ok : h.Ok) (s : Text) (hs : s.length = 64) (q : Text) (k : Nat) (hk : q.length = k) (A : Option Addr) (c : Nat) (w : World) (hB : Base w) (hq : Reads w 1 A k (cells8 q)) (hc : k ≤ c) (hnil : A = none → k = 0 ∧ c = 0) :
    Calls Tryd.prog 103 #[.agg (headCells h).toArray, .agg (cells8 s).toArray, .slice A k c] w fun e w' => e = .returned (.int .i64 (checkAns h s q)) ∧ Below w.heap.size w w' := by
  obtain ⟨W, hW⟩ : ∃ W, Hid (W = (w.alloc (.cells (headCells h).toArray 36)).alloc (.cells (cells8 s).toArray 116)) := ⟨_, rfl⟩
  have hH : Hid (Blk W w.heap.size 36 (headCells h).toArray) := by show Blk _ _ _ _; rw [hW.out]; exact heap_alloc2_old w _ _
  have hS : Hid (Blk W (w.heap.size + 1) 116 (cells8 s).toArray) := by show Blk _ _ _ _; rw [hW.out]; exact heap_alloc2_new w _ _
  have hb0 : Hid (Below w.heap.size w W) := by show Below _ _ _; rw [hW.out]; exact ((Below.refl _ w).alloc (Nat.le_refl _) _).alloc (by simp) _
  have hcur : Hid (∀ w', Class W w' → Below w.heap.size w w') := fun w' hw' => hb0.out.trans (hw'.below.mono hb0.out.size)
  have hP : Hid (∀ w', Class W w' → ∀ j v, (cells8 (s.take 32))[j]? = some v → w'.cell? ⟨w.heap.size + 1, 0 + j, none⟩ = some v) := fun w' hw' j v hv => by
    have hb : Blk w' (w.heap.size + 1) 116 (cells8 s).toArray := (hw'.below.block _ hS.out.lt).trans hS.out
    rw [hb.cell, List.getElem?_toArray]
    exact half_a s j v hv
  have hsz : Hid ((Tryd.prog.info? 36).map (·.size) = some (headCells h).toArray.size) := by show _ = _; rw [List.size_toArray, headCells_len ok]; exact size98
  have ssz := Lib.hid (sign_size s hs)
  have hs32 : (s.take 32).length = 32 := by simp [hs]
  have z32 : Hid ((Tryd.prog.info? 23).map (·.size) = some (cells8 (s.take 32)).length) := by show _ = _; rw [cells8_len, hs32]; exact size31
  have hn := equal_dig (idOf q) (s.take 32) (idOf_len q) hs32
  have hn1 := sign_fb (signOf h q) s (signOf_len h q) hs
  have hn0 := sign_fa (signOf h q) s (signOf_len h q) hs
  have hst : (signOf h q).take 32 = idOf q := by unfold signOf; rw [List.take_append_of_le_length (by rw [idOf_len]; exact Nat.le_refl _), List.take_of_length_le (by rw [idOf_len]; exact Nat.le_refl _)]
  have hse := half_eq (signOf h q) s
  rw [hst] at hse
  replace hk := Lib.hid hk
  replace hB := Lib.hid hB
  replace hq := Lib.hid hq
  replace hnil := Lib.hid hnil
  have okh := Lib.hid ok
  clear ok hs hs32
  by_cases hkey : keyB k = true
  · have hkk := keyB_yes hkey
    have hkeyh := Lib.hid hkey
    by_cases hid : idOf q = s.take 32
    · have hne : Hid (∀ w, (Op.equalIn 10000 23 (.agg (cells8 (idOf q)).toArray) (.agg (cells8 (s.take 32)).toArray)).run Tryd.prog w = .ok true w) := fun w => by rw [hn w, decide_eq_true hid]
      by_cases hr : rightB h = true
      · have hrh := Lib.hid hr
        by_cases hsg : signOf h q = s
        · have hans : Hid (checkAns h s q = 0) := by show _ = _; unfold checkAns; rw [hk.out, if_pos ⟨hkey, hid⟩, if_pos hr, if_pos hsg]
          have hna : Hid (∀ w, (Op.equalIn 9999 23 (.agg (List.take 32 (cells8 (signOf h q))).toArray) (.agg (List.take 32 (cells8 s)).toArray)).run Tryd.prog w = .ok true w) := fun w => by rw [hn0 w, hst, decide_eq_true hid]
          have hn2 : Hid (∀ w, (Op.equalIn 9999 23 (.agg (List.take 32 (List.drop 32 (cells8 (signOf h q)))).toArray) (.agg (List.take 32 (List.drop 32 (cells8 s))).toArray)).run Tryd.prog w = .ok true w) := fun w => by rw [hn1 w, decide_eq_true (hse.1 hsg).2]
          rw [hans.out]
          clear hkey hid hr hsg hn hn1 hn0 hse hst
          go_enter Tryd.func103, Tryd.ntmps103
          go_wp2_with fail
          change (Code.region _ _ _).wp _ _ _ ((w.alloc (.cells (headCells h).toArray 36)).alloc (.cells (cells8 s).toArray 116))
          rw [← hW.out]
          refine wp_region_class (Class W) (by kernel_rfl) (by kernel_rfl) (Class.mk_ ((Below.refl _ _).drew)) ?_
          refine wpQuiet_move rfl (.tmp 2) rfl ?_
          (intro K hK; go_simp; refine hK _ ?_; clear hK K)
          refine wpQuiet_fn (v := .bool true) (args := #[.slice A k c]) rfl _ _ rfl rfl Tryd.func45 (by kernel_rfl) (by kernel_rfl) (fun w' hw' => (isKey_any k A c w').mono (fun e w'' ⟨he, hb⟩ => ⟨by rw [he, hkeyh.out], by rw [hb]; exact hw'⟩)) ?_
          (intro K hK; go_simp; refine hK _ ?_; clear hK K)
          refine wpQuiet_val (v := .bool false) rfl (fun w' hw' => by go_simp) ?_
          (intro K hK; go_simp; refine hK _ ?_; clear hK K)
          refine wpQuiet_move rfl (.tmp 9) rfl ?_
          (intro K hK; go_simp; refine hK _ ?_; clear hK K)
          refine wpQuiet_move rfl (.tmp 2) rfl ?_
          (intro K hK; go_simp; refine hK _ ?_; clear hK K)
          refine wpQuiet_fn (v := .agg (cells8 (idOf q)).toArray) (args := #[.slice A k c]) rfl _ _ rfl rfl Tryd.func46 (by kernel_rfl) (by kernel_rfl) (fun w' hw' => (id_any q k hk.out A c w' (hB.out.below (hcur.out w' hw') hB.out.1) (hq.out.below (hcur.out w' hw')) hc (by omega) hnil.out).mono (fun e w'' ⟨he, hb⟩ => ⟨he, hw'.next hb⟩)) ?_
          (intro K hK; go_simp; refine hK _ ?_; clear hK K)
          refine wpQuiet_val (v := .pointer (some ⟨w.heap.size + 1, 0, none⟩)) rfl (fun w' hw' => by go_simp) ?_
          (intro K hK; go_simp; refine hK _ ?_; clear hK K)
          refine wpQuiet_load_part rfl 23 (.tmp 13) rfl (w.heap.size + 1) (0) rfl (cells8 (s.take 32)) _ (fun w' hw' => hP.out w' hw') Tryd.underlying23 rfl z32.out ?_
          (intro K hK; go_simp; refine hK _ ?_; clear hK K)
          refine wpQuiet_val (v := .bool false) rfl (fun w' hw' => by have hh := hne.out w'; go_simp) ?_
          (intro K hK; go_simp; refine hK _ ?_; clear hK K)
          refine wpQuiet_val (v := .bool false) rfl (fun w' hw' => by go_simp) ?_
          (intro K hK; go_simp; refine hK _ ?_; clear hK K)
          refine wpQuiet_nil ?_
          intro w1 hw1
          have hb1 : Hid (Below w.heap.size w w1) := hcur.out w1 hw1
          have hH1 : Hid (Blk w1 w.heap.size 36 (headCells h).toArray) := (hw1.below.block _ hH.out.lt).trans hH.out
          have hS1 : Hid (Blk w1 (w.heap.size + 1) 116 (cells8 s).toArray) := (hw1.below.block _ hS.out.lt).trans hS.out
          clear hw1
          go_wp2_with (first
            | ((with_reducible change wpList _ _ _ ({ dst := some 17, op := _, type := _, pos := _, after := _, guard := _ } :: _) _ _); refine wpList_load_row (o := ⟨some 17, _, _, _, _, _⟩) rfl 36 (.tmp 3) rfl (w.heap.size) rfl 36 ((headCells h).toArray) (0, 0) _ hH1.out Tryd.underlying36 rfl hsz.out ?_)
            | (go_at_call 150; refine (right_any h okh.out _).mono ?_; rw [hrh.out]; rintro e w2 ⟨rfl, hbr⟩; have hb2 : Hid (Below w.heap.size w w2) := hb1.out.trans (hbr.mono hb1.out.size); have hH2 : Hid (Blk w2 w.heap.size 36 (headCells h).toArray) := (hbr.block _ hH1.out.lt).trans hH1.out; have hS2 : Hid (Blk w2 (w.heap.size + 1) 116 (cells8 s).toArray) := (hbr.block _ hS1.out.lt).trans hS1.out; clear hbr))
          refine wp_region_class (Class w2) (by kernel_rfl) (by kernel_rfl) (Class.mk_ ((Below.refl _ _).drew)) ?_
          refine wpQuiet_load_row rfl 36 (.tmp 3) rfl w.heap.size rfl 36 ((headCells h).toArray) (0, 0) _ (fun w' hw' => (hw'.below.block _ hH2.out.lt).trans hH2.out) Tryd.underlying36 rfl hsz.out ?_
          (intro K hK; go_simp; refine hK _ ?_; clear hK K)
          refine wpQuiet_move rfl (.tmp 2) rfl ?_
          (intro K hK; go_simp; refine hK _ ?_; clear hK K)
          refine wpQuiet_fn (v := .agg (cells8 (signOf h q)).toArray) (args := #[.agg (headCells h).toArray, .slice A k c]) rfl _ _ rfl rfl Tryd.func157 (by kernel_rfl) (by kernel_rfl) (fun w' hw' => (sign_any h okh.out hrh.out q k hk.out hkk.2 A c w' (hB.out.below (hb2.out.trans (hw'.below.mono hb2.out.size)) hB.out.1) (hq.out.below (hb2.out.trans (hw'.below.mono hb2.out.size))) hc hnil.out).mono (fun e w'' ⟨he, hb⟩ => ⟨he, hw'.next hb⟩)) ?_
          (intro K hK; go_simp; refine hK _ ?_; clear hK K)
          refine wpQuiet_load_row rfl 116 (.tmp 4) rfl (w.heap.size + 1) rfl 116 ((cells8 s).toArray) (0, 0) _ (fun w' hw' => (hw'.below.block _ hS2.out.lt).trans hS2.out) Tryd.underlying116 rfl ssz.out ?_
          (intro K hK; go_simp; refine hK _ ?_; clear hK K)
          refine wpQuiet_val (v := .bool false) rfl (fun w' hw' => by have hh := hna.out w'; have hh2 := hn2.out w'; go_simp) ?_
          (intro K hK; go_simp; refine hK _ ?_; clear hK K)
          refine wpQuiet_nil ?_
          intro w3 hw3
          have hb3 : Hid (Below w.heap.size w w3) := hb2.out.trans (hw3.below.mono hb2.out.size)
          go_wp2_with fail
          go_ret
          exact ⟨rfl, hb3.out⟩
        · have hans : Hid (checkAns h s q = 161) := by show _ = _; unfold checkAns; rw [hk.out, if_pos ⟨hkey, hid⟩, if_pos hr, if_neg hsg]
          have hna : Hid (∀ w, (Op.equalIn 9999 23 (.agg (List.take 32 (cells8 (signOf h q))).toArray) (.agg (List.take 32 (cells8 s)).toArray)).run Tryd.prog w = .ok true w) := fun w => by rw [hn0 w, hst, decide_eq_true hid]
          have hn2 : Hid (∀ w, (Op.equalIn 9999 23 (.agg (List.take 32 (List.drop 32 (cells8 (signOf h q)))).toArray) (.agg (List.take 32 (List.drop 32 (cells8 s))).toArray)).run Tryd.prog w = .ok false w) := fun w => by rw [hn1 w, decide_eq_false (fun h2 => hsg (hse.2 ⟨hid, h2⟩))]
          rw [hans.out]
          clear hkey hid hr hsg hn hn1 hn0 hse hst
          go_enter Tryd.func103, Tryd.ntmps103
          go_wp2_with fail
          change (Code.region _ _ _).wp _ _ _ ((w.alloc (.cells (headCells h).toArray 36)).alloc (.cells (cells8 s).toArray 116))
          rw [← hW.out]
          refine wp_region_class (Class W) (by kernel_rfl) (by kernel_rfl) (Class.mk_ ((Below.refl _ _).drew)) ?_
          refine wpQuiet_move rfl (.tmp 2) rfl ?_
          (intro K hK; go_simp; refine hK _ ?_; clear hK K)
          refine wpQuiet_fn (v := .bool true) (args := #[.slice A k c]) rfl _ _ rfl rfl Tryd.func45 (by kernel_rfl) (by kernel_rfl) (fun w' hw' => (isKey_any k A c w').mono (fun e w'' ⟨he, hb⟩ => ⟨by rw [he, hkeyh.out], by rw [hb]; exact hw'⟩)) ?_
          (intro K hK; go_simp; refine hK _ ?_; clear hK K)
          refine wpQuiet_val (v := .bool false) rfl (fun w' hw' => by go_simp) ?_
          (intro K hK; go_simp; refine hK _ ?_; clear hK K)
          refine wpQuiet_move rfl (.tmp 9) rfl ?_
          (intro K hK; go_simp; refine hK _ ?_; clear hK K)
          refine wpQuiet_move rfl (.tmp 2) rfl ?_
          (intro K hK; go_simp; refine hK _ ?_; clear hK K)
          refine wpQuiet_fn (v := .agg (cells8 (idOf q)).toArray) (args := #[.slice A k c]) rfl _ _ rfl rfl Tryd.func46 (by kernel_rfl) (by kernel_rfl) (fun w' hw' => (id_any q k hk.out A c w' (hB.out.below (hcur.out w' hw') hB.out.1) (hq.out.below (hcur.out w' hw')) hc (by omega) hnil.out).mono (fun e w'' ⟨he, hb⟩ => ⟨he, hw'.next hb⟩)) ?_
          (intro K hK; go_simp; refine hK _ ?_; clear hK K)
          refine wpQuiet_val (v := .pointer (some ⟨w.heap.size + 1, 0, none⟩)) rfl (fun w' hw' => by go_simp) ?_
          (intro K hK; go_simp; refine hK _ ?_; clear hK K)
          refine wpQuiet_load_part rfl 23 (.tmp 13) rfl (w.heap.size + 1) (0) rfl (cells8 (s.take 32)) _ (fun w' hw' => hP.out w' hw') Tryd.underlying23 rfl z32.out ?_
          (intro K hK; go_simp; refine hK _ ?_; clear hK K)
          refine wpQuiet_val (v := .bool false) rfl (fun w' hw' => by have hh := hne.out w'; go_simp) ?_
          (intro K hK; go_simp; refine hK _ ?_; clear hK K)
          refine wpQuiet_val (v := .bool false) rfl (fun w' hw' => by go_simp) ?_
          (intro K hK; go_simp; refine hK _ ?_; clear hK K)
          refine wpQuiet_nil ?_
          intro w1 hw1
          have hb1 : Hid (Below w.heap.size w w1) := hcur.out w1 hw1
          have hH1 : Hid (Blk w1 w.heap.size 36 (headCells h).toArray) := (hw1.below.block _ hH.out.lt).trans hH.out
          have hS1 : Hid (Blk w1 (w.heap.size + 1) 116 (cells8 s).toArray) := (hw1.below.block _ hS.out.lt).trans hS.out
          clear hw1
          go_wp2_with (first
            | ((with_reducible change wpList _ _ _ ({ dst := some 17, op := _, type := _, pos := _, after := _, guard := _ } :: _) _ _); refine wpList_load_row (o := ⟨some 17, _, _, _, _, _⟩) rfl 36 (.tmp 3) rfl (w.heap.size) rfl 36 ((headCells h).toArray) (0, 0) _ hH1.out Tryd.underlying36 rfl hsz.out ?_)
            | (go_at_call 150; refine (right_any h okh.out _).mono ?_; rw [hrh.out]; rintro e w2 ⟨rfl, hbr⟩; have hb2 : Hid (Below w.heap.size w w2) := hb1.out.trans (hbr.mono hb1.out.size); have hH2 : Hid (Blk w2 w.heap.size 36 (headCells h).toArray) := (hbr.block _ hH1.out.lt).trans hH1.out; have hS2 : Hid (Blk w2 (w.heap.size + 1) 116 (cells8 s).toArray) := (hbr.block _ hS1.out.lt).trans hS1.out; clear hbr))
          refine wp_region_class (Class w2) (by kernel_rfl) (by kernel_rfl) (Class.mk_ ((Below.refl _ _).drew)) ?_
          refine wpQuiet_load_row rfl 36 (.tmp 3) rfl w.heap.size rfl 36 ((headCells h).toArray) (0, 0) _ (fun w' hw' => (hw'.below.block _ hH2.out.lt).trans hH2.out) Tryd.underlying36 rfl hsz.out ?_
          (intro K hK; go_simp; refine hK _ ?_; clear hK K)
          refine wpQuiet_move rfl (.tmp 2) rfl ?_
          (intro K hK; go_simp; refine hK _ ?_; clear hK K)
          refine wpQuiet_fn (v := .agg (cells8 (signOf h q)).toArray) (args := #[.agg (headCells h).toArray, .slice A k c]) rfl _ _ rfl rfl Tryd.func157 (by kernel_rfl) (by kernel_rfl) (fun w' hw' => (sign_any h okh.out hrh.out q k hk.out hkk.2 A c w' (hB.out.below (hb2.out.trans (hw'.below.mono hb2.out.size)) hB.out.1) (hq.out.below (hb2.out.trans (hw'.below.mono hb2.out.size))) hc hnil.out).mono (fun e w'' ⟨he, hb⟩ => ⟨he, hw'.next hb⟩)) ?_
          (intro K hK; go_simp; refine hK _ ?_; clear hK K)
          refine wpQuiet_load_row rfl 116 (.tmp 4) rfl (w.heap.size + 1) rfl 116 ((cells8 s).toArray) (0, 0) _ (fun w' hw' => (hw'.below.block _ hS2.out.lt).trans hS2.out) Tryd.underlying116 rfl ssz.out ?_
          (intro K hK; go_simp; refine hK _ ?_; clear hK K)
          refine wpQuiet_val (v := .bool true) rfl (fun w' hw' => by have hh := hna.out w'; have hh2 := hn2.out w'; go_simp) ?_
          (intro K hK; go_simp; refine hK _ ?_; clear hK K)
          refine wpQuiet_nil ?_
          intro w3 hw3
          have hb3 : Hid (Below w.heap.size w w3) := hb2.out.trans (hw3.below.mono hb2.out.size)
          go_wp2_with fail
          go_ret
          exact ⟨rfl, hb3.out⟩
      · have hrh : Hid (rightB h = false) := by show _ = _; simpa using hr
        have hans : Hid (checkAns h s q = 1) := by show _ = _; unfold checkAns; rw [hk.out, if_pos ⟨hkey, hid⟩, if_neg hr]
        rw [hans.out]
        clear hkey hid hr hn hn1 hn0 hse hst
        go_enter Tryd.func103, Tryd.ntmps103
        go_wp2_with fail
        change (Code.region _ _ _).wp _ _ _ ((w.alloc (.cells (headCells h).toArray 36)).alloc (.cells (cells8 s).toArray 116))
        rw [← hW.out]
        refine wp_region_class (Class W) (by kernel_rfl) (by kernel_rfl) (Class.mk_ ((Below.refl _ _).drew)) ?_
        refine wpQuiet_move rfl (.tmp 2) rfl ?_
        (intro K hK; go_simp; refine hK _ ?_; clear hK K)
        refine wpQuiet_fn (v := .bool true) (args := #[.slice A k c]) rfl _ _ rfl rfl Tryd.func45 (by kernel_rfl) (by kernel_rfl) (fun w' hw' => (isKey_any k A c w').mono (fun e w'' ⟨he, hb⟩ => ⟨by rw [he, hkeyh.out], by rw [hb]; exact hw'⟩)) ?_
        (intro K hK; go_simp; refine hK _ ?_; clear hK K)
        refine wpQuiet_val (v := .bool false) rfl (fun w' hw' => by go_simp) ?_
        (intro K hK; go_simp; refine hK _ ?_; clear hK K)
        refine wpQuiet_move rfl (.tmp 9) rfl ?_
        (intro K hK; go_simp; refine hK _ ?_; clear hK K)
        refine wpQuiet_move rfl (.tmp 2) rfl ?_
        (intro K hK; go_simp; refine hK _ ?_; clear hK K)
        refine wpQuiet_fn (v := .agg (cells8 (idOf q)).toArray) (args := #[.slice A k c]) rfl _ _ rfl rfl Tryd.func46 (by kernel_rfl) (by kernel_rfl) (fun w' hw' => (id_any q k hk.out A c w' (hB.out.below (hcur.out w' hw') hB.out.1) (hq.out.below (hcur.out w' hw')) hc (by omega) hnil.out).mono (fun e w'' ⟨he, hb⟩ => ⟨he, hw'.next hb⟩)) ?_
        (intro K hK; go_simp; refine hK _ ?_; clear hK K)
        refine wpQuiet_val (v := .pointer (some ⟨w.heap.size + 1, 0, none⟩)) rfl (fun w' hw' => by go_simp) ?_
        (intro K hK; go_simp; refine hK _ ?_; clear hK K)
        refine wpQuiet_load_part rfl 23 (.tmp 13) rfl (w.heap.size + 1) (0) rfl (cells8 (s.take 32)) _ (fun w' hw' => hP.out w' hw') Tryd.underlying23 rfl z32.out ?_
        (intro K hK; go_simp; refine hK _ ?_; clear hK K)
        refine wpQuiet_val (v := .bool false) rfl (fun w' hw' => by have hh := hne.out w'; go_simp) ?_
        (intro K hK; go_simp; refine hK _ ?_; clear hK K)
        refine wpQuiet_val (v := .bool false) rfl (fun w' hw' => by go_simp) ?_
        (intro K hK; go_simp; refine hK _ ?_; clear hK K)
        refine wpQuiet_nil ?_
        intro w1 hw1
        have hb1 : Hid (Below w.heap.size w w1) := hcur.out w1 hw1
        have hH1 : Hid (Blk w1 w.heap.size 36 (headCells h).toArray) := (hw1.below.block _ hH.out.lt).trans hH.out
        have hS1 : Hid (Blk w1 (w.heap.size + 1) 116 (cells8 s).toArray) := (hw1.below.block _ hS.out.lt).trans hS.out
        clear hw1
        go_wp2_with (first
          | ((with_reducible change wpList _ _ _ ({ dst := some 17, op := _, type := _, pos := _, after := _, guard := _ } :: _) _ _); refine wpList_load_row (o := ⟨some 17, _, _, _, _, _⟩) rfl 36 (.tmp 3) rfl (w.heap.size) rfl 36 ((headCells h).toArray) (0, 0) _ hH1.out Tryd.underlying36 rfl hsz.out ?_)
          | (go_at_call 150; refine (right_any h okh.out _).mono ?_; rw [hrh.out]; rintro e w2 ⟨rfl, hbr⟩; have hb2 : Hid (Below w.heap.size w w2) := hb1.out.trans (hbr.mono hb1.out.size); have hH2 : Hid (Blk w2 w.heap.size 36 (headCells h).toArray) := (hbr.block _ hH1.out.lt).trans hH1.out; have hS2 : Hid (Blk w2 (w.heap.size + 1) 116 (cells8 s).toArray) := (hbr.block _ hS1.out.lt).trans hS1.out; clear hbr))
        go_ret
        exact ⟨rfl, hb2.out⟩
    · have hne : Hid (∀ w, (Op.equalIn 10000 23 (.agg (cells8 (idOf q)).toArray) (.agg (cells8 (s.take 32)).toArray)).run Tryd.prog w = .ok false w) := fun w => by rw [hn w, decide_eq_false hid]
      have hans : Hid (checkAns h s q = 160) := by show _ = _; unfold checkAns; rw [if_neg (fun h => hid h.2)]
      rw [hans.out]
      clear hkey hid hn hn1 hn0 hse hst
      go_enter Tryd.func103, Tryd.ntmps103
      go_wp2_with fail
      change (Code.region _ _ _).wp _ _ _ ((w.alloc (.cells (headCells h).toArray 36)).alloc (.cells (cells8 s).toArray 116))
      rw [← hW.out]
      refine wp_region_class (Class W) (by kernel_rfl) (by kernel_rfl) (Class.mk_ ((Below.refl _ _).drew)) ?_
      refine wpQuiet_move rfl (.tmp 2) rfl ?_
      (intro K hK; go_simp; refine hK _ ?_; clear hK K)
      refine wpQuiet_fn (v := .bool true) (args := #[.slice A k c]) rfl _ _ rfl rfl Tryd.func45 (by kernel_rfl) (by kernel_rfl) (fun w' hw' => (isKey_any k A c w').mono (fun e w'' ⟨he, hb⟩ => ⟨by rw [he, hkeyh.out], by rw [hb]; exact hw'⟩)) ?_
      (intro K hK; go_simp; refine hK _ ?_; clear hK K)
      refine wpQuiet_val (v := .bool false) rfl (fun w' hw' => by go_simp) ?_
      (intro K hK; go_simp; refine hK _ ?_; clear hK K)
      refine wpQuiet_move rfl (.tmp 9) rfl ?_
      (intro K hK; go_simp; refine hK _ ?_; clear hK K)
      refine wpQuiet_move rfl (.tmp 2) rfl ?_
      (intro K hK; go_simp; refine hK _ ?_; clear hK K)
      refine wpQuiet_fn (v := .agg (cells8 (idOf q)).toArray) (args := #[.slice A k c]) rfl _ _ rfl rfl Tryd.func46 (by kernel_rfl) (by kernel_rfl) (fun w' hw' => (id_any q k hk.out A c w' (hB.out.below (hcur.out w' hw') hB.out.1) (hq.out.below (hcur.out w' hw')) hc (by omega) hnil.out).mono (fun e w'' ⟨he, hb⟩ => ⟨he, hw'.next hb⟩)) ?_
      (intro K hK; go_simp; refine hK _ ?_; clear hK K)
      refine wpQuiet_val (v := .pointer (some ⟨w.heap.size + 1, 0, none⟩)) rfl (fun w' hw' => by go_simp) ?_
      (intro K hK; go_simp; refine hK _ ?_; clear hK K)
      refine wpQuiet_load_part rfl 23 (.tmp 13) rfl (w.heap.size + 1) (0) rfl (cells8 (s.take 32)) _ (fun w' hw' => hP.out w' hw') Tryd.underlying23 rfl z32.out ?_
      (intro K hK; go_simp; refine hK _ ?_; clear hK K)
      refine wpQuiet_val (v := .bool true) rfl (fun w' hw' => by have hh := hne.out w'; go_simp) ?_
      (intro K hK; go_simp; refine hK _ ?_; clear hK K)
      refine wpQuiet_val (v := .bool true) rfl (fun w' hw' => by go_simp) ?_
      (intro K hK; go_simp; refine hK _ ?_; clear hK K)
      refine wpQuiet_nil ?_
      intro w1 hw1
      have hb1 : Hid (Below w.heap.size w w1) := hcur.out w1 hw1
      go_wp2_with fail
      go_ret
      exact ⟨rfl, hb1.out⟩
  · have hans : Hid (checkAns h s q = 160) := by show _ = _; unfold checkAns; rw [hk.out, if_neg (fun h => hkey h.1)]
    rw [hans.out]
    have hkeyh : Hid (keyB k = false) := by show _ = _; simpa using hkey
    clear hkey hn hn1 hn0 hse hst
    go_enter Tryd.func103, Tryd.ntmps103
    go_wp2_with fail
    change (Code.region _ _ _).wp _ _ _ ((w.alloc (.cells (headCells h).toArray 36)).alloc (.cells (cells8 s).toArray 116))
    rw [← hW.out]
    refine wp_region_class (Class W) (by kernel_rfl) (by kernel_rfl) (Class.mk_ ((Below.refl _ _).drew)) ?_
    refine wpQuiet_move rfl (.tmp 2) rfl ?_
    (intro K hK; go_simp; refine hK _ ?_; clear hK K)
    refine wpQuiet_fn (v := .bool false) (args := #[.slice A k c]) rfl _ _ rfl rfl Tryd.func45 (by kernel_rfl) (by kernel_rfl) (fun w' hw' => (isKey_any k A c w').mono (fun e w'' ⟨he, hb⟩ => ⟨by rw [he, hkeyh.out], by rw [hb]; exact hw'⟩)) ?_
    (intro K hK; go_simp; refine hK _ ?_; clear hK K)
    refine wpQuiet_val (v := .bool true) rfl (fun w' hw' => by go_simp) ?_
    (intro K hK; go_simp; refine hK _ ?_; clear hK K)
    refine wpQuiet_move rfl (.tmp 9) rfl ?_
    (intro K hK; go_simp; refine hK _ ?_; clear hK K)
    refine wpQuiet_skip_ rfl ?_
    (intro K hK; go_simp; refine hK _ ?_; clear hK K)
    refine wpQuiet_skip_ rfl ?_
    (intro K hK; go_simp; refine hK _ ?_; clear hK K)
    refine wpQuiet_skip_ rfl ?_
    (intro K hK; go_simp; refine hK _ ?_; clear hK K)
    refine wpQuiet_skip_ rfl ?_
    (intro K hK; go_simp; refine hK _ ?_; clear hK K)
    refine wpQuiet_skip_ rfl ?_
    (intro K hK; go_simp; refine hK _ ?_; clear hK K)
    refine wpQuiet_val (v := .bool true) rfl (fun w' hw' => by go_simp) ?_
    (intro K hK; go_simp; refine hK _ ?_; clear hK K)
    refine wpQuiet_nil ?_
    intro w1 hw1
    have hb1 : Hid (Below w.heap.size w w1) := hcur.out w1 hw1
    go_wp2_with fail
    go_ret
    exact ⟨rfl, hb1.out⟩
end Go.Proofs.YtgldkfaiofkhbaaDoor.Check

namespace Go.Proofs.YtgldkfaiofkhbaaDoor.TwiceP
open Go Go.RowKit Go.Proofs.YtgldkfaiofkhbaaDoor Go.Proofs.YtgldkfaiofkhbaaDoor.Sha Go.Proofs.YtgldkfaiofkhbaaDoor.DigestMem Go.Proofs.YtgldkfaiofkhbaaDoor.Bytes Go.Proofs.YtgldkfaiofkhbaaDoor.TreeMem Go.Proofs.YtgldkfaiofkhbaaDoor.TreeRoot Go.Proofs.YtgldkfaiofkhbaaDoor.Climb Go.Proofs.YtgldkfaiofkhbaaDoor.AheadM

/-- A text's sum, cut to a width. -/
def sumOf (s : Int) (q : Text) : Text := cutTo (sum q) (clampN s)
theorem sumOf_len (s : Int) (q : Text) : (sumOf s q).length = 32 := cutTo_len _ _ (sum_len _) (clampN_ok s).2
/-- Two unlike texts of one sum at one place of two rows. -/
def MetAt (s : Int) (a b : List Text) : Prop := ∃ (i : Nat) (p q : Text), a[i]? = some p ∧ b[i]? = some q ∧ p ≠ q ∧ sumOf s p = sumOf s q
/-- Two unlike texts of one sum in a row. -/
def Met (s : Int) (l : List Text) : Prop := ∃ p q, p ∈ l ∧ q ∈ l ∧ p ≠ q ∧ sumOf s p = sumOf s q
theorem MetAt.met {s : Int} {a b : List Text} (h : MetAt s a b) : Met s (a ++ b) := by
  obtain ⟨i, p, q, h1, h2, h3, h4⟩ := h
  exact ⟨p, q, List.mem_append_left _ (List.mem_of_getElem? h1), List.mem_append_right _ (List.mem_of_getElem? h2), h3, h4⟩
theorem MetAt.more {s : Int} {a b c d : List Text} (h : MetAt s a b) : MetAt s (a ++ c) (b ++ d) := by
  obtain ⟨i, p, q, h1, h2, h3, h4⟩ := h
  exact ⟨i, p, q, by rw [List.getElem?_append_left (List.getElem?_eq_some_iff.1 h1).1]; exact h1, by rw [List.getElem?_append_left (List.getElem?_eq_some_iff.1 h2).1]; exact h2, h3, h4⟩
theorem MetAt.last {s : Int} {a b : List Text} {p q : Text} (hl : a.length = b.length) (hne : p ≠ q) (h : sumOf s p = sumOf s q) : MetAt s (a ++ [p]) (b ++ [q]) :=
  ⟨a.length, p, q, by simp, by rw [hl]; simp, hne, h⟩
theorem Met.mono {s : Int} {a b : List Text} (h : Met s a) (hs : ∀ p ∈ a, p ∈ b) : Met s b := by
  obtain ⟨p, q, h1, h2, h3, h4⟩ := h
  exact ⟨p, q, hs p h1, hs q h2, h3, h4⟩
end Go.Proofs.YtgldkfaiofkhbaaDoor.TwiceP

namespace Go.Proofs.YtgldkfaiofkhbaaDoor.SparseP
open Go Go.RowKit Go.Proofs.YtgldkfaiofkhbaaDoor Go.Proofs.YtgldkfaiofkhbaaDoor.Mem Go.Proofs.YtgldkfaiofkhbaaDoor.Sha Go.Proofs.YtgldkfaiofkhbaaDoor.Bytes Go.Proofs.YtgldkfaiofkhbaaDoor.TreeMem Go.Proofs.YtgldkfaiofkhbaaDoor.ProofIdx Go.Proofs.YtgldkfaiofkhbaaDoor.IdxAny Go.Proofs.YtgldkfaiofkhbaaDoor.TwiceP Go.Proofs.YtgldkfaiofkhbaaDoor.DigestMem Go.Proofs.YtgldkfaiofkhbaaDoor.Octet

/-- Two subtrees' sum. -/
def brOf (s : Int) (a b : Text) : Text := sumOf s (kb 4 :: (a ++ b))
theorem brOf_len (s : Int) (a b : Text) : (brOf s a b).length = 32 := sumOf_len _ _
/-- An empty subtree's digest, by its height. -/
def emp (s : Int) : Nat → Text
  | 0 => sumOf s [kb 5]
  | h + 1 => brOf s (emp s h) (emp s h)
theorem emp_len (s : Int) : ∀ h, (emp s h).length = 32
  | 0 => sumOf_len _ _
  | _ + 1 => brOf_len _ _ _
/-- Bit i of a key. -/
def kbit (k : Text) (i : Nat) : Nat := (k.getD (i / 8) 0).toNat / 2 ^ (7 - i % 8) % 2
/-- The text that is summed at a height, the way's digest being x and the neighbour n. -/
def upT (k : Text) (h : Nat) (x n : Text) : Text := kb 4 :: (if kbit k (255 - h) = 0 then x ++ n else n ++ x)
/-- What is summed on the way up, and where it leads. -/
def lead (s : Int) (k t0 : Text) (l : List Text) : Nat → List Text × Text
  | 0 => ([t0], sumOf s t0)
  | h + 1 => let p := lead s k t0 l h; let t := upT k h p.2 (l.getD h []); (p.1 ++ [t], sumOf s t)
end Go.Proofs.YtgldkfaiofkhbaaDoor.SparseP

namespace Go.Proofs.YtgldkfaiofkhbaaDoor.Key
open Go Go.RowKit Go.Proofs.YtgldkfaiofkhbaaDoor Go.Proofs.YtgldkfaiofkhbaaDoor.Mem Go.Proofs.YtgldkfaiofkhbaaDoor.Sha Go.Proofs.YtgldkfaiofkhbaaDoor.Bytes Go.Proofs.YtgldkfaiofkhbaaDoor.HashMem Go.Proofs.YtgldkfaiofkhbaaDoor.DigestMem Go.Proofs.YtgldkfaiofkhbaaDoor.Digest Go.Proofs.YtgldkfaiofkhbaaDoor.DigestOf Go.Proofs.YtgldkfaiofkhbaaDoor.DigestTop Go.Proofs.YtgldkfaiofkhbaaDoor.RefSum Go.Proofs.YtgldkfaiofkhbaaDoor.RefCut Go.Proofs.YtgldkfaiofkhbaaDoor.RefOf Go.Proofs.YtgldkfaiofkhbaaDoor.RefTop Go.Proofs.YtgldkfaiofkhbaaDoor.Append Go.Proofs.YtgldkfaiofkhbaaDoor.ProofIdx2 Go.Proofs.YtgldkfaiofkhbaaDoor.IdxRef2 Go.Proofs.YtgldkfaiofkhbaaDoor.TwiceP Go.Proofs.YtgldkfaiofkhbaaDoor.SparseP Go.Proofs.YtgldkfaiofkhbaaDoor.Held

set_option maxRecDepth 100000 in
set_option maxHeartbeats 600000 in
theorem branch_any (qa qb : Text) (ha : qa.length = 32) (hb : qb.length = 32) (size : Int) (w : World) (hB : Base w) :
    Calls Tryd.prog 99 #[.int .i64 size, .agg (cells8 qa).toArray, .agg (cells8 qb).toArray] w fun e w' => e = .returned (.agg (cells8 (cutTo (sum (kb 4 :: (qa ++ qb))) (clampN size))).toArray) ∧ Below w.heap.size w w' := by
  have hfl : [qa, qb].flatten = qa ++ qb := by simp
  rw [← hfl]
  obtain ⟨x, hx⟩ : ∃ x, Hid (x = cutTo (sum (kb 4 :: [qa, qb].flatten)) (clampN size)) := ⟨_, rfl⟩
  have hxl : x.length = 32 := by rw [hx.out]; exact cutTo_len _ _ (sum_len _) (clampN_ok size).2
  rw [← hx.out]
  have hz := Lib.hid (dig_size x hxl)
  have hz32 : Hid ((Z32 : Array Value).size = (cells8 x).toArray.size) := by show _ = _; simp [cells8_len, hxl, Z32]
  have ho := Lib.hid (dig_one x)
  clear hxl
  replace hB := Lib.hid hB
  have hlen : Hid ([qa, qb].flatten.length = 64) := by show _ = _; simp [ha, hb]
  clear hfl
  obtain ⟨W, hW⟩ : ∃ W, Hid (W = ((((w.alloc (.cells (cells8 qa).toArray 23)).alloc (.cells (cells8 qb).toArray 23)).alloc (.cells Z32 23)).drew.alloc (.cells #[.slice (some ⟨w.heap.size, 0, none⟩) 32 32, .slice (some ⟨w.heap.size + 1, 0, none⟩) 32 32] 31))) := ⟨_, rfl⟩
  have hA0 : W.heap[w.heap.size]? = some (.cells (cells8 qa).toArray 23 (0, 0)) := by rw [hW.out]; exact pairA w _ _ _ _
  have hA1 : W.heap[w.heap.size + 1]? = some (.cells (cells8 qb).toArray 23 (0, 0)) := by rw [hW.out]; exact pairB w _ _ _ _
  have hR : Hid (Blk W (w.heap.size + 2) 23 Z32) := by show Blk _ _ _ _; rw [hW.out]; exact pairC w _ _ _ _
  have hP : W.heap[w.heap.size + 3]? = some (.cells #[.slice (some ⟨w.heap.size, 0, none⟩) 32 32, .slice (some ⟨w.heap.size + 1, 0, none⟩) 32 32] 31 (0, 0)) := by rw [hW.out]; exact pairD w _ _ _ _
  have hbw : Hid (Below w.heap.size w W) := by show Below _ _ _; rw [hW.out]; exact pairE w _ _ _ _
  have hws : Hid (W.heap.size = w.heap.size + 4) := by show _ = _; rw [hW.out]; simp
  have hpc : Hid (Pieces W (some ⟨w.heap.size + 3, 0, none⟩) [qa, qb]) := fun _ => ⟨w.heap.size + 3, 0, rfl, by have := hws.out; omega, fun i y hy => by
    match i with
    | 0 =>
      obtain rfl := Option.some.inj hy
      exact ⟨some ⟨w.heap.size, 0, none⟩, 32, by rw [cell_of_row _ _ _ _ _ _ hP, ha]; rfl, by omega, rowReads hA0, fun h => by cases h⟩
    | 1 =>
      obtain rfl := Option.some.inj hy
      exact ⟨some ⟨w.heap.size + 1, 0, none⟩, 32, by rw [cell_of_row _ _ _ _ _ _ hP, hb]; rfl, by omega, rowReads hA1, fun h => by cases h⟩
    | i + 2 => simp at hy⟩
  have hxl2 : Hid ((cells8 x).length = 32) := by show _ = _; have := hz32.out; simp [Z32] at this; omega
  have hxl3 := hxl2.out
  clear hA0 hA1 hP ha hb
  go_enter Tryd.func99, Tryd.ntmps99
  go_wp2_with fail
  go_region_law (go_simp; go_at_call 87; change Calls _ _ _ ((((w.alloc (.cells (cells8 qa).toArray 23)).alloc (.cells (cells8 qb).toArray 23)).alloc (.cells Z32 23)).drew.alloc (.cells #[.slice (some ⟨w.heap.size, 0, none⟩) 32 32, .slice (some ⟨w.heap.size + 1, 0, none⟩) 32 32] 31)) _; rw [← hW.out]; refine (of_any [qa, qb] 2 rfl (some ⟨w.heap.size + 3, 0, none⟩) 2 size 4 _ (hB.out.below hbw.out hB.out.1) (by have := hlen.out; omega) (by omega) hpc.out).mono ?_; rw [← hx.out]; rintro e w3 ⟨rfl, hb3⟩; replace hb3 := Lib.hid hb3; have hR3 : Hid (Blk w3 (w.heap.size + 2) 23 Z32) := (hb3.out.block (w.heap.size + 2) hR.out.lt).trans hR.out; have hbb : Hid (Below w.heap.size w w3) := hbw.out.trans (hb3.out.mono (by have := hws.out; omega)); have hst : (storeCells ⟨w.heap.size + 1 + 1, 0, none⟩ (cells8 x)).run Tryd.prog w3 = .ok () (w3.setRow (w.heap.size + 2) (cells8 x).toArray) := storeCells_row hR3.out (by have := hxl2.out; simp [Z32]; omega) (cells8_one x))
  go_wp2_with fail
  refine bodyPost_ret (results_cell_row rfl _ _ (w.heap.size + 2) 23 (cells8 x).toArray (0, 0) _ rfl (setRow_heap _ _ _ _ _ _ hR3.out) Tryd.underlying23 rfl hz.out) rfl ?_
  exact ⟨rfl, below_setRow hbb.out (by omega) _⟩

end Go.Proofs.YtgldkfaiofkhbaaDoor.Key

namespace Go.Proofs.YtgldkfaiofkhbaaDoor.Empties
open Go Go.RowKit Go.Proofs.YtgldkfaiofkhbaaDoor Go.Proofs.YtgldkfaiofkhbaaDoor.Mem Go.Proofs.YtgldkfaiofkhbaaDoor.Sha Go.Proofs.YtgldkfaiofkhbaaDoor.Bytes Go.Proofs.YtgldkfaiofkhbaaDoor.HashMem Go.Proofs.YtgldkfaiofkhbaaDoor.DigestMem Go.Proofs.YtgldkfaiofkhbaaDoor.RefOf Go.Proofs.YtgldkfaiofkhbaaDoor.TreeMem Go.Proofs.YtgldkfaiofkhbaaDoor.TreeRoot Go.Proofs.YtgldkfaiofkhbaaDoor.QuietTail Go.Proofs.YtgldkfaiofkhbaaDoor.Grown Go.Proofs.YtgldkfaiofkhbaaDoor.Append Go.Proofs.YtgldkfaiofkhbaaDoor.Book Go.Proofs.YtgldkfaiofkhbaaDoor.Held Go.Proofs.YtgldkfaiofkhbaaDoor.TreeRefRoot Go.Proofs.YtgldkfaiofkhbaaDoor.ProofIdx3 Go.Proofs.YtgldkfaiofkhbaaDoor.TwiceP Go.Proofs.YtgldkfaiofkhbaaDoor.SparseP Go.Proofs.YtgldkfaiofkhbaaDoor.Key

theorem emp_step (s : Int) (h : Nat) : cutTo (sum (kb 4 :: (emp s h ++ emp s h))) (clampN s) = emp s (h + 1) := rfl
end Go.Proofs.YtgldkfaiofkhbaaDoor.Empties

namespace Go.Proofs.YtgldkfaiofkhbaaDoor.EmptyD
open Go Go.RowKit Go.Proofs.YtgldkfaiofkhbaaDoor Go.Proofs.YtgldkfaiofkhbaaDoor.Mem Go.Proofs.YtgldkfaiofkhbaaDoor.Sha Go.Proofs.YtgldkfaiofkhbaaDoor.Bytes Go.Proofs.YtgldkfaiofkhbaaDoor.HashMem Go.Proofs.YtgldkfaiofkhbaaDoor.DigestMem Go.Proofs.YtgldkfaiofkhbaaDoor.Digest Go.Proofs.YtgldkfaiofkhbaaDoor.DigestOf Go.Proofs.YtgldkfaiofkhbaaDoor.TreeMem Go.Proofs.YtgldkfaiofkhbaaDoor.Held Go.Proofs.YtgldkfaiofkhbaaDoor.TwiceP Go.Proofs.YtgldkfaiofkhbaaDoor.SparseP Go.Proofs.YtgldkfaiofkhbaaDoor.Key Go.Proofs.YtgldkfaiofkhbaaDoor.Empties

set_option maxRecDepth 100000 in
set_option maxHeartbeats 2000000 in
theorem emptyH_any (s : Int) (w : World) (hB : Base w) :
    Calls Tryd.prog 51 #[.int .i64 s, .int .i64 256] w fun e w' => e = .returned (.agg (cells8 (emp s 256)).toArray) ∧ Below w.heap.size w w' := by
  obtain ⟨E, hE⟩ : ∃ E : Nat → Text, Hid (∀ i, emp s i = E i) := ⟨_, fun _ => rfl⟩
  have hEl : Hid (∀ i, (E i).length = 32) := fun i => by rw [← hE.out]; exact emp_len s i
  have h0 : Hid (∀ w', Below w.heap.size w w' → ∀ A c, Calls Tryd.prog 87 #[.int .i64 s, .int .i64 5, .slice A 0 c] w' fun e w'' => e = .returned (.agg (cells8 (E 0)).toArray) ∧ Below w'.heap.size w' w'') := fun w' hb A c => by
    have := of_any [] 0 rfl A c s 5 w' (hB.below hb hB.1) (by simp) (by omega) (fun h => absurd h (Nat.lt_irrefl 0))
    rw [← hE.out]
    exact this
  have hT : Hid (∀ i w', Below w.heap.size w w' → Calls Tryd.prog 99 #[.int .i64 s, .agg (cells8 (E i)).toArray, .agg (cells8 (E i)).toArray] w' fun e w'' => e = .returned (.agg (cells8 (E (i + 1))).toArray) ∧ Below w'.heap.size w' w'') := fun i w' hb => by
    have := branch_any (emp s i) (emp s i) (emp_len s i) (emp_len s i) s w' (hB.below hb hB.1)
    rw [emp_step s i] at this
    rw [← hE.out, ← hE.out]
    exact this
  obtain ⟨x, hx⟩ : ∃ x, Hid (E 256 = x) := ⟨_, Lib.hid rfl⟩
  rw [hE.out, hx.out]
  have hz := Lib.hid (fun i => dig_size (E i) (hEl.out i))
  have hz32 : Hid (∀ i, (Z32 : Array Value).size = (cells8 (E i)).toArray.size) := fun i => by simp [cells8_len, hEl.out i, Z32]
  have hzz : Hid (∀ i j, (cells8 (E i)).toArray.size = (cells8 (E j)).toArray.size) := fun i j => by simp [cells8_len, hEl.out]
  have ho := Lib.hid (fun i => dig_one (E i))
  have hbw : Hid (Below w.heap.size w (w.alloc (.cells Z32 23))) := Below.heap_below w _
  have hRw : Hid (Blk (w.alloc (.cells Z32 23)) w.heap.size 23 Z32) := Blk.new w _ _
  clear hB hE
  go_enter Tryd.func51, Tryd.ntmps51
  go_wp2_with (first
    | (go_at_call 87; refine (h0.out _ hbw.out none 0).mono ?_; rintro e w3 ⟨rfl, hb3⟩; have hR3 : Hid (Blk w3 w.heap.size 23 Z32) := (hb3.block _ hRw.out.lt).trans hRw.out; have hbb : Hid (Below w.heap.size w w3) := hbw.out.trans (hb3.mono hbw.out.size); have hlt3 : Hid (w.heap.size < w3.heap.size) := hR3.out.lt; clear hb3)
    | ((with_reducible change wpList _ _ _ ({ dst := none, op := Op.store 23 (.tmp 5) (.tmp 7), type := _, pos := _, after := _, guard := _ } :: _) _ _); refine wpList_store_whole (o := ⟨none, _, _, _, _, _⟩) rfl 23 (.tmp 5) (.tmp 7) rfl w3.heap.size ((cells8 (E 0)).toArray) rfl rfl 23 Z32 (Blk.new w3 _ _) (hz.out 0) (hz32.out 0) (ho.out 0) ?_; intro w4 hB4 hk4; have hb4 : Hid (Below w.heap.size w w4) := hbb.out.trans ((kept_fresh hk4).mono hbb.out.size); have hR4 : Hid (Blk w4 w.heap.size 23 Z32) := ((kept_fresh hk4).block w.heap.size hR3.out.lt).trans hR3.out; replace hB4 := Lib.hid hB4; clear hk4))
  go_loopw [11] (fun v wr => ∃ j : Nat, v = .int .i64 (j : Int) ∧ Hid (j ≤ 256) ∧ Hid (Blk wr w3.heap.size 23 (cells8 (E j)).toArray) ∧ Hid (Blk wr w.heap.size 23 Z32) ∧ Hid (Below w.heap.size w wr)) (fun v _ => 257 - (intOf v).toNat)
  case atStart => exact ⟨0, rfl, Nat.zero_le _, hB4.out, hR4.out, hb4.out⟩
  case round =>
    have hs3 : Hid (w.heap.size < w3.heap.size) := hlt3.out
    clear hB4 hR4 hb4 hlt3 h0 hbw hRw
    generalize w3.heap.size = g at *
    obtain ⟨j, rfl, hj, hG, hR, hbr⟩ := hrel
    by_cases hlt : j < 256
    · have z2 : (j : Int) < 256 := by omega
      have hlt' := Lib.hid hlt
      obtain ⟨x, hx⟩ : ∃ x, Hid (E j = x) := ⟨_, Lib.hid rfl⟩
      have hxs := Lib.hid (hz.out j)
      have hTj := Lib.hid (hT.out j)
      have hGj := hG.out
      rw [hx.out] at hxs hTj hGj
      replace hGj := Lib.hid hGj
      have hxz : Hid ((cells8 x).toArray.size = (cells8 (E (j + 1))).toArray.size) := by show _ = _; rw [← hx.out]; exact hzz.out j (j + 1)
      clear hlt hG
      go_wp2_with (first
    | (((with_reducible change wpList _ _ _ ({ dst := some 14, op := _, type := _, pos := _, after := _, guard := _ } :: _) _ _); refine wpList_load_row (o := ⟨some 14, _, _, _, _, _⟩) rfl 23 (.tmp 5) rfl (g) rfl 23 ((cells8 x).toArray) (0, 0) _ hGj.out Tryd.underlying23 rfl hxs.out ?_))
    | (((with_reducible change wpList _ _ _ ({ dst := some 15, op := _, type := _, pos := _, after := _, guard := _ } :: _) _ _); refine wpList_load_row (o := ⟨some 15, _, _, _, _, _⟩) rfl 23 (.tmp 5) rfl (g) rfl 23 ((cells8 x).toArray) (0, 0) _ hGj.out Tryd.underlying23 rfl hxs.out ?_))
    | (go_at_call 99; refine (hTj.out _ hbr.out).mono ?_; rintro e w8 ⟨rfl, hb8⟩; have hG8 : Hid (Blk w8 g 23 (cells8 x).toArray) := (hb8.block _ hGj.out.lt).trans hGj.out; have hR8 : Hid (Blk w8 w.heap.size 23 Z32) := (hb8.block _ hR.out.lt).trans hR.out; have bb8 : Hid (Below w.heap.size w w8) := hbr.out.trans (hb8.mono hbr.out.size); clear hb8 hGj)
    | ((with_reducible change wpList _ _ _ ({ dst := none, op := Op.store 23 (.tmp 5) (.tmp 16), type := _, pos := _, after := _, guard := _ } :: _) _ _); refine Go.Proofs.YtgldkfaiofkhbaaDoor.Held.wpList_store_whole (o := ⟨none, _, _, _, _, _⟩) rfl 23 (.tmp 5) (.tmp 16) rfl g ((cells8 (E (j + 1))).toArray) rfl rfl 23 (cells8 x).toArray hG8.out (hz.out (j + 1)) hxz.out (ho.out (j + 1)) ?_; intro w9 hB9 hk9; have hb9 : Hid (Below w.heap.size w w9) := bb8.out.trans (Kept.below_of hk9 (Nat.le_of_lt hs3.out) bb8.out.size); have hR9 : Hid (Blk w9 w.heap.size 23 Z32) := hR8.out.kept hk9 (by have := hs3.out; omega); have hG9 := Lib.hid hB9; clear hk9 hB9 hG8 hR8 bb8))
      go_roundw
      case rel => exact ⟨j + 1, by go_num, hlt'.out, hG9.out, hR9.out, hb9.out⟩
      case measure => (have := hlt'.out; simp [intOf]; omega)
    · obtain rfl : j = 256 := by have := hj.out; omega
      have z2 : ¬ (((256 : Nat) : Int) < 256) := by omega
      have hxs := Lib.hid (hz.out 256)
      have hxz := Lib.hid (hz32.out 256)
      have hxo := Lib.hid (ho.out 256)
      have hGj := hG.out
      rw [hx.out] at hxs hxz hxo hGj
      replace hGj := Lib.hid hGj
      clear hlt hG hz hz32 hzz ho hT hEl hx
      go_wp2_with (first
    | (((with_reducible change wpList _ _ _ ({ dst := some 18, op := _, type := _, pos := _, after := _, guard := _ } :: _) _ _); refine wpList_load_row (o := ⟨some 18, _, _, _, _, _⟩) rfl 23 (.tmp 5) rfl (g) rfl 23 ((cells8 x).toArray) (0, 0) _ hGj.out Tryd.underlying23 rfl hxs.out ?_))
    | ((with_reducible change wpList _ _ _ ({ dst := none, op := Op.store 23 (.tmp 4) (.tmp 18), type := _, pos := _, after := _, guard := _ } :: _) _ _); refine wpList_store_row (o := ⟨none, _, _, _, _, _⟩) rfl 23 (.tmp 4) (.tmp 18) rfl w.heap.size (cells8 x).toArray rfl rfl 23 Z32 hR.out hxs.out hxz.out hxo.out ?_))
      refine bodyPost_ret (results_cell_row rfl _ _ w.heap.size 23 (cells8 x).toArray (0, 0) _ rfl (setRow_heap _ _ _ _ _ _ hR.out) Tryd.underlying23 rfl hxs.out) rfl ?_
      exact ⟨rfl, below_setRow hbr.out (Nat.le_refl _) _⟩
end Go.Proofs.YtgldkfaiofkhbaaDoor.EmptyD
